/- Texts of the proof, part 12. -/
import Derived.Lib.ItoaNum
import Derived.Laws.StructEq
import Derived.Lib.AppendStr
import Derived.Lib.UnsafeStr
import Derived.Lib.Builder
import Derived.Shelf.Strings.Builder1
import Derived.Shelf.Strings.BuilderF
import Derived.Shelf.Strings.BuilderK
import Derived.Shelf.Strconv.Itoa0
import Derived.Shelf.Strconv.Itoa1
import Derived.Shelf.LaysM
import Derived.Shelf.Strconv.Itoa2
import Derived.Shelf.Strconv.Itoa3
import Derived.Test.YtnegbdpggideiaaGreatDoorProg
import Derived.Test.YtnegbdpggideiaaGreatDoorCardWSB11
set_option linter.unusedVariables false
set_option linter.unusedSimpArgs false
set_option maxRecDepth 10000
set_option maxHeartbeats 1000000
namespace Go.Proofs.YtnegbdpggideiaaGreatDoor
namespace PW
open Go.RowKit cA Mem Net eS
def kp(T:ai)(k x:Int)(m:Nat):List Int:=((List.range m).filter fun a=>cD k x T.af (a / 2)).map Int.ofNat
theorem wN(T:ai)(k x:Int)(m:Nat):kp T k x (m+1)=kp T k x m++(if cD k x T.af (m / 2) then [(m:Int)] else []):=by
 unfold kp
 rw[List.range_succ,List.filter_append,List.map_append]
 congr 1
 simp only[List.filter_cons,List.filter_nil]
 split<;>simp
theorem Ad(T:ai)(k x:Int)(m:Nat):(kp T k x m).length≤m:=by
 unfold kp
 rw[List.length_map]
 exact Nat.le_trans (List.length_filter_le _ _) (by simp)
theorem uI(T:ai)(k x:Int)(hm:(ao T&&bV T k x)=true):Can Tryz.prog 59 [aP T,cu k x] (· = .tuple [ax (kp T k x (2*T.af.length)),num 0]):=by
 have hll:=bN (Bool.and_eq_true_iff.1 hm).1
 have hst:=fun m=>wN T k x m
 have hlen:=fun m=>Ad T k x m
 refine aF Tryz.func59 rfl Tryz.ntmps59 rfl<|ab (.a 4 rfl<|.k [2,3] rfl)<|aj<|ab (.a 2 rfl<|.c rfl (hm▸nu T k x) rfl<|.a 1 rfl<|.k [2,3,11] rfl)<|ah rfl (fun h1=>?_) (fun h1=>?_)
 ·exact absurd h1 (by decide)
 ·clear h1
  refine ak<|ab (.a 1 rfl<|.k [2,3,6] rfl)<|dW 6 3 1 rfl ?_
  refine aj<|ab (.a 1 rfl<|.k [2,3,6,7] rfl)<|av<|eZ [2,3,6,7] rfl<|bw (fun r s=>∃m,m≤2*T.af.length∧r=2*T.af.length - m∧s=⟨[(2,.aV (bx T) 0),(3,.aV (cj k x) 0),(6,.own 0),(7,num m)],[some (.row 3 1 (kp T k x m).length (aN (kp T k x m)))]⟩) (2*T.af.length) ⟨0,by omega,by omega,rfl⟩ ?_
  rintro r s ⟨m,hm',rfl,rfl⟩
  refine aj<|ab (.a 4 rfl<|.v (aR rfl (hc:=rfl)) rfl<|.a 1 rfl<|.k [2,3,6,7,17] rfl)<|ah rfl (fun h1=>?_) (fun h1=>?_)
  ·have hlt:m<2*T.af.length:=by have:=tt h1;omega
   have hstm:=hst m
   have hlm:=hlen m
   obtain⟨q,hq⟩:∃q,cD k x T.af (m / 2)=q:=⟨_,rfl⟩
   have hof:=yO T k x m hlt hll
   rw[hq]at hof hstm
   refine ak<|aj<|av<|ab (.a 3 rfl<|.c rfl (hof) rfl<|.k [2,3,6,7,23] rfl)<|ah rfl (fun h2=>?_) (fun h2=>?_)
   ·subst h2
    rw[if_pos rfl]at hstm
    refine ba<|au 3 rfl<|ca (aY rfl (bE.rk.get rfl) rfl rfl rfl rfl (by unfold maxLen;omega)) rfl<|au 1 rfl ?_
    refine cE [1] (.c 2<|.c 3<|.c 6<|.c 7<|.nil) (.kept rfl (.dr rfl (bT _ _))<|.nil) rfl rfl (aO ?_)
    refine ay (.a 1 rfl<|.v (aR rfl) rfl<|.a 1 rfl<|.k [2,3,6,7] rfl) ?_
    refine⟨2*T.af.length - (m+1),by omega,m+1,by omega,rfl,?_⟩
    rw[hstm]
    first
     |rfl
     |(simp only[List.length_append,List.length_singleton];rfl)
   ·subst h2
    rw[if_neg (by simp),List.append_nil]at hstm
    refine ak<|ay (.a 1 rfl<|.v (aR rfl) rfl<|.a 1 rfl<|.k [2,3,6,7] rfl) ?_
    refine⟨2*T.af.length - (m+1),by omega,m+1,by omega,rfl,?_⟩
    rw[hstm]
    first
     |rfl
     |(simp only[List.length_append,List.length_singleton];rfl)
  ·have hme:m=2*T.af.length:=by have:=ff h1;omega
   subst hme
   exact bn<|ab (.a 3 rfl<|.k [4,5] rfl)<|aq<|⟨_,_,aA.of rfl,aB.bG (an.cons (aB.ey rfl an.pure) (an.cons aB.pure an.nil)),rfl⟩
def iU(l:List (Int×Int)):List PV:=l.flatMap fun c=>cj c.1 c.2
def wA(l:List (Int×Int)):PV:=.slice l.length (iU l)
instance (l:List (Int×Int)):aG (iU l):=aG.flatMap _ _ fun _=>inferInstance
instance (l:List (Int×Int)):IsPure (wA l):=by unfold wA;infer_instance
theorem ln(l:List (Int×Int))(k x:Int):iU l++cj k x=iU (l++[(k,x)]):=by simp[iU]
def Bk(i:Nat):List (Int×Int):=(List.range i).map fun(j:Nat)=>((1:Int),(j:Int))
def xK(T:ai)(i:Nat):List (Int×Int):=Bk T.af.length++(List.range i).map fun(j:Nat)=>((2:Int),(j:Int))
def pM(T:ai)(i:Nat):List (Int×Int):=xK T T.nodes.toNat++((List.range i).filter fun(j:Nat)=>decide (0<((kp T 3 ((j+1:Nat):Int) (2*T.af.length)).length:Int))).map fun(j:Nat)=>((3:Int),((j+1:Nat):Int))
theorem BB(i:Nat):Bk (i+1)=Bk i++[(1,(i:Int))]:=by simp[Bk,List.range_succ]
theorem By(T:ai)(i:Nat):xK T (i+1)=xK T i++[(2,(i:Int))]:=by simp[xK,List.range_succ]
theorem Bh(T:ai)(i:Nat):pM T (i+1)=pM T i++(if decide (0<((kp T 3 ((i+1:Nat):Int) (2*T.af.length)).length:Int)) then [(3,((i+1:Nat):Int))] else []):=by
 unfold pM
 rw[List.range_succ,List.filter_append,List.map_append,List.append_assoc]
 congr 2
 simp only[List.filter_cons,List.filter_nil]
 split<;>simp
theorem DF(i:Nat):(Bk i).length=i:=by simp[Bk]
theorem tG(T:ai)(i:Nat):(xK T i).length=T.af.length+i:=by simp[xK,Bk]
theorem yl(T:ai)(i:Nat):(pM T i).length≤T.af.length+T.nodes.toNat+i:=by
 unfold pM
 rw[List.length_append,tG,List.length_map]
 have:=List.length_filter_le (fun(j:Nat)=>decide (0<((kp T 3 ((j+1:Nat):Int) (2*T.af.length)).length:Int))) (List.range i)
 rw[List.length_range]at this
 omega
theorem FB{T:ai}{i:Nat}{c:Int×Int}(h:c∈pM T i):(∃j:Nat,j<T.af.length∧c=(1,(j:Int)))∨(∃j:Nat,j<T.nodes.toNat∧c=(2,(j:Int)))∨∃j:Nat,j<i∧c=(3,((j+1:Nat):Int)):=by
 unfold pM xK Bk at h
 simp only[List.mem_append,List.mem_map,List.mem_filter,List.mem_range]at h
 rcases h with(⟨j,h1,rfl⟩|⟨j,h1,rfl⟩)|⟨j,h1,rfl⟩
 ·exact .inl ⟨j,h1,rfl⟩
 ·exact .inr (.inl ⟨j,h1,rfl⟩)
 ·exact .inr (.inr ⟨j,h1.1,rfl⟩)
theorem A7(T:ai):Can Tryz.prog 15 [aP T] (· =wA (if ao T then pM T 64 else [])):=by
 obtain⟨q,hq⟩:∃q,ao T=q:=⟨_,rfl⟩
 rw[hq]
 refine aF Tryz.func15 rfl Tryz.ntmps15 rfl<|ab (.a 2 rfl<|.k [1] rfl)<|ab (.a 1 rfl<|.k [1,3] rfl)<|aj<|ab (.a 1 rfl<|.c rfl (hq▸fC T) rfl<|.a 1 rfl<|.k [1,3,12] rfl)<|ah rfl (fun h1=>?_) (fun h1=>?_)
 ·have h1:q=false:=by simpa using h1
  rw[h1,if_neg (by simp)]
  exact ab (.a 1 rfl<|.k [2] rfl)<|aq<|⟨_,_,aA.of rfl,aB.b9,rfl⟩
 ·have h1:q=true:=by simpa using h1
  rw[h1,if_pos rfl]
  rw[h1]at hq
  have hll:=bN hq
  have hN:=(aJ hq).nodes
  obtain⟨N,hNN⟩:∃N:Nat,T.nodes=(N:Int):=⟨T.nodes.toNat,by omega⟩
  have hNt:T.nodes.toNat=N:=by omega
  refine dW 3 33 2 rfl ?_
  refine ak<|aj<|ab (.a 1 rfl<|.k [1,3,4] rfl)<|av<|eZ [1,3,4] rfl<|bw (fun r s=>∃i,i≤T.af.length∧r=T.af.length - i∧s=⟨[(1,.aV (bx T) 0),(3,.own 0),(4,num i)],[some (.row 33 2 (Bk i).length (iU (Bk i)))]⟩) T.af.length ⟨0,by omega,by omega,rfl⟩ ?_
  rintro r s ⟨i,hi,rfl,rfl⟩
  refine aj<|ab (.a 5 rfl<|.k [1,3,4,17] rfl)<|ah rfl (fun h2=>?_) (fun h2=>?_)
  ·have hli:i<T.af.length:=by have:=tt h2;omega
   have hal:=DF i
   have hst:=BB i
   refine ak<|aj<|av<|ba<|au 4 rfl<|ca (aY rfl (bE.rk.get rfl) rfl rfl rfl rfl (by unfold maxLen;omega)) rfl<|au 1 rfl ?_
   refine cE [1] (.c 1<|.c 3<|.c 4<|.nil) (.kept rfl (.dr rfl (ln _ 1 _))<|.nil) rfl rfl (aO ?_)
   refine ay (.a 1 rfl<|.v (aR rfl) rfl<|.a 1 rfl<|.k [1,3,4] rfl) ?_
   refine⟨T.af.length - (i+1),by omega,i+1,by omega,rfl,?_⟩
   rw[hst]
   first
    |rfl
    |(simp only[List.length_append,List.length_singleton];rfl)
  ·have hie:i=T.af.length:=by have:=ff h2;omega
   subst hie
   refine eh (σ':=[some (.row 33 2 (xK T 0).length (iU (xK T 0)))]) (by rw[show xK T 0=Bk T.af.length by simp[xK]]) ?_
   refine bn<|aj<|ab (.a 1 rfl<|.k [1,3,5] rfl)<|av<|eZ [1,3,5] rfl<|bw (fun r s=>∃i,i≤N∧r=N - i∧s=⟨[(1,.aV (bx T) 0),(3,.own 0),(5,num i)],[some (.row 33 2 (xK T i).length (iU (xK T i)))]⟩) N ⟨0,by omega,by omega,rfl⟩ ?_
   rintro r s ⟨i,hi,rfl,rfl⟩
   refine aj<|ab (.a 2 rfl<|.v (aL rfl ((show some (num T.nodes)=some (num (N:Int)) by rw[hNN]))) rfl<|.a 1 rfl<|.k [1,3,5,28] rfl)<|ah rfl (fun h2=>?_) (fun h2=>?_)
   ·have hli:i<N:=by have:=tt h2;omega
    have hal:=tG T i
    have hst:=By T i
    refine ak<|aj<|av<|ba<|au 4 rfl<|ca (aY rfl (bE.rk.get rfl) rfl rfl rfl rfl (by unfold maxLen;omega)) rfl<|au 1 rfl ?_
    refine cE [1] (.c 1<|.c 3<|.c 5<|.nil) (.kept rfl (.dr rfl (ln _ 2 _))<|.nil) rfl rfl (aO ?_)
    refine ay (.a 1 rfl<|.v (aR rfl) rfl<|.a 1 rfl<|.k [1,3,5] rfl) ?_
    refine⟨N - (i+1),by omega,i+1,by omega,rfl,?_⟩
    rw[hst]
    first
     |rfl
     |(simp only[List.length_append,List.length_singleton];rfl)
   ·have hie:i=N:=by have:=ff h2;omega
    subst hie
    refine eh (σ':=[some (.row 33 2 (pM T 0).length (iU (pM T 0)))]) (by rw[show pM T 0=xK T i by simp[pM,hNt]]) ?_
    refine bn<|aj<|ab (.a 1 rfl<|.k [1,3,6] rfl)<|av<|eZ [1,3,6] rfl<|bw (fun r s=>∃i,i≤64∧r=64 - i∧s=⟨[(1,.aV (bx T) 0),(3,.own 0),(6,num ((i+1:Nat):Int))],[some (.row 33 2 (pM T i).length (iU (pM T i)))]⟩) 64 ⟨0,by omega,by omega,rfl⟩ ?_
    rintro r s ⟨i,hi,rfl,rfl⟩
    refine aj<|ab (.a 2 rfl<|.k [1,3,6,37] rfl)<|ah rfl (fun h2=>?_) (fun h2=>?_)
    ·have hli:i<64:=by have:=tt h2;omega
     have hal:=yl T i
     have hst:=Bh T i
     have har:=uI T 3 ((i+1:Nat):Int) (by
      rw[hq,Bool.true_and]
      unfold bV
      rw[if_neg (by decide),if_neg (by decide),if_pos rfl]
      simp only[Bool.and_eq_true,decide_eq_true_eq]
      omega)
     obtain⟨A,hA⟩:∃A,kp T 3 ((i+1:Nat):Int) (2*T.af.length)=A:=⟨_,rfl⟩
     rw[hA]at har hst
     refine ak<|aj<|av<|aQ<|au 4 rfl<|aH [1,3,6,7] rfl ?_
     refine ab (.a 2 rfl<|.c rfl (har) rfl<|.a 5 rfl<|.k [1,3,6,7,8] rfl)<|ab (.a 3 rfl<|.k [1,3,6,7,50] rfl)<|ah rfl (fun h3=>?_) (fun h3=>?_)
     ·rw[if_pos h3]at hst
      refine ba<|au 3 rfl<|ca (aY rfl (bE.rk.get rfl) rfl rfl rfl rfl (by unfold maxLen;omega)) rfl<|au 1 rfl ?_
      refine cE [2] (.c 1<|.c 3<|.c 6<|.nil) (.kept rfl (.dr rfl (ln _ 3 _))<|.nil) rfl rfl (aO ?_)
      refine ay (.a 1 rfl<|.v (aR rfl) rfl<|.a 1 rfl<|.k [1,3,6] rfl) ?_
      refine⟨64 - (i+1),by omega,i+1,by omega,rfl,?_⟩
      rw[hst]
      first
       |rfl
       |(simp only[List.length_append,List.length_singleton];rfl)
     ·rw[if_neg (by rw[h3];simp),List.append_nil]at hst
      refine cU [0] (.c 1<|.c 3<|.c 6<|.nil) (.kept rfl (.row az.pure)<|.nil) rfl rfl ?_
      refine ak<|ay (.a 1 rfl<|.v (aR rfl) rfl<|.a 1 rfl<|.k [1,3,6] rfl) ?_
      refine⟨64 - (i+1),by omega,i+1,by omega,rfl,?_⟩
      rw[hst]
      first
       |rfl
       |(simp only[List.length_append,List.length_singleton];rfl)
    ·have hie:i=64:=by have:=ff h2;omega
     subst hie
     exact bn<|ab (.a 2 rfl<|.k [2] rfl)<|aq<|⟨_,_,aA.of rfl,aB.ey rfl an.pure,rfl⟩
end PW
end Go.Proofs.YtnegbdpggideiaaGreatDoor
namespace Go.Proofs.YtnegbdpggideiaaGreatDoor
namespace PW
open Go.RowKit cA Mem Net eS
section
variable {T:ai}
theorem Ch.last{D:List Bool}{d n:Nat}{p:List Int}(h:Ch T D d n p):n≠d→∃a,a<2*T.af.length∧aX D a=false∧aS T a=(d:Int):=by
 induction h with
 |nil=>intro h;exact absurd rfl h
 | @cons n a m p h1 h2 h3 h4 _ _ ih=>
  intro _
  by_cases e:m=d
  ·subst e;exact⟨a,h1,h3,h4⟩
  ·exact ih e
theorem DX(a:Nat):(bq T a=(cr T.af (a / 2)).a∧aS T a=(cr T.af (a / 2)).b)∨(bq T a=(cr T.af (a / 2)).b∧aS T a=(cr T.af (a / 2)).a):=by
 unfold aS bq Net.flip
 by_cases h:a % 2=0
 ·rw[if_pos h,if_pos h,if_neg (by omega),show(a+1) / 2=a / 2 by omega]
  exact .inl ⟨rfl,rfl⟩
 ·rw[if_neg h,if_neg h,if_pos (by omega),show(a - 1) / 2=a / 2 by omega]
  exact .inr ⟨rfl,rfl⟩
theorem IN{x:Int}{i:Nat}:cD 2 x T.af i=(decide ((cr T.af i).a=x)||decide ((cr T.af i).b=x)):=by simp[cD]
end
theorem xQ(l:List (Int×Int))(i:Nat)(c:Int×Int)(h:l[i]? =some c):((iU l).drop (i*2)).take 2=cj c.1 c.2:=jv (fun c:Int×Int=>cj c.1 c.2) 2 (fun _=>rfl) l i c h
end PW
end Go.Proofs.YtnegbdpggideiaaGreatDoor
namespace Go.Proofs.YtnegbdpggideiaaGreatDoor
namespace PW
open Go.RowKit cA Mem Net eS
section
variable {T:ai} {M D:List Bool} {n d:Nat}
theorem og{x:dR}{d:Nat}{e:iw}(h:x.eV[d]? =some e):eO x (d:Int)=e:=by
 unfold eO
 rw[Int.toNat_natCast]
 exact lN _ _ _ h
theorem zd(hd:(d:Int)<T.nodes):eO (dV T D n) (d:Int)=⟨bL T D n d,false,[]⟩:=og (Fi (by omega))
theorem Gv(hd:(d:Int)<T.nodes):eO (wu T D n) (d:Int)=j9 T D n d:=og (we (by omega))
theorem Hv(hd:(d:Int)<T.nodes):eO (sM T M n) (d:Int)=qg T (kd T M n) n d:=og (vl (by omega))
noncomputable def oP(T:ai)(M:List Bool)(s:Int)(n:Nat):dR:=if s=0 then dV T [] n else if s=1 then sM T M n else if s=2 then wu T M n else dV T M n
theorem s5{E:List Bool}{a:Nat}{l:List Int}(h:(a:Int)∈cG E l):aX E a=true:=by
 have:=(List.mem_filter.1 h).2
 rwa [Int.toNat_natCast]at this
theorem oK(hv:ao T=true)(hn:(n:Int)<T.nodes){E:List Bool}(hf:bX T E=true)(hE:∀a,aX D a=false→aX E a=false):Ec T D n (dV T E n) where
 ok:=sY hv hn
 node:=rfl
 down:=fun a ha=>by
  have:=s5 ha
  cases h:aX D a with
  |true=>rfl
  |false=>rw[hE a h]at this;cases this
 H5:=fun y p hs=>by
  rw[zd hs.hy]
  exact⟨(hs.FU hf hE).BI.2.1,fun h=>by cases h⟩
theorem pr(hv:ao T=true)(h12:T.nodes≤12)(hn:(n:Int)<T.nodes)(hf:bX T M=true)(hM:∀a,aX D a=false→aX M a=false)(s:Int):Ec T D n (oP T M s n):=by
  unfold oP
  split
  · exact oK hv hn (jC T) (fun a _=>by simp[aX])
  · split
    · refine ⟨AA hv h12 hn, rfl, fun a ha => ?_, fun y p hs => ?_⟩
      · have:=s5 ha
        cases h:aX D a with
        |true=>rfl
        |false=>rw[hM a h]at this;cases this
      · rw[Hv hs.hy]
        have h1:=hs.BI.1
        unfold qg
        have hno:me (kd T M n) (bL T [] n y)=none:=by
          cases hh:me (kd T M n) (bL T [] n y)with
          |none=>rfl
          |some a=>
            obtain⟨h2,h3⟩:=Cu hh
            rw[h1,List.mem_singleton]at h2
            subst h2
            obtain⟨p0,pt,rfl⟩:∃p0 pt,p=p0::pt:=by
              cases p with
              |nil=>exact absurd hs.pos (by simp)
              |cons p0 pt=>exact⟨p0,pt,rfl⟩
            have h4:=hM _ (hs.up p0 (by simp))
            rw[C9]at h3
            simp only[List.getD_cons_zero,Bool.and_eq_true]at h3
            rw[h4]at h3
            exact absurd h3.2.1 (by decide)
        rw[hno]
        exact⟨h1,fun h=>by cases h⟩
    · split
      · refine⟨AP hv h12 hn,rfl,fun a ha=>?_,fun y p hs=>?_⟩
        · have:=s5 ha
          cases h:aX D a with
          |true=>rfl
          |false=>rw[hM a h]at this;cases this
        · rw[Gv hs.hy,(hs.FU hf hM).BI.2.2]
          exact⟨rfl,fun _=>rfl⟩
      · exact oK hv hn hf hM
end
end PW
end Go.Proofs.YtnegbdpggideiaaGreatDoor
namespace Go.Proofs.YtnegbdpggideiaaGreatDoor
namespace PW
open Go.RowKit cA Mem Net eS
section
variable {T:ai} {k x:Int} {d:Nat}
def Gn(k x:Int)(n:Nat):Prop:=k=2∧x=(n:Int)
structure Open (T:ai) (k x:Int) (d n:Nat) (s:List bW):Prop where
 nil:s=[]
 node:(n:Int)<T.nodes
 here:¬Gn k x n
 reach:0≤dN T (aT T k x) d n
structure gm (T:ai) (k x:Int) (d n:Nat) (s:List bW) (q:List Int):Prop where
 Bi:∃D,(∀a,aX D a=false→aX (aT T k x) a=false)∧tT T D d n (fq ⟨1,(n:Int)⟩ s) q
 node:(n:Int)<T.nodes
 here:¬Gn k x n
 len:s.length≤32
theorem DE{a m:Nat}(ha:a<2*T.af.length)(hu:aX (aT T k x) a=false)(hm:aS T a=(m:Int)):¬Gn k x m:=by
 rintro⟨rfl,rfl⟩
 rw[C2 ha,IN,Bool.or_eq_false_iff,decide_eq_false_iff_not,decide_eq_false_iff_not]at hu
 rcases DX (T:=T) a with h|h
 ·exact hu.2 (h.2.symm.trans hm)
 ·exact hu.1 (h.2.symm.trans hm)
theorem Fp(hv:ao T=true){a m:Nat}(ha:a<2*T.af.length)(hm:aS T a=(m:Int)):(m:Int)<T.nodes:=by rw[←hm];exact((aJ hv).head a ha).2
structure HQ (T:ai) (k x:Int) (n:Nat) (a:Int) (b m:Nat):Prop where
 eq:a=(b:Int)
 gH:b<2*T.af.length
 tail:bq T b=(n:Int)
 head:aS T b=(m:Int)
 up:aX (aT T k x) b=false
theorem fI(hv:ao T=true)(h12:T.nodes≤12)(hd:(d:Int)<T.nodes){n:Nat}{s:List bW}{a:Int}{q:List Int}(h:gm T k x d n s (a::q))(st:Int){p:fh}(hp:p.dst=(d:Int))(hh:p.gA=0)(hs:p.stack=s):
  ∃(b m:Nat) (s':List bW),HQ T k x n a b m∧fX T (oP T (aT T k x) st n) p=eA p s' [a]∧gm T k x d m s' q:=by
 obtain⟨D,hD,hl⟩:=h.Bi
 subst hs
 obtain⟨m,s',h1,h2,h3,h4,h5,h6,h7,h8⟩:=AZ (pr hv h12 h.node (fK T k x) hD st) hd hp hh rfl hl h.len
 obtain⟨b,rfl⟩:=Int.eq_ofNat_of_zero_le h2
 rw[Int.toNat_natCast]at h1 h3 h4 h5
 have hup:=hD b h5
 exact⟨b,m,s',⟨rfl,h3,h4,h1,hup⟩,h6,⟨D,hD,h8⟩,Fp hv h3 h1,DE h3 hup h1,Nat.le_trans h7 h.len⟩
theorem gu(hv:ao T=true)(h12:T.nodes≤12)(hd:(d:Int)<T.nodes){n:Nat}{s:List bW}(h:gm T k x d n s [])(st:Int){p:fh}(hp:p.dst=(d:Int))(hs:p.stack=s):
  n=d∧(fX T (oP T (aT T k x) st n) p).aK=[]∧(fX T (oP T (aT T k x) st n) p).dJ= -1:=by
 obtain⟨D,hD,hl⟩:=h.Bi
 subst hs
 obtain⟨e1,e2⟩:=hl.end_
 exact⟨e2,uf (pr hv h12 h.node (fK T k x) hD st) hd hp e2 e1 h.len⟩
end
end PW
end Go.Proofs.YtnegbdpggideiaaGreatDoor
namespace Go.Proofs.YtnegbdpggideiaaGreatDoor
namespace PW
open Go.RowKit cA Mem Net eS
section
variable {T:ai} {k x:Int} {d:Nat}
noncomputable def kS(T:ai)(D:List Bool)(d n:Nat):Nat:=((List.range T.nodes.toNat).filter fun m=>decide (0≤dN T D d m)&&decide (dN T D d m<dN T D d n)).length
theorem tF{D:List Bool}{n:Nat}(hn:(n:Int)<T.nodes):kS T D d n<T.nodes.toNat:=by
 unfold kS
 have h:((List.range T.nodes.toNat).filter fun m=>decide (0≤dN T D d m)&&decide (dN T D d m<dN T D d n)).length<(List.range T.nodes.toNat).length:=by
  refine List.length_filter_lt_length_iff_exists.2 ⟨n,List.mem_range.2 (by omega),?_⟩
  simp
 simpa using h
def Way(T:ai)(k x:Int)(d:Nat)(late:Bool)(n:Nat)(s:List bW)(u:Nat):Prop:=
 (Open T k x d n s∧u=if late then T.nodes.toNat+kS T (aT T k x) d n else 2*T.nodes.toNat+kS T [] d n)∨∃q,gm T k x d n s q∧u=q.length∧q.length<T.nodes.toNat
theorem Way.on{n:Nat}{s:List bW}{u:Nat}(h:Way T k x d false n s u):∃u',u'≤u∧Way T k x d true n s u':=by
 rcases h with⟨h,rfl⟩|⟨q,h,rfl,hl⟩
 ·have h1:=tF (D:=aT T k x) (d:=d) h.node
  refine⟨T.nodes.toNat+kS T (aT T k x) d n,?_,.inl ⟨h,?_⟩⟩
  ·rw[if_neg (by simp)];omega
  ·rw[if_pos rfl]
 ·exact⟨_,Nat.le_refl _,.inr ⟨q,h,rfl,hl⟩⟩
end
end PW
end Go.Proofs.YtnegbdpggideiaaGreatDoor
namespace Go.Proofs.YtnegbdpggideiaaGreatDoor
namespace PW
open Go.RowKit cA Mem Net
def ib(s:List bW):Prop:=∀g∈s,0≤g.kind∧g.kind<100∧0≤g.num∧g.num<100
def Fe(g:bW):List UInt8:=32::(Lib.decDigits g.kind.toNat++58::Lib.decDigits g.num.toNat)
def dG(n:Nat)(s:List bW):List UInt8:=Lib.decDigits n++s.flatMap Fe
def CB(c:UInt8):Prop:=48≤c.toNat∧c.toNat≤57
theorem lD{n:Nat}(h:n<100):∀c∈Lib.decDigits n,CB c:=by
 intro c hc
 by_cases h1:n<10
 ·rw[Lib.decDigits_one h1,List.mem_singleton]at hc
  subst hc
  unfold CB
  rw[UInt8.toNat_ofNat']
  omega
 ·rw[Lib.decDigits_two h1 h]at hc
  simp only[List.mem_cons,List.not_mem_nil,or_false]at hc
  rcases hc with rfl|rfl<;>(unfold CB;rw[UInt8.toNat_ofNat'];omega)
theorem ofNat_inj{a b:Nat}(ha:a<256)(hb:b<256)(h:UInt8.ofNat a=UInt8.ofNat b):a=b:=by
 have:=congrArg UInt8.toNat h
 rw[UInt8.toNat_ofNat',UInt8.toNat_ofNat']at this
 omega
theorem sR{m n:Nat}(hm:m<100)(hn:n<100)(h:Lib.decDigits m=Lib.decDigits n):m=n:=by
 by_cases h1:m<10<;>by_cases h2:n<10
 ·rw[Lib.decDigits_one h1,Lib.decDigits_one h2]at h
  have:=ofNat_inj (by omega) (by omega) (List.cons.inj h).1
  omega
 ·rw[Lib.decDigits_one h1,Lib.decDigits_two h2 hn]at h
  cases(List.cons.inj h).2
 ·rw[Lib.decDigits_two h1 hm,Lib.decDigits_one h2]at h
  cases(List.cons.inj h).2
 ·rw[Lib.decDigits_two h1 hm,Lib.decDigits_two h2 hn]at h
  have e1:=ofNat_inj (by omega) (by omega) (List.cons.inj h).1
  have e2:=ofNat_inj (by omega) (by omega) (List.cons.inj (List.cons.inj h).2).1
  omega
theorem jU{n:Nat}(h:n<100):(Lib.decDigits n).length≤2∧0<(Lib.decDigits n).length:=by
 by_cases h1:n<10
 ·rw[Lib.decDigits_one h1];simp
 ·rw[Lib.decDigits_two h1 h];simp
theorem lB:∀(A B X Y:List UInt8),(∀c∈A,CB c)→(∀c∈B,CB c)→(∀c Z,X=c::Z→¬CB c)→(∀c Z,Y=c::Z→¬CB c)→A++X=B++Y→A=B∧X=Y
 | [],[],X,Y,_,_,_,_,h=>⟨rfl,h⟩
 | [],b::B,X,Y,_,hB,hX,_,h=>absurd (hB b (by simp)) (hX b (B++Y) h)
 |a::A,[],X,Y,hA,_,_,hY,h=>absurd (hA a (by simp)) (hY a (A++X) h.symm)
 |a::A,b::B,X,Y,hA,hB,hX,hY,h=>by
  obtain⟨h1,h2⟩:=List.cons.inj h
  obtain⟨h3,h4⟩:=lB A B X Y (fun c hc=>hA c (by simp[hc])) (fun c hc=>hB c (by simp[hc])) hX hY h2
  exact⟨by rw[h1,h3],h4⟩
theorem lT{s:List bW}:∀c Z,s.flatMap Fe=c::Z→¬CB c:=by
 intro c Z h
 cases s with
 |nil=>cases h
 |cons g s=>
  rw[List.flatMap_cons]at h
  have:=(List.cons.inj h).1
  subst this
  unfold CB
  decide
theorem ui:∀ {s s':List bW},ib s→ib s'→s.flatMap Fe=s'.flatMap Fe→s=s'
 | [],[],_,_,_=>rfl
 | [],g::s',_,_,h=>by rw[List.flatMap_cons]at h;cases h
 |g::s,[],_,_,h=>by rw[List.flatMap_cons]at h;cases h
 |g::s,g'::s',h1,h2,h=>by
  obtain⟨a1,a2,a3,a4⟩:=h1 g (by simp)
  obtain⟨b1,b2,b3,b4⟩:=h2 g' (by simp)
  rw[List.flatMap_cons,List.flatMap_cons]at h
  unfold Fe at h
  rw[List.cons_append,List.cons_append,List.append_assoc,List.append_assoc]at h
  obtain⟨e1,e2⟩:=lB _ _ _ _ (lD (by omega)) (lD (by omega)) (fun c Z h=>by rw[List.cons_append]at h;have:=(List.cons.inj h).1;subst this;unfold CB;decide) (fun c Z h=>by rw[List.cons_append]at h;have:=(List.cons.inj h).1;subst this;unfold CB;decide) (List.cons.inj h).2
  rw[List.cons_append,List.cons_append]at e2
  obtain⟨e3,e4⟩:=lB _ _ _ _ (lD (by omega)) (lD (by omega)) (lT (s:=s)) (lT (s:=s')) (List.cons.inj e2).2
  have k1:=sR (by omega) (by omega) e1
  have k2:=sR (by omega) (by omega) e3
  have k3:=ui (fun x hx=>h1 x (by simp[hx])) (fun x hx=>h2 x (by simp[hx])) e4
  obtain⟨gk,gn⟩:=g
  obtain⟨gk',gn'⟩:=g'
  simp only at a1 b1 a3 b3 k1 k2
  rw[k3,show gk=gk' by omega,show gn=gn' by omega]
theorem B0{n n':Nat}{s s':List bW}(hn:n<100)(hn':n'<100)(h1:ib s)(h2:ib s')(h:dG n s=dG n' s'):n=n'∧s=s':=by
 unfold dG at h
 obtain⟨e1,e2⟩:=lB _ _ _ _ (lD hn) (lD hn') (lT (s:=s)) (lT (s:=s')) h
 exact⟨sR hn hn' e1,ui h1 h2 e2⟩
theorem Bu{s:List bW}(h:ib s):(s.flatMap Fe).length≤s.length*6:=by
 induction s with
 |nil=>simp
 |cons g s ih=>
  obtain⟨a1,a2,a3,a4⟩:=h g (by simp)
  have:=ih (fun x hx=>h x (by simp[hx]))
  have h1:=jU (n:=g.kind.toNat) (by omega)
  have h2:=jU (n:=g.num.toNat) (by omega)
  have h3:(Fe g).length=2+(Lib.decDigits g.kind.toNat).length+(Lib.decDigits g.num.toNat).length:=by
   unfold Fe
   simp only[List.length_cons,List.length_append]
   omega
  rw[List.flatMap_cons,List.length_append,h3,List.length_cons]
  omega
theorem ux{h g:bW}:∀ {s:List bW},g∈s→g=h∨g∈fq h s
 |a::s,hg=>by
  unfold fq
  split
  ·rename_i e
   rcases List.mem_cons.1 hg with rfl|hg
   ·exact .inl e
   ·exact ux hg
  ·exact .inr hg
end PW
end Go.Proofs.YtnegbdpggideiaaGreatDoor
namespace Go.Proofs.YtnegbdpggideiaaGreatDoor
namespace PW
open Go.RowKit cA Mem Net eS
def ev(p:fh)(s:List bW):fh:=⟨p.id,p.src,p.dst,p.pD,s,0⟩
inductive Br (T:ai) (tb:Nat→dR) (p0:fh):Nat→List bW→List Int→Nat→Int→Prop
 |stop {n:Nat} {s:List bW}:(fX T (tb n) (ev p0 s)).aK=[]→Br T tb p0 n s [] n (fX T (tb n) (ev p0 s)).dJ
 |go {n m e:Nat} {s:List bW} {a:Int} {p:List Int} {w:Int}:a∈(fX T (tb n) (ev p0 s)).aK→aS T a.toNat=(m:Int)→Br T tb p0 m (fX T (tb n) (ev p0 s)).eY.stack p e w→Br T tb p0 n s (a::p) e w
section
variable {T:ai} {k x:Int} {d:Nat} {st:Nat→Int} {p0:fh}
noncomputable def tU(T:ai)(M:List Bool)(st:Nat→Int)(n:Nat):dR:=oP T M (st n) n
theorem zD(hv:ao T=true)(h12:T.nodes≤12)(hd:(d:Int)<T.nodes)(hp0:p0.dst=(d:Int)){n e:Nat}{s:List bW}{p:List Int}{w:Int}(hb:Br T (tU T (aT T k x) st) p0 n s p e w):∀ {q:List Int},gm T k x d n s q→p=q∧e=d∧w= -1∧∀a∈p,aX (aT T k x) a.toNat=false:=by
 induction hb with
 | @stop n s h0=>
  intro q h
  cases q with
  |nil=>
   obtain⟨e1,e2,e3⟩:=gu hv h12 hd h (st n) (p:=ev p0 s) hp0 rfl
   exact⟨rfl,e1,e3,fun a ha=>by cases ha⟩
  |cons a q=>
   obtain⟨b,m,s',g,e1,e2⟩:=fI hv h12 hd h (st n) (p:=ev p0 s) hp0 rfl rfl
   rw[show tU T (aT T k x) st n=oP T (aT T k x) (st n) n from rfl,e1]at h0
   cases h0
 | @go n m e s a p w ha hm hr ih=>
  intro q h
  cases q with
  |nil=>
   obtain⟨e1,e2,e3⟩:=gu hv h12 hd h (st n) (p:=ev p0 s) hp0 rfl
   rw[show tU T (aT T k x) st n=oP T (aT T k x) (st n) n from rfl,e2]at ha
   cases ha
  |cons c q=>
   obtain⟨b,m',s',g,e1,e2⟩:=fI hv h12 hd h (st n) (p:=ev p0 s) hp0 rfl rfl
   rw[show tU T (aT T k x) st n=oP T (aT T k x) (st n) n from rfl,e1]at ha ih
   have ha:a∈[c]:=ha
   rw[List.mem_singleton]at ha
   subst ha
   have hmm:m=m':=by
    have h1:=g.head
    rw[g.eq,Int.toNat_natCast,h1]at hm
    omega
   subst hmm
   obtain⟨i1,i2,i3,i4⟩:=ih e2
   refine⟨by rw[i1],i2,i3,fun c hc=>?_⟩
   rcases List.mem_cons.1 hc with rfl|hc
   ·rw[g.eq,Int.toNat_natCast];exact g.up
   ·exact i4 c hc
end
end PW
end Go.Proofs.YtnegbdpggideiaaGreatDoor
namespace Go.Proofs.YtnegbdpggideiaaGreatDoor
namespace PW
open Go.RowKit cA Mem Net eS
section
variable {T:ai} {D D':List Bool} {k x:Int} {d:Nat} {st:Nat→Int} {p0:fh}
end
end PW
end Go.Proofs.YtnegbdpggideiaaGreatDoor
namespace Go.Proofs.YtnegbdpggideiaaGreatDoor
namespace PW
open Go.RowKit cA Mem Net eS
noncomputable def cb(T:ai)(tb:Nat→dR)(p0:fh)(n:Nat)(s:List bW):Out:=fX T (tb n) (ev p0 s)
structure iL (T:ai) (tb:Nat→dR) (p0:fh) (Φ:Nat→Nat→List bW→Prop):Prop where
 node:∀ {u n s},Φ u n s→(n:Int)<T.nodes
 small:∀ {u n s},Φ u n s→ib s∧s.length≤1000
 step:∀ {u n s},Φ u n s→(cb T tb p0 n s).aK=[]∨((cb T tb p0 n s).aK.length≤1000∧cb T tb p0 n s=eA (ev p0 s) (cb T tb p0 n s).eY.stack (cb T tb p0 n s).aK∧
  ∀a∈(cb T tb p0 n s).aK,∃b m:Nat,a=(b:Int)∧b<2*T.af.length∧aS T b=(m:Int)∧∃u',u'<u∧Φ u' m (cb T tb p0 n s).eY.stack)
def It(cs:List Int):Int:=cs.foldl (fun a c=>min (a+c) 1001) 0
def i7(aK:List Int)(cs:List Int):Int:=if aK=[] then 1 else It cs
def di(n:Nat)(o:Out)(vs:List PV)(c:Int):List PV:=[num n,num o.dJ,ax o.aK,.slice vs.length vs,flag false,num c]
inductive Good (T:ai) (tb:Nat→dR) (p0:fh) (Φ:Nat→Nat→List bW→Prop):PV→Nat→List bW→Int→Prop
 |mk {n:Nat} {s:List bW} {vs:List PV} {cs:List Int} {u:Nat}:Φ u n s→vs.length=(cb T tb p0 n s).aK.length→cs.length=(cb T tb p0 n s).aK.length→
   (∀i,i<(cb T tb p0 n s).aK.length→Good T tb p0 Φ (vs.getD i .any) (aS T ((cb T tb p0 n s).aK.getD i 0).toNat).toNat (cb T tb p0 n s).eY.stack (cs.getD i 0))→
   Good T tb p0 Φ (.aV (di n (cb T tb p0 n s) vs (i7 (cb T tb p0 n s).aK cs)) 0) n s (i7 (cb T tb p0 n s).aK cs)
theorem uQ(cs:List Int)(c:Int):It (cs++[c])=min (It cs+c) 1001:=by simp[It]
section
variable {T:ai} {tb:Nat→dR} {p0:fh} {Φ:Nat→Nat→List bW→Prop}
theorem lW:∀(cs:List Int) (b:Int),0≤b→b≤1001→(∀c∈cs,0≤c)→0≤cs.foldl (fun a c=>min (a+c) 1001) b∧cs.foldl (fun a c=>min (a+c) 1001) b≤1001
 | [],b,h1,h2,_=>⟨h1,h2⟩
 |c::cs,b,h1,h2,h3=>by
  have:=h3 c (by simp)
  exact lW cs (min (b+c) 1001) (by omega) (by omega) (fun x hx=>h3 x (by simp[hx]))
theorem Good.bound{v:PV}{n:Nat}{s:List bW}{c:Int}(h:Good T tb p0 Φ v n s c):0≤c∧c≤1001:=by
 induction h with
 | @mk n s vs cs u _ _ h2 _ ih=>
  unfold i7
  split
  ·omega
  ·refine lW cs 0 (by omega) (by omega) fun c hc=>?_
   obtain⟨i,hi⟩:=List.getElem?_of_mem hc
   have hlt:=(List.getElem?_eq_some_iff.1 hi).1
   have:=(ih i (by rw[←h2];exact hlt)).1
   rw[List.getD_eq_getElem?_getD,hi]at this
   exact this
theorem Good.state{v:PV}{n:Nat}{s:List bW}{c:Int}(h:Good T tb p0 Φ v n s c):∃u,Φ u n s:=by
 cases h with
 |mk h _ _ _=>exact⟨_,h⟩
theorem Good.pure{v:PV}{n:Nat}{s:List bW}{c:Int}(h:Good T tb p0 Φ v n s c):IsPure v:=by
 induction h with
 | @mk n s vs cs u _ h1 _ _ ih=>
  haveI:aG vs:=⟨fun i x hx=>by
   have hlt:=(List.getElem?_eq_some_iff.1 hx).1
   have:=ih i (by rw[←h1];exact hlt)
   rw[List.getD_eq_getElem?_getD,hx]at this
   exact this⟩
  unfold di
  infer_instance
theorem Good.parts{v:PV}{n:Nat}{s:List bW}{c:Int}(h:Good T tb p0 Φ v n s c):∃vs cs,v= .aV (di n (cb T tb p0 n s) vs c) 0∧vs.length=(cb T tb p0 n s).aK.length∧cs.length=(cb T tb p0 n s).aK.length∧c=i7 (cb T tb p0 n s).aK cs∧
  ∀i,i<(cb T tb p0 n s).aK.length→Good T tb p0 Φ (vs.getD i .any) (aS T ((cb T tb p0 n s).aK.getD i 0).toNat).toNat (cb T tb p0 n s).eY.stack (cs.getD i 0):=by
 cases h with
 | @mk _ _ vs cs u h1 h2 h3 h4=>exact⟨vs,cs,rfl,h2,h3,rfl,h4⟩
inductive Fa (T:ai) (tb:Nat→dR) (p0:fh):Nat→List bW→Nat→List bW→Prop
 |one {n m:Nat} {s:List bW} {a:Int}:a∈(cb T tb p0 n s).aK→aS T a.toNat=(m:Int)→Fa T tb p0 n s m (cb T tb p0 n s).eY.stack
 |more {n m:Nat} {s:List bW} {a:Int} {n':Nat} {s':List bW}:Fa T tb p0 n' s' n s→a∈(cb T tb p0 n s).aK→aS T a.toNat=(m:Int)→Fa T tb p0 n' s' m (cb T tb p0 n s).eY.stack
theorem iL.one(R:iL T tb p0 Φ){u n m:Nat}{s:List bW}{a:Int}(h:Φ u n s)(ha:a∈(cb T tb p0 n s).aK)(hm:aS T a.toNat=(m:Int)):∃u',u'<u∧Φ u' m (cb T tb p0 n s).eY.stack:=by
 rcases R.step h with h0|⟨_,_,h2⟩
 ·rw[h0]at ha;cases ha
 ·obtain⟨b,m',rfl,_,h3,u',h4,h5⟩:=h2 a ha
  rw[Int.toNat_natCast,h3]at hm
  have:m'=m:=by omega
  subst this
  exact⟨u',h4,h5⟩
theorem iL.Jv(R:iL T tb p0 Φ){n m:Nat}{s s':List bW}(h:Fa T tb p0 n s m s'):∀ {u:Nat},Φ u n s→∃u',u'<u∧Φ u' m s':=by
 induction h with
 |one ha hm=>intro u hu;exact R.one hu ha hm
 |more _ ha hm ih=>
  intro u hu
  obtain⟨u1,h1,h2⟩:=ih hu
  obtain⟨u2,h3,h4⟩:=R.one h2 ha hm
  exact⟨u2,by omega,h4⟩
theorem iL.BL(R:iL T tb p0 Φ){n:Nat}{s:List bW}(h:Fa T tb p0 n s n s):∀ {u:Nat},Φ u n s→False:=by
 intro u
 induction u using Nat.strongRecOn with
 |_ u ih=>
  intro hu
  obtain⟨u',h1,h2⟩:=R.Jv h hu
  exact ih u' h1 h2
end
end PW
end Go.Proofs.YtnegbdpggideiaaGreatDoor
namespace Go.Proofs.YtnegbdpggideiaaGreatDoor
namespace PW
open Go.RowKit cA Mem Net eS
section
variable {T:ai} {k x:Int} {d:Nat} {st:Nat→Int} {p0:fh}
theorem wO{p:fh}{s:List bW}{e:iw}(h:e.aK.length≤1000):(iS p s e).aK.length≤1000:=by
 unfold iS
 split
 ·split
  ·exact Nat.zero_le _
  ·exact h
 ·exact h
theorem yL{x:dR}{p:fh}{s:List bW}{v:Int}{K:Out}(hx:ef T x=true)(hK:K.aK.length≤1000):(Hm T x p s v K).aK.length≤1000:=by
 unfold Hm
 split
 ·rename_i h
  obtain⟨_,_,_,_,h3⟩:=nI hx (Bool.and_eq_true _ _▸h).1
  exact wO h3
 ·exact hK
theorem pB{x:dR}{p:fh}{s:List bW}{K:Out}(hx:ef T x=true)(hK:K.aK.length≤1000):(eU T x p s K).aK.length≤1000:=by
 unfold eU
 split
 ·exact Nat.zero_le _
 ·split
  ·exact Nat.zero_le _
  ·split
   ·exact yL hx (Nat.zero_le _)
   ·split
    ·exact yL hx hK
    ·split
     ·split
      ·exact Nat.zero_le _
      ·split
       ·exact hK
       ·show([_]:List Int).length≤1000;simp
     ·exact Nat.zero_le _
theorem rH(T:ai)(x:dR)(p:fh):(fX T x p).aK.length≤1000:=by
 unfold fX
 split
 ·exact Nat.zero_le _
 ·rename_i h
  have hx:ef T x=true:=by
   cases h2:ef T x with
   |true=>rfl
   |false=>rw[h2]at h;simp at h
  split
  ·exact Nat.zero_le _
  ·exact pB hx (pB hx (Nat.zero_le _))
theorem zI{D:List Bool}(h12:T.nodes≤12)(h16:T.af.length≤16){n:Nat}{l:List bW}{q:List Int}(h:tT T D d n l q):ib l:=by
 induction h with
 |nil=>intro g hg;cases hg
 |node hs _ ih=>
  intro g hg
  rcases List.mem_cons.1 hg with rfl|hg
  ·have:=hs.hy
   exact⟨by simp,by simp,by simp,by simp;omega⟩
  ·exact ih g hg
 |gH ha _ _ _ _ ih=>
  intro g hg
  rcases List.mem_cons.1 hg with rfl|hg
  ·exact⟨by simp,by simp,by simp,by simp;omega⟩
  ·exact ih g hg
theorem s8(h12:T.nodes≤12)(h16:T.af.length≤16){n:Nat}{s:List bW}{q:List Int}(h:gm T k x d n s q):ib s:=by
 obtain⟨D,_,hl⟩:=h.Bi
 intro g hg
 rcases ux (h:=⟨1,(n:Int)⟩) hg with rfl|hg
 ·have:=h.node
  exact⟨by simp,by simp,by simp,by simp;omega⟩
 ·exact zI h12 h16 hl g hg
theorem lj(hv:ao T=true)(h12:T.nodes≤12)(h16:T.af.length≤16)(hd:(d:Int)<T.nodes)(hp0:p0.dst=(d:Int)):iL T (tU T (aT T k x) st) p0 (fun u n s=>∃q,gm T k x d n s q∧u=q.length) where
 node:=fun⟨_,h,_⟩=>h.node
 small:=fun⟨_,h,_⟩=>⟨s8 h12 h16 h,by have:=h.len;omega⟩
 step:=fun {u n s} ⟨q,h,hu⟩=>by
  cases q with
  |nil=>
   obtain⟨_,e2,_⟩:=gu hv h12 hd h (st n) (p:=ev p0 s) hp0 rfl
   exact .inl e2
  |cons a q=>
   obtain⟨b,m,s',g,e1,e2⟩:=fI hv h12 hd h (st n) (p:=ev p0 s) hp0 rfl rfl
   have e1':cb T (tU T (aT T k x) st) p0 n s=eA (ev p0 s) s' [a]:=e1
   refine .inr ⟨rH _ _ _,by rw[e1'];rfl,fun c hc=>?_⟩
   rw[e1']at hc ⊢
   have hc:c∈[a]:=hc
   rw[List.mem_singleton]at hc
   subst hc
   exact⟨b,m,g.eq,g.gH,g.head,q.length,by rw[hu];simp,q,e2,rfl⟩
end
end PW
end Go.Proofs.YtnegbdpggideiaaGreatDoor
namespace Go.Proofs.YtnegbdpggideiaaGreatDoor
namespace PW
open Go.RowKit cA Mem Net eS
structure Lone (T:ai) (tb:Nat→dR) (p0:fh) (Φ:Nat→Nat→List bW→Prop):Prop where
 runs:iL T tb p0 Φ
 one:∀ {u n s},Φ u n s→(cb T tb p0 n s).aK.length≤1
 del:∀ {u n s},Φ u n s→(cb T tb p0 n s).aK=[]→(cb T tb p0 n s).dJ= -1
section
variable {T:ai} {k x:Int} {d:Nat} {st:Nat→Int} {p0:fh}
theorem uv(hv:ao T=true)(h12:T.nodes≤12)(h16:T.af.length≤16)(hd:(d:Int)<T.nodes)(hp0:p0.dst=(d:Int)):Lone T (tU T (aT T k x) st) p0 (fun u n s=>∃q,gm T k x d n s q∧u=q.length) where
 runs:=lj hv h12 h16 hd hp0
 one:=fun {u n s} ⟨q,h,hu⟩=>by
  cases q with
  |nil=>
   obtain⟨_,e2,_⟩:=gu hv h12 hd h (st n) (p:=ev p0 s) hp0 rfl
   have e2':(cb T (tU T (aT T k x) st) p0 n s).aK=[]:=e2
   rw[e2'];simp
  |cons a q=>
   obtain⟨b,m,s',g,e1,e2⟩:=fI hv h12 hd h (st n) (p:=ev p0 s) hp0 rfl rfl
   have e1':cb T (tU T (aT T k x) st) p0 n s=eA (ev p0 s) s' [a]:=e1
   rw[e1'];simp[eA]
 del:=fun {u n s} ⟨q,h,hu⟩ ha=>by
  cases q with
  |nil=>
   obtain⟨_,_,e3⟩:=gu hv h12 hd h (st n) (p:=ev p0 s) hp0 rfl
   exact e3
  |cons a q=>
   obtain⟨b,m,s',g,e1,e2⟩:=fI hv h12 hd h (st n) (p:=ev p0 s) hp0 rfl rfl
   have e1':cb T (tU T (aT T k x) st) p0 n s=eA (ev p0 s) s' [a]:=e1
   rw[e1']at ha
   cases ha
end
end PW
end Go.Proofs.YtnegbdpggideiaaGreatDoor
namespace Go.Proofs.YtnegbdpggideiaaGreatDoor
namespace PW
open Go.RowKit cA Mem Net eS
theorem rm{α:Type}[DecidableEq α]:∀(l m:List α),l.Nodup→(∀a∈l,a∈m)→l.length≤m.length
 | [],m,_,_=>Nat.zero_le _
 |a::l,m,hn,h=>by
  have ha:=h a (by simp)
  rw[List.nodup_cons]at hn
  have h2:=rm l (m.erase a) hn.2 (fun b hb=>(List.mem_erase_of_ne (fun e=>hn.1 (by rw[←e];exact hb))).2 (h b (by simp[hb])))
  rw[List.length_erase_of_mem ha]at h2
  have:=List.length_pos_of_mem ha
  simp only[List.length_cons]
  omega
section
variable {T:ai} {k x:Int} {d:Nat} {st:Nat→Int} {p0:fh}
noncomputable def HU(T:ai)(tb:Nat→dR)(p0:fh)(m a:Nat):Nat→Nat×List bW
 |0=>((aS T a).toNat,(cb T tb p0 m []).eY.stack)
 |j+1=>((aS T ((cb T tb p0 (HU T tb p0 m a j).1 (HU T tb p0 m a j).2).aK.getD 0 0).toNat).toNat,(cb T tb p0 (HU T tb p0 m a j).1 (HU T tb p0 m a j).2).eY.stack)
def H6(T:ai)(k x:Int)(d:Nat)(st:Nat→Int)(p0:fh)(late:Bool)(u n:Nat)(s:List bW):Prop:=
 (Open T k x d n s∧u=if late then T.nodes.toNat+kS T (aT T k x) d n else 2*T.nodes.toNat+kS T [] d n)∨
  ∃(q:List Int) (m a j:Nat),gm T k x d n s q∧u=q.length∧q.length<T.nodes.toNat∧(m:Int)<T.nodes∧a<2*T.af.length∧j+q.length≤T.nodes.toNat∧HU T (tU T (aT T k x) st) p0 m a j=(n,s)
theorem H6.IZ{late:Bool}{u n:Nat}{s:List bW}(h:H6 T k x d st p0 late u n s):Way T k x d late n s u:=by
 rcases h with h|⟨q,_,_,_,h1,h2,h3,_⟩
 ·exact .inl h
 ·exact .inr ⟨q,h1,h2,h3⟩
end
end PW
end Go.Proofs.YtnegbdpggideiaaGreatDoor
namespace Go.Proofs.YtnegbdpggideiaaGreatDoor
namespace PW
open Go.RowKit cA Mem Net eS
section
variable {T:ai} {tb:Nat→dR} {p0:fh} {Φ Ψ:Nat→Nat→List bW→Prop}
theorem iL.inter(R:iL T tb p0 Φ)(S:iL T tb p0 Ψ):iL T tb p0 (fun u n s=>Φ u n s∧∃v,Ψ v n s) where
 node:=fun h=>R.node h.1
 small:=fun h=>R.small h.1
 step:=fun {u n s} ⟨h,v,g⟩=>by
  rcases R.step h with h1|⟨h1,h2,h3⟩
  ·exact .inl h1
  ·refine .inr ⟨h1,h2,fun a ha=>?_⟩
   obtain⟨b,m,e1,e2,e3,u',e4,e5⟩:=h3 a ha
   rcases S.step g with g1|⟨_,_,g3⟩
   ·rw[g1]at ha;cases ha
   ·obtain⟨b',m',f1,f2,f3,v',f4,f5⟩:=g3 a ha
    have hb:b'=b:=by omega
    subst hb
    have hm:m'=m:=by rw[e3]at f3;omega
    subst hm
    exact⟨b',m',f1,f2,f3,u',e4,e5,v',f5⟩
theorem Lone.inter(R:Lone T tb p0 Φ)(S:iL T tb p0 Ψ):Lone T tb p0 (fun u n s=>Φ u n s∧∃v,Ψ v n s):=⟨R.runs.inter S,fun h=>R.one h.1,fun h=>R.del h.1⟩
end
section
variable {T:ai} {k x:Int} {d:Nat} {st:Nat→Int} {p0:fh}
end
end PW
end Go.Proofs.YtnegbdpggideiaaGreatDoor
namespace Go.Proofs.YtnegbdpggideiaaGreatDoor
namespace PW
open Go.RowKit cA Mem Net eS
def qL(k x n:Int):Bool:=decide (k=2)&&decide (x=n)
def qM(T:ai)(k x:Int)(n:Nat):Bool:=(List.range (2*T.af.length)).any fun a=>aX (aT T k x) a&&decide (bq T a=(n:Int))
def xu(s:Int):Bool:=decide (0≤s)&&decide (s≤3)
def yc(c:Bool)(s:Int):Bool:= !decide (s=3)&&(!decide (s=0)|| !c)&&(!decide (s=1)||c)
def yI(s:Int):Bool:=decide (s=2)||decide (s=3)
def ft(k x:Int)(p:Nat→Bool)(m:Nat):Bool:=(List.range m).all fun n=>qL k x n||p n
theorem nP(k x:Int)(p:Nat→Bool)(m:Nat):ft k x p (m+1)=(ft k x p m&&(qL k x m||p m)):=by
 unfold ft
 rw[List.range_succ,List.all_append]
 simp
theorem kH{k x:Int}{p:Nat→Bool}{m:Nat}:ft k x p m=true↔∀n,n<m→qL k x n=false→p n=true:=by
 unfold ft
 rw[List.all_eq_true]
 constructor
 ·intro h n hn hg
  have:=h n (List.mem_range.2 hn)
  rw[hg,Bool.false_or]at this
  exact this
 ·intro h n hn
  cases hg:qL k x n with
  |true=>rfl
  |false=>rw[Bool.false_or];exact h n (List.mem_range.1 hn) hg
def jh(l:List Int)(n:Nat):Int:=l.getD n 0
def mf(T:ai)(k x:Int)(l:List Int):Bool:=
 if(ao T&&bV T k x)&&decide ((l.length:Int)=T.nodes) then ft k x (fun n=>xu (jh l n)) l.length&&(ft k x (fun n=>yc (qM T k x n) (jh l n)) l.length||ft k x (fun n=>yI (jh l n)) l.length) else false
theorem B4{k x:Int}{p:Nat→Bool}{m i:Nat}(hi:i<m)(hg:qL k x i=false)(hp:p i=false):ft k x p m=false:=by
 cases h:ft k x p m with
 |false=>rfl
 |true=>rw[kH.1 h i hi hg]at hp;cases hp
section
variable {T:ai} {k x:Int} {l:List Int}
theorem G3{n:Nat}:qL k x n=true↔Gn k x n:=by
 unfold qL Gn
 simp
theorem Ho{n:Nat}:qL k x n=false↔¬Gn k x n:=by
 rw[←G3];simp
end
end PW
end Go.Proofs.YtnegbdpggideiaaGreatDoor
namespace Go.Proofs.YtnegbdpggideiaaGreatDoor
namespace PW
open Go.RowKit cA Mem Net eS
theorem rK(k x n:Int):Can Tryz.prog 73 [cu k x,num n] (· =flag (qL k x n)):=by
 obtain⟨q1,hq1⟩:∃q,decide (k=2)=q:=⟨_,rfl⟩
 obtain⟨q2,hq2⟩:∃q,decide (x=n)=q:=⟨_,rfl⟩
 unfold qL
 rw[hq1,hq2]
 refine aF Tryz.func73 rfl Tryz.ntmps73 rfl<|ab (.a 2 rfl<|.k [1,2] rfl)<|bC 4 (.raw (.bool (q1&&q2))) [] rfl ?_ ?_
 ·refine .a 2 rfl<|.v (cC rfl (hq1)) rfl<|.a 1 rfl<|?_
  cases q1
  ·exact .a 6 rfl<|.k [4] rfl
  ·exact .a 3 rfl<|.v (cC rfl (hq2)) rfl<|.a 2 rfl<|.k [4] rfl
 exact aq<|⟨_,_,aA.of rfl,aB.pure,rfl⟩
def ve(T:ai)(M:List Bool)(N a:Nat):List Bool:=(List.range N).map fun(n:Nat)=>(List.range a).any fun b=>aX M b&&decide (bq T b=(n:Int))
section
variable {T:ai} {M:List Bool} {N a:Nat}
theorem ym:(ve T M N a).length=N:=by simp[ve]
theorem C8:ve T M N 0=List.replicate N false:=by
 unfold ve
 refine List.ext_getElem (by simp) fun i h1 h2=>by simp
theorem GW(h:aX M a=false):ve T M N (a+1)=ve T M N a:=by
 unfold ve
 refine List.map_congr_left fun n _=>?_
 rw[List.range_succ,List.any_append]
 simp[h]
theorem DU(h:aX M a=true){m:Nat}(hm:bq T a=(m:Int)):ve T M N (a+1)=(ve T M N a).set m true:=by
 refine List.ext_getElem (by simp[ve]) fun i h1 h2=>?_
 rw[List.getElem_set]
 simp only[ve,List.getElem_map,List.getElem_range,List.range_succ,List.any_append,List.any_cons,List.any_nil,Bool.or_false,h,Bool.true_and,hm]
 by_cases e:m=i
 ·subst e;simp
 ·rw[if_neg e,decide_eq_false (by omega),Bool.or_false]
theorem FF{k x:Int}{n:Nat}(hn:n<N):(ve T (aT T k x) N (2*T.af.length)).getD n false=qM T k x n:=by
 unfold ve qM
 simp[hn]
end
set_option maxHeartbeats 4000000 in
theorem zY(T:ai)(k x:Int)(l:List Int)(hl:l.length≤1000):Can Tryz.prog 25 [aP T,cu k x,ax l] (· =flag (mf T k x l)):=by
  obtain⟨q1,hq1⟩:∃q,decide (dL T k x≠0)=q:=⟨_,rfl⟩
  obtain⟨q2,hq2⟩:∃q,decide ((l.length:Int)≠T.nodes)=q:=⟨_,rfl⟩
  have hme:dL T k x=if(ao T&&bV T k x)=true then 0 else 1:=rfl
  refine aF Tryz.func25 rfl Tryz.ntmps25 rfl<|ab (.a 3 rfl<|.k [2,3,4] rfl)<|ab (.a 2 rfl<|.c rfl (jA T k x) rfl<|.a 5 rfl<|.k [2,3,4,7,8] rfl)<|aj<|bC 30 (.raw (.bool (q1||q2))) [2,3,4,7] rfl ?_ ?_
  · refine .a 1 rfl<|.v (cC rfl (hq1)) rfl<|.a 1 rfl<|?_
    cases q1
    · exact .a 3 rfl<|.v (aL rfl (rfl)) rfl<|.v (cC rfl (hq2)) rfl<|.a 1 rfl<|.k [30,2,3,4,7] rfl
    · exact .a 6 rfl<|.k [30,2,3,4,7] rfl
  refine ah rfl (fun hc=>?_) (fun hc=>?_)
  · have hno:mf T k x l=false:=by
      unfold mf
      split
      · rename_i h
        exfalso
        obtain⟨h1,h2⟩:=Bool.and_eq_true_iff.1 h
        rw[if_pos h1]at hme
        rw[←hq1,←hq2,hme]at hc
        simp only[ne_eq,not_true_eq_false,decide_false,Bool.false_or,decide_eq_true_eq]at hc h2
        exact hc h2
      · rfl
    exact ab (.a 1 rfl<|.k [6] rfl)<|aq<|⟨_,_,aA.of rfl,aB.pure,by rw[hno];rfl⟩
  · obtain ⟨rfl, rfl⟩ := Bool.or_eq_false_iff.1 hc
    have hvc:(ao T&&bV T k x)=true:=by
      cases h:(ao T&&bV T k x)with
      |true=>rfl
      |false=>rw[if_neg (by rw[h];decide)]at hme;exact absurd (ff hq1) (by rw[hme];decide)
    have hln:(l.length:Int)=T.nodes:=by have:=ff hq2;simpa using this
    have hP:mf T k x l=(ft k x (fun n=>xu (jh l n)) l.length&&(ft k x (fun n=>yc (qM T k x n) (jh l n)) l.length||ft k x (fun n=>yI (jh l n)) l.length)):=by
      unfold mf
      rw[if_pos (by rw[hvc,decide_eq_true hln];rfl)]
    have hv:=(Bool.and_eq_true_iff.1 hvc).1
    have hMl:=gw T k x
    have hll:=bN hv
    rw[if_pos hvc]at hme
    rw[hme]
    simp only[if_true]
    obtain⟨M,hM⟩:∃M,aT T k x=M:=⟨_,rfl⟩
    obtain⟨N,hN⟩:∃N:Nat,l.length=N:=⟨_,rfl⟩
    have hTN:T.nodes=(N:Int):=by omega
    rw[hM]at hMl ⊢
    refine ak<|aQ<|au 1 rfl<|bz (aL rfl ((show some (num T.nodes)=some (num (N:Int)) by rw[hTN]))) rfl<|ca (dB rfl (bE.rk.get rfl) rfl rfl (rfl:(N:Int)=(N:Int)) (rfl:(N:Int)=(N:Int)) ⟨by unfold maxLen;omega,by omega⟩) rfl<|au 1 rfl<|aH [2,3,4,7,9] rfl ?_
    refine eh (σ':=[some (.row 4 1 N (bP (ve T M N 0)))]) (by rw[C8,←gS];rfl) ?_
    refine aj<|ab (.a 3 rfl<|.k [2,3,4,9,34,35,36] rfl)<|av<|eZ [2,3,4,9,34,35,36] rfl<|bw (fun r st=>∃a,a≤M.length∧r=M.length - a∧st=⟨[(2,ax l),(3,.aV (bx T) 0),(4,.aV (cj k x) 0),(9,.own 0),(34,bf M),(35,num M.length),(36,num a)],[some (.row 4 1 N (bP (ve T M N a)))]⟩) M.length ⟨0,by omega,by omega,rfl⟩ ?_
    rintro r st ⟨a,ha,rfl,rfl⟩
    refine ab (.a 1 rfl<|.k [2,3,4,9,34,35,36,37] rfl)<|aj<|ah rfl (fun hc=>?_) (fun hc=>?_)
    · have hlt:a<M.length:=by have:=tt hc;omega
      obtain⟨b,hb⟩:∃b,aX M a=b:=⟨_,rfl⟩
      obtain⟨m,hm⟩:=Int.eq_ofNat_of_zero_le ((aJ hv).tail a (by omega)).1
      have hmN:=((aJ hv).tail a (by omega)).2
      refine ak<|aj<|av<|ab (.a 1 rfl<|.v (aI (a) rfl) rfl<|.v (aL rfl ((cW M a hlt).trans (by rw[show M.getD a false=b from hb]))) rfl<|.a 2 rfl<|.k [2,3,4,9,10,11,34,35,36] rfl)<|ab (.a 1 rfl<|.k [2,3,4,9,10,34,35,36,41] rfl)<|ah rfl (fun hc=>?_) (fun hc=>?_)
      · have hst:=DU (N:=N) (hb.trans hc) hm
        have hcl:=ym (T:=T) (M:=M) (N:=N) (a:=a)
        refine ba<|au 3 rfl<|ek rfl ((show Can Tryz.prog 79 [aP T,num a] (· =num m) by have h:=iK T a (by omega);rw[hm]at h;exact h)) rfl<|bz (aI (m) rfl) rfl<|br ((by first|exact bQ rfl (bE.tk.get rfl) rfl rfl rfl (by first|omega|(simp;omega))|exact bb rfl (bE.tk.get rfl) rfl rfl rfl (by first|omega|(simp;omega)))) rfl rfl<|aH [2,3,4,9,34,35,36] rfl ?_
        refine ay (.v (aR rfl) rfl<|.a 1 rfl<|.k [2,3,4,9,34,35,36] rfl) ?_
        exact⟨M.length - (a+1),by omega,a+1,by omega,rfl,by rw[hst];rfl⟩
      · have hst:=GW (T:=T) (N:=N) (hb.trans hc)
        refine ak<|ay (.v (aR rfl) rfl<|.a 1 rfl<|.k [2,3,4,9,34,35,36] rfl) ?_
        exact⟨M.length - (a+1),by omega,a+1,by omega,rfl,by rw[hst];rfl⟩
    · have hae:a=M.length:=by have:=ff hc;omega
      refine bn<|ab (.a 2 rfl<|.k [2,4,9,12,13] rfl)<|aj<|ab (.a 3 rfl<|.k [4,9,12,13,48,49,50] rfl)<|av<|eZ [4,9,12,13,48,49,50] rfl<|bw (fun r st=>∃i,i≤l.length∧ft k x (fun n=>xu (jh l n)) i=true∧r=l.length - i∧st=⟨[(4,.aV (cj k x) 0),(9,.own 0),(12,flag (ft k x (fun n=>yc (qM T k x n) (jh l n)) i)),(13,flag (ft k x (fun n=>yI (jh l n)) i)),(48,ax l),(49,num l.length),(50,num i)],[some (.row 4 1 N (bP (ve T M N a)))]⟩) l.length ⟨0,by omega,rfl,by omega,rfl⟩ ?_
      rintro r st ⟨i,hi,hO0,rfl,rfl⟩
      have hcc:∀n,n<N→(ve T M N a).getD n false=qM T k x n:=fun n hn=>by rw[hae,hMl,←hM];exact FF hn
      have hcl:=ym (T:=T) (M:=M) (N:=N) (a:=a)
      have hE:=nP k x (fun n=>yc (qM T k x n) (jh l n)) i
      have hL:=nP k x (fun n=>yI (jh l n)) i
      have hO:=nP k x (fun n=>xu (jh l n)) i
      obtain⟨eb,heb⟩:∃b,ft k x (fun n=>yc (qM T k x n) (jh l n)) i=b:=⟨_,rfl⟩
      obtain⟨lb,hlb⟩:∃b,ft k x (fun n=>yI (jh l n)) i=b:=⟨_,rfl⟩
      rw[heb]at hE ⊢
      rw[hlb]at hL ⊢
      rw[hO0]at hO
      refine ab (.a 1 rfl<|.k [4,9,12,13,48,49,50,51] rfl)<|aj<|ah rfl (fun hc=>?_) (fun hc=>?_)
      · have hlt:i<l.length:=by have:=tt hc;omega
        obtain⟨g,hg⟩:∃g,qL k x i=g:=⟨_,rfl⟩
        obtain⟨c,hcb⟩:∃c,qM T k x i=c:=⟨_,rfl⟩
        have hci:=(hcc i (by omega)).trans hcb
        have hilt:i<N:=by omega
        obtain⟨s,hs⟩:∃s,jh l i=s:=⟨_,rfl⟩
        have hsl:l.getD i 0=s:=hs
        simp only[hg,hcb,hs]at hE hL hO
        refine ak<|aj<|av<|ab (.a 1 rfl<|.v (aI (i) rfl) rfl<|.v (aL rfl ((aD l i hlt).trans (by rw[hsl]))) rfl<|.a 2 rfl<|.k [4,9,12,13,14,15,48,49,50] rfl)<|aj<|ab (.a 2 rfl<|.c rfl (hg▸rK k x i) rfl<|.k [4,9,12,13,14,15,48,49,50,57] rfl)<|ah rfl (fun hc=>?_) (fun hc=>?_)
        · rw[hc,Bool.true_or,Bool.and_true]at hE hL hO
          refine mg (bh (ks:=[4,9,12,13,48,49,50]) rfl) ?_
          refine bn<|ay (.v (aR rfl) rfl<|.a 1 rfl<|.k [4,9,12,13,48,49,50] rfl) ?_
          exact⟨l.length - (i+1),by omega,i+1,by omega,hO,rfl,by rw[hE,hL];rfl⟩
        · have hg0:qL k x i=false:=hg.trans hc
          rw[hc,Bool.false_or]at hE hL hO
          refine ak<|ab (.a 1 rfl<|.k [4,9,12,13,14,48,49,50,58] rfl)<|av<|ab (.a 2 rfl<|.k [4,9,12,13,14,48,49,50,58,59] rfl)<|ah rfl (fun hc=>?_) (fun hc=>?_)
          · have hs0:s=0:=tt hc
            subst hs0
            replace hE:ft k x (fun n=>yc (qM T k x n) (jh l n)) (i+1)=(eb&& !c):=by rw[hE];simp[yc]
            replace hL:ft k x (fun n=>yI (jh l n)) (i+1)=false:=by rw[hL];simp[yI]
            replace hO:ft k x (fun n=>xu (jh l n)) (i+1)=true:=by rw[hO];rfl
            refine ab (.a 1 rfl<|.k [4,9,12,13,14,48,49,50] rfl)<|vG 12 (.raw (.bool (eb&& !c))) [4,9,13,48,49,50] rfl ?_ ?_
            · refine .a 2 rfl<|?_
              cases eb
              · exact .a 7 rfl<|.k [12,4,9,13,48,49,50] rfl
              · exact .a 2 rfl<|.v (aI (i) rfl) rfl<|.v (aL rfl ((cW _ i (by rw[hcl];exact hilt)).trans (by rw[hci];try rfl))) rfl<|.a 3 rfl<|.k [12,4,9,13,48,49,50] rfl
            refine ay (.v (aR rfl) rfl<|.a 1 rfl<|.k [4,9,12,13,48,49,50] rfl) ?_
            exact⟨l.length - (i+1),by omega,i+1,by omega,hO,rfl,by rw[hE,hL];rfl⟩
          · have n0:¬s=0:=ff hc
            refine ab (.a 2 rfl<|.k [4,9,12,13,14,48,49,50,58,69] rfl)<|ah rfl (fun hc=>?_) (fun hc=>?_)
            · have hs0:s=1:=tt hc
              subst hs0
              replace hE:ft k x (fun n=>yc (qM T k x n) (jh l n)) (i+1)=(eb&&c):=by rw[hE];simp[yc]
              replace hL:ft k x (fun n=>yI (jh l n)) (i+1)=false:=by rw[hL];simp[yI]
              replace hO:ft k x (fun n=>xu (jh l n)) (i+1)=true:=by rw[hO];rfl
              refine ab (.a 1 rfl<|.k [4,9,12,13,14,48,49,50] rfl)<|vG 12 (.raw (.bool (eb&&c))) [4,9,13,48,49,50] rfl ?_ ?_
              · refine .a 2 rfl<|?_
                cases eb
                · exact .a 6 rfl<|.k [12,4,9,13,48,49,50] rfl
                · exact .a 2 rfl<|.v (aI (i) rfl) rfl<|.v (aL rfl ((cW _ i (by rw[hcl];exact hilt)).trans (by rw[hci];try rfl))) rfl<|.a 2 rfl<|.k [12,4,9,13,48,49,50] rfl
              refine ay (.v (aR rfl) rfl<|.a 1 rfl<|.k [4,9,12,13,48,49,50] rfl) ?_
              exact⟨l.length - (i+1),by omega,i+1,by omega,hO,rfl,by rw[hE,hL];rfl⟩
            · have n1:¬s=1:=ff hc
              refine ab (.a 2 rfl<|.k [4,9,12,13,48,49,50,58,78] rfl)<|ah rfl (fun hc=>?_) (fun hc=>?_)
              · have hs0:s=2:=tt hc
                subst hs0
                replace hE:ft k x (fun n=>yc (qM T k x n) (jh l n)) (i+1)=eb:=by rw[hE];simp[yc]
                replace hL:ft k x (fun n=>yI (jh l n)) (i+1)=lb:=by rw[hL];simp[yI]
                replace hO:ft k x (fun n=>xu (jh l n)) (i+1)=true:=by rw[hO];rfl
                refine ak<|ay (.v (aR rfl) rfl<|.a 1 rfl<|.k [4,9,12,13,48,49,50] rfl) ?_
                exact⟨l.length - (i+1),by omega,i+1,by omega,hO,rfl,by rw[hE,hL];rfl⟩
              · have n2:¬s=2:=ff hc
                refine ab (.a 2 rfl<|.k [4,9,13,48,49,50,80] rfl)<|ah rfl (fun hc=>?_) (fun hc=>?_)
                · have hs0:s=3:=tt hc
                  subst hs0
                  replace hE:ft k x (fun n=>yc (qM T k x n) (jh l n)) (i+1)=false:=by rw[hE];simp[yc]
                  replace hL:ft k x (fun n=>yI (jh l n)) (i+1)=lb:=by rw[hL];simp[yI]
                  replace hO:ft k x (fun n=>xu (jh l n)) (i+1)=true:=by rw[hO];rfl
                  refine ay (.a 1 rfl<|.k [4,9,12,13,48,49,50] rfl) ?_
                  refine ay (.v (aR rfl) rfl<|.a 1 rfl<|.k [4,9,12,13,48,49,50] rfl) ?_
                  exact⟨l.length - (i+1),by omega,i+1,by omega,hO,rfl,by rw[hE,hL];rfl⟩
                · have n3:¬s=3:=ff hc
                  refine ab (.a 1 rfl<|.k [6] rfl)<|aq ?_
                  have hbad:ft k x (fun n=>xu (jh l n)) l.length=false:=by
                    refine B4 hlt hg0 ?_
                    show xu (jh l i)=false
                    rw[hs]
                    unfold xu
                    by_cases h1:0≤s
                    · rw[decide_eq_false (by omega:¬s≤3),Bool.and_false]
                    · rw[decide_eq_false h1,Bool.false_and]
                  exact⟨_,_,aA.of rfl,aB.pure,by rw[hP,hbad];rfl⟩
      · have hie:i=l.length:=by have:=ff hc;omega
        subst hie
        refine bn<|bC 6 (.raw (.bool (eb||lb))) [] rfl ?_ ?_
        · refine .a 2 rfl<|?_
          cases eb
          · exact .a 3 rfl<|.k [6] rfl
          · exact .a 3 rfl<|.k [6] rfl
        exact aq<|⟨_,_,aA.of rfl,aB.pure,by rw[hP,hO0,heb,hlb];rfl⟩
end PW
end Go.Proofs.YtnegbdpggideiaaGreatDoor
namespace Go.Proofs.YtnegbdpggideiaaGreatDoor
namespace PW
open Go.RowKit cA Mem
inductive A4 (i:Nat):cR→PV→PV→Prop
 |same {blk:cR} (p:PV):A4 i blk p p
 |ptr {ty:TypeId} {xs:List PV} (off:Nat):A4 i (.cells ty xs) (.ptr i off) (.aV xs off)
 |own {e s n:Nat} {xs:List PV}:A4 i (.row e s n xs) (.own i) (.slice n xs)
def jY(i:Nat)(blk:cR)(xs ys:List PV):Prop:=ys.length=xs.length∧∀(j:Nat) x y,xs[j]? =some x→ys[j]? =some y→A4 i blk x y
theorem jY.nil{i:Nat}{blk:cR}:jY i blk [] []:=⟨rfl,fun j x y h=>by simp at h⟩
theorem jY.cons{i:Nat}{blk:cR}{x y:PV}{xs ys:List PV}(h:A4 i blk x y)(hs:jY i blk xs ys):jY i blk (x::xs) (y::ys):=⟨by simp[hs.1],fun j a b h1 h2=>by
 cases j with
 |zero=>simp at h1 h2;subst h1;subst h2;exact h
 |succ j=>exact hs.2 j a b (by simpa using h1) (by simpa using h2)⟩
theorem jY.refl{i:Nat}{blk:cR}(xs:List PV):jY i blk xs xs:=⟨rfl,fun j x y h1 h2=>by rw[h1]at h2;cases h2;exact .same _⟩
inductive ta (i:Nat) (blk:cR):cR→cR→Prop
 |same (b:cR):ta i blk b b
 |cells {ty:TypeId} {xs ys:List PV}:jY i blk xs ys→ta i blk (.cells ty xs) (.cells ty ys)
 |row {e s n:Nat} {xs ys:List PV}:jY i blk xs ys→ta i blk (.row e s n xs) (.row e s n ys)
 |mp {kv kv':List (Value×PV)}:kv'.map (·.1)=kv.map (·.1)→jY i blk (kv.map (·.2)) (kv'.map (·.2))→ta i blk (.mp kv) (.mp kv')
def BR(i:Nat)(blk:cR)(σ σ':cd):Prop:=σ'.length=σ.length∧(σ'[i]? =some none)∧∀j,j≠i→(σ'[j]? =σ[j]? ∨∃b b',σ[j]? =some (some b)∧σ'[j]? =some (some b')∧ta i blk b b')
inductive xR (i:Nat) (blk:cR) (t:bZ):bZ→Prop
 |nil:xR i blk t []
 |cons {t':bZ} (k:Nat) {p q:PV}:look k t=some p→A4 i blk p q→xR i blk t t'→xR i blk t ((k,q)::t')
theorem xR.get{i:Nat}{blk:cR}{t t':bZ}(h:xR i blk t t'):∀k q,look k t'=some q→∃p,look k t=some p∧A4 i blk p q:=by
 induction h with
 |nil=>intro k q h;cases h
 |cons k h1 h2 _ ih=>
  intro j q hj
  simp only[look]at hj
  rw[Bool.cond_eq_ite]at hj
  split at hj
  ·rename_i he
   have:=Nat.eq_of_beq_eq_true he
   subst this
   cases hj
   exact⟨_,h1,h2⟩
  ·exact ih j q hj
section
variable {P:Program} {N L:Nat} {F:Nat→Prop} {base:Nat} {σ σ':cd} {E:Env} {w:World}
theorem A4.rep(hS:Sat F base σ E w){i:Nat}{blk:cR}(hi:σ[i]? =some (some blk)){p q:PV}(h:A4 i blk p q):∀v,cz E w v p→cz (E.kill i) w v q:=by
 obtain⟨_,g⟩:=hS.kill i hi
 intro v hv
 cases h with
 |same _=>exact hv.goes g
 |own=>exact hS.seal hi hv
 | @ptr ty xs off=>
  obtain⟨b,cs,h1,h2,h3,h4⟩:=hS.blk i _ hi
  cases hv with
  |ptr _ _ b' hi' h=>
   have hb:b'=b:=by
    rcases h with h|⟨n,c,h⟩<;>rw[h1]at h<;>cases h
    rfl
   subst hb
   have:=cz.aV (E:=E.kill i) (w:=w) b' 0 off cs.toList xs (Array.getElem?_eq_some_iff.1 h3).1 (fun hM=>hM.2 (by rw[h1];rfl)) (fun j x hx=>by rw[Nat.zero_add];unfold World.cell?;simp only[h3];simpa using hx) h4.1 (fun j x u k1 k2=>(h4.2 j x u k1 k2).goes g)
   rw[Nat.zero_add]at this
   exact this
theorem jY.rep(hS:Sat F base σ E w){i:Nat}{blk:cR}(hi:σ[i]? =some (some blk)){xs ys:List PV}(h:jY i blk xs ys){cs:List Value}(hs:aU E w cs xs):aU (E.kill i) w cs ys:=
 ⟨hs.1.trans h.1.symm,fun j x u k1 k2=>by
  have hj:j<xs.length:=by rw[←h.1];exact(List.getElem?_eq_some_iff.1 k2).1
  exact(h.2 j xs[j] u (by simp[hj]) k2).rep hS hi x (hs.2 j x _ k1 (by simp[hj]))⟩
theorem ta.sat(hS:Sat F base σ E w){i:Nat}{blk:cR}(hi:σ[i]? =some (some blk)){b b':cR}(h:ta i blk b b'){v:Value}(hb:fN base E w v b):fN base (E.kill i) w v b':=by
 obtain⟨_,g⟩:=hS.kill i hi
 cases h with
 |same _=>exact hb.goes g (fun _ _=>rfl)
 |cells hl=>
  obtain⟨b',cs,h1,h2,h3,h4⟩:=hb
  exact⟨b',cs,h1,h2,h3,hl.rep hS hi h4⟩
 |row hl=>
  obtain⟨cs,h1,h2⟩:=hb
  exact⟨cs,h1,hl.rep hS hi h2⟩
 |mp hk hl=>
  obtain⟨r,es,ck,h1,h2,h3,h4,h5⟩:=hb
  exact⟨r,es,ck,h1,h2,h3,h4.trans hk.symm,hl.rep hS hi h5⟩
theorem rP{i:Nat}{blk:cR}(hi:σ[i]? =some (some blk))(h:BR i blk σ σ'){j:Nat}{b':cR}(hj:σ'[j]? =some (some b')):j≠i∧∃b,σ[j]? =some (some b)∧ta i blk b b':=by
 have hne:j≠i:=fun e=>by subst e;rw[h.2.1]at hj;cases hj
 refine⟨hne,?_⟩
 rcases h.2.2 j hne with h|⟨b,b2,h1,h2,h3⟩
 ·rw[h]at hj;exact⟨b',hj,.same _⟩
 ·rw[h2]at hj;cases hj;exact⟨b,h1,h3⟩
theorem Sat.Jb(hS:Sat F base σ E w){i:Nat}{blk:cR}(hi:σ[i]? =some (some blk))(h:BR i blk σ σ'):Sat F base σ' (E.kill i) w:=by
 obtain⟨h1,g⟩:=hS.kill i hi
 have key:∀ {j:Nat} {b':cR},σ'[j]? =some (some b')→∃b,(σ.set i none)[j]? =some (some b):=fun {j b'} hj=>by
  obtain⟨hne,b,hb,_⟩:=rP hi h hj
  exact⟨b,by rw[List.getElem?_set,if_neg (Ne.symm hne)];exact hb⟩
 refine⟨h1.bl,fun b hb=>⟨(h1.fb b hb).1,fun j bl hj=>?_⟩,?_,fun b=>?_,fun j bl hj=>?_,fun j k bj bk b hj hk e1 e2=>?_,h1.gl⟩
 ·obtain⟨b2,hb2⟩:=key hj;exact(h1.fb b hb).2 j b2 hb2
 ·rw[h1.len,h.1,List.length_set]
 ·constructor
  ·intro hM
   rcases(h1.mm b).1 hM with hf|⟨j,bl,h3,h4⟩
   ·exact .inl hf
   ·obtain⟨hne,h5⟩:=gT h3
    rcases h.2.2 j hne with h6|⟨b1,b2,_,h7,_⟩
    ·exact .inr ⟨j,bl,by rw[h6];exact h5,h4⟩
    ·exact .inr ⟨j,b2,h7,h4⟩
  ·rintro(hf|⟨j,bl,h3,h4⟩)
   ·exact(h1.mm b).2 (.inl hf)
   ·obtain⟨b2,hb2⟩:=key h3;exact(h1.mm b).2 (.inr ⟨j,b2,hb2,h4⟩)
 ·obtain⟨_,b,hb,hf⟩:=rP hi h hj
  exact hf.sat hS hi (hS.blk j b hb)
 ·obtain⟨b1,hb1⟩:=key hj
  obtain⟨b2,hb2⟩:=key hk
  exact h1.inj j k b1 b2 b hb1 hb2 e1 e2
theorem vR{c:Code}{t t':bZ}{Q:Exit→St→Prop}(i:Nat){blk:cR}(hi:σ[i]? =some (some blk))(hσ:BR i blk σ σ')(ht:xR i blk t t')(h:W P N L c ⟨t',σ'⟩ Q):W P N L c ⟨t,σ⟩ Q:=fun F base E₀ w₀ E a w hc hs=>by
 obtain⟨_,g⟩:=hs.sat.kill i hi
 refine h F base E₀ w₀ (E.kill i) a w (hc.on g (Below.refl _ _)) ⟨hs.sat.Jb hi hσ,fun k q hq=>?_,hs.jQ,hs.size⟩
 obtain⟨p,h1,h2⟩:=ht.get k q hq
 exact h2.rep hs.sat hi _ (hs.tmp k p h1)
theorem GQ{ops:Array Oper}{l:List Oper}{t t':bZ}{K:St→Prop}(i:Nat){blk:cR}(hi:σ[i]? =some (some blk))(hσ:BR i blk σ σ')(ht:xR i blk t t')(h:WR P N L ops l ⟨t',σ'⟩ K):WR P N L ops l ⟨t,σ⟩ K:=by
 intro F base E₀ w₀ E a w hc hs Q j hQ hl
 obtain⟨_,g⟩:=hs.sat.kill i hi
 refine h F base E₀ w₀ (E.kill i) a w (hc.on g (Below.refl _ _)) ⟨hs.sat.Jb hi hσ,fun k q hq=>?_,hs.jQ,hs.size⟩ Q j hQ hl
 obtain⟨p,h1,h2⟩:=ht.get k q hq
 exact h2.rep hs.sat hi _ (hs.tmp k p h1)
end
end PW
end Go.Proofs.YtnegbdpggideiaaGreatDoor
namespace Go.Proofs.YtnegbdpggideiaaGreatDoor
namespace PW
open Go.RowKit cA Mem
def oQ(l:List UInt8):Value:=.string ⟨l.toArray⟩
theorem bytes_beq(a b:List UInt8):((⟨a.toArray⟩:ByteArray)==⟨b.toArray⟩)=decide (a=b):=Bool.eq_iff_iff.2 (by
 rw[beq_toListBytes,beq_iff_eq,decide_eq_true_eq,ByteArray.toList_eq,ByteArray.toList_eq])
section
variable {P:Program} {kt:TypeId}
theorem FH(b:Bool)(n:Nat)(hu:P.underlying kt=some .string)(a:List UInt8)(w:World):(Instr.checkKey b (n+1) kt (oQ a)).run P w= .ok () w:=by
 simp only[Instr.checkKey,Sem.run_bind,run_underlying hu,Result.andThen_ok,Sem.run_pure,oQ]
theorem GY(n:Nat)(hu:P.underlying kt=some .string)(a b:List UInt8)(w:World):(Op.equalIn (n+1) kt (oQ a) (oQ b)).run P w= .ok (decide (a=b)) w:=by
 have h:=run_equalIn_string w n kt ⟨a.toArray⟩ ⟨b.toArray⟩ hu
 rw[←beq_toListBytes,bytes_beq]at h
 exact h
theorem Gy(hu:P.underlying kt=some .string):ig P kt oQ where
 ni:=fun b a w=>FH b 9999 hu a w
 eql:=fun a b w=>GY _ hu a b w
 now:=⟨_,hu,.inl fun a b=>by simp only[Instr.sameNow,oQ,bytes_beq]⟩
 bits:=fun a=>by
  show Instr.sameBits 10000 (.string ⟨a.toArray⟩) (.string ⟨a.toArray⟩)=true
  unfold Instr.sameBits
  show((⟨a.toArray⟩:ByteArray)==⟨a.toArray⟩)=true
  rw[bytes_beq]
  exact decide_eq_true rfl
variable {t:bZ} {σ:cd} {o:Oper}
theorem Fs{x y:Operand}{ty tz:TypeId}(ho:o.op= .binOp .neq ty x y tz)(hk:od P ty=true)(hx:aC t x=some (.raw (.pointer none)))(hy:aC t y=some (.raw (.pointer none))):bg P σ t o (.raw (.bool false)):=by
 refine vX ho hx hy fun w=>?_
 unfold od at hk
 split at hk
 ·rename_i e hu
  have key:∀d,(Op.equalIn (d+1) ty (.pointer none) (.pointer none)).run P w= .ok true w:=fun d=>by
   simp only[Op.equalIn,Sem.run_bind,run_underlying hu,Result.andThen_ok,Sem.run_pure,Option.isNone_none]
  have:=key 9999
  simp only[Nat.reduceAdd]at this
  simp[eqGuard,binOp,Op.equal,Op.maxDepth,this]
 ·cases hk
theorem EU{x y:Operand}{ty tz:TypeId}{xs:List PV}{k:Nat}(ho:o.op= .binOp .neq ty x y tz)(hk:od P ty=true)(hx:aC t x=some (.aV xs k))(hy:aC t y=some (.raw (.pointer none))):bg P σ t o (.raw (.bool true)):=by
 intro F base E ρ w hρ _ hT
 have h1:=aw hρ hT hx
 have h2:=aw hρ hT hy
 generalize hz:ρ x=z at h1
 generalize hz':ρ y=z' at h2
 cases h2
 cases h1 with
 |aV b o' _ cs _ hb hM hc hl hr=>
  simp only[execOp,ho,hz,hz',Sem.run_bind,eqGuard,binOp,lI hk,Result.andThen_ok,Sem.run_pure]
  exact bd (.raw _)
end
end PW
end Go.Proofs.YtnegbdpggideiaaGreatDoor
namespace Go.Proofs.YtnegbdpggideiaaGreatDoor
namespace PW
open Go.RowKit cA Mem Net eS
abbrev DC:=List (Nat×Nat×List bW)
section
variable (T:ai) (tb:Nat→dR) (p0:fh) (Φ:Nat→Nat→List bW→Prop)
def kI(op:DC)(n:Nat)(s:List bW)(v:PV):Prop:=(∃c,Good T tb p0 Φ v n s c)∨∃i,(i,n,s)∈op∧v= .ptr (i+8) 0
structure mD (op:DC) (kv:List (List UInt8×PV)) (L:List PV):Prop where
 BI:∀e∈kv,∃u n s,Φ u n s∧e.1=dG n s∧kI T tb p0 Φ op n s e.2
 nodup:(kv.map (·.1)).Nodup
 all:∀v∈L,∃n s,kI T tb p0 Φ op n s v
 len:L.length=kv.length
end
section
variable {T:ai} {tb:Nat→dR} {p0:fh} {Φ:Nat→Nat→List bW→Prop}
theorem kI.more{op:DC}{x:Nat×Nat×List bW}{n:Nat}{s:List bW}{v:PV}(h:kI T tb p0 Φ op n s v):kI T tb p0 Φ (x::op) n s v:=by
 rcases h with h|⟨i,h,e⟩
 ·exact .inl h
 ·exact .inr ⟨i,List.mem_cons_of_mem _ h,e⟩
theorem mD.push{op:DC}{kv:List (List UInt8×PV)}{L:List PV}(h:mD T tb p0 Φ op kv L){u n i:Nat}{s:List bW}(hΦ:Φ u n s)(hno:dG n s∉kv.map (·.1)):
  mD T tb p0 Φ ((i,n,s)::op) (kv++[(dG n s,.ptr (i+8) 0)]) (L++[.ptr (i+8) 0]) where
 BI:=fun e he=>by
  rcases List.mem_append.1 he with he|he
  ·obtain⟨u,n,s,h1,h2,h3⟩:=h.BI e he
   exact⟨u,n,s,h1,h2,h3.more⟩
  ·rw[List.mem_singleton]at he
   subst he
   exact⟨u,n,s,hΦ,rfl,.inr ⟨i,List.mem_cons_self,rfl⟩⟩
 nodup:=by
  rw[List.map_append,List.nodup_append]
  refine⟨h.nodup,by simp,fun a ha b hb e=>?_⟩
  subst e
  simp only[List.map_cons,List.map_nil,List.mem_singleton]at hb
  subst hb
  exact hno ha
 all:=fun v hv=>by
  rcases List.mem_append.1 hv with hv|hv
  ·obtain⟨n,s,h1⟩:=h.all v hv
   exact⟨n,s,h1.more⟩
  ·rw[List.mem_singleton]at hv
   subst hv
   exact⟨n,s,.inr ⟨i,List.mem_cons_self,rfl⟩⟩
 len:=by simp[h.len]
theorem vP{i:Nat}{blk:cR}{Q Q':PV→Prop}(h:∀v,Q v→∃v',A4 i blk v v'∧Q' v'):∀L:List PV,(∀v∈L,Q v)→∃L',jY i blk L L'∧∀v∈L',Q' v
 | [],_=>⟨[],.nil,fun v hv=>by cases hv⟩
 |v::L,hL=>by
  obtain⟨v',h1,h2⟩:=h v (hL v (by simp))
  obtain⟨L',h3,h4⟩:=vP h L (fun w hw=>hL w (by simp[hw]))
  exact⟨v'::L',.cons h1 h3,fun w hw=>by
   rcases List.mem_cons.1 hw with rfl|hw
   ·exact h2
   ·exact h4 w hw⟩
theorem Bn{i:Nat}{blk:cR}{Q Q':List UInt8→PV→Prop}(h:∀k v,Q k v→∃v',A4 i blk v v'∧Q' k v'):∀kv:List (List UInt8×PV),(∀e∈kv,Q e.1 e.2)→∃kv':List (List UInt8×PV),kv'.map (·.1)=kv.map (·.1)∧jY i blk (kv.map (·.2)) (kv'.map (·.2))∧∀e∈kv',Q' e.1 e.2
 | [],_=>⟨[],rfl,.nil,fun v hv=>by cases hv⟩
 |e::L,hL=>by
  obtain⟨v',h1,h2⟩:=h e.1 e.2 (hL e (by simp))
  obtain⟨L',h3,h4,h5⟩:=Bn h L (fun w hw=>hL w (by simp[hw]))
  exact⟨(e.1,v')::L',by simp[h3],.cons h1 h4,fun w hw=>by
   rcases List.mem_cons.1 hw with rfl|hw
   ·exact h2
   ·exact h5 w hw⟩
theorem mD.close{op:DC}{i n:Nat}{s:List bW}{kv:List (List UInt8×PV)}{L:List PV}(h:mD T tb p0 Φ ((i,n,s)::op) kv L){ty:TypeId}{xs:List PV}{c:Int}(hg:Good T tb p0 Φ (.aV xs 0) n s c):
  ∃kv' L',mD T tb p0 Φ op kv' L'∧kv'.map (·.1)=kv.map (·.1)∧jY (i+8) (.cells ty xs) (kv.map (·.2)) (kv'.map (·.2))∧jY (i+8) (.cells ty xs) L L':=by
 have key:∀n1 s1 v,kI T tb p0 Φ ((i,n,s)::op) n1 s1 v→∃v',A4 (i+8) (.cells ty xs) v v'∧kI T tb p0 Φ op n1 s1 v':=fun n1 s1 v hv=>by
  rcases hv with hv|⟨i1,h1,rfl⟩
  ·exact⟨v,.same _,.inl hv⟩
  ·rcases List.mem_cons.1 h1 with h1|h1
   ·cases h1
    exact⟨_,.ptr 0,.inl ⟨c,hg⟩⟩
   ·exact⟨_,.same _,.inr ⟨i1,h1,rfl⟩⟩
 obtain⟨kv',k1,k2,k3⟩:=Bn (i:=i+8) (blk:=.cells ty xs) (Q:=fun k v=>∃u n1 s1,Φ u n1 s1∧k=dG n1 s1∧kI T tb p0 Φ ((i,n,s)::op) n1 s1 v) (Q':=fun k v=>∃u n1 s1,Φ u n1 s1∧k=dG n1 s1∧kI T tb p0 Φ op n1 s1 v) (fun k v ⟨u,n1,s1,h1,h2,h3⟩=>by
  obtain⟨v',h4,h5⟩:=key n1 s1 v h3
  exact⟨v',h4,u,n1,s1,h1,h2,h5⟩) kv h.BI
 obtain⟨L',l1,l2⟩:=vP (i:=i+8) (blk:=.cells ty xs) (Q:=fun v=>∃n1 s1,kI T tb p0 Φ ((i,n,s)::op) n1 s1 v) (Q':=fun v=>∃n1 s1,kI T tb p0 Φ op n1 s1 v) (fun v ⟨n1,s1,h3⟩=>by
  obtain⟨v',h4,h5⟩:=key n1 s1 v h3
  exact⟨v',h4,n1,s1,h5⟩) L h.all
 refine⟨kv',L',⟨k3,by rw[k1];exact h.nodup,l2,?_⟩,k1,k2,l1⟩
 have:=congrArg List.length k1
 simp only[List.length_map]at this
 rw[l1.1,h.len,this]
theorem mD.I7(R:iL T tb p0 Φ)(h12:T.nodes≤12){U:List (Nat×List bW)}(hU:∀ {u n s},Φ u n s→(n,s)∈U){op:DC}{kv:List (List UInt8×PV)}{L:List PV}(h:mD T tb p0 Φ op kv L):kv.length≤U.length:=by
 have key:∀kv:List (List UInt8×PV),(∀e∈kv,∃u n s,Φ u n s∧e.1=dG n s)→∃sts:List (Nat×List bW),sts.map (fun x=>dG x.1 x.2)=kv.map (·.1)∧∀x∈sts,x∈U:=fun kv=>by
  induction kv with
  |nil=>intro _;exact⟨[],rfl,fun x hx=>by cases hx⟩
  |cons e kv ih=>
   intro he
   obtain⟨u,n,s,h1,h2⟩:=he e (by simp)
   obtain⟨sts,h3,h4⟩:=ih (fun e h=>he e (by simp[h]))
   exact⟨(n,s)::sts,by simp[h3,h2],fun x hx=>by
    rcases List.mem_cons.1 hx with rfl|hx
    ·exact hU h1
    ·exact h4 x hx⟩
 obtain⟨sts,h1,h2⟩:=key kv (fun e he=>by
  obtain⟨u,n,s,h1,h2,_⟩:=h.BI e he
  exact⟨u,n,s,h1,h2⟩)
 have hn:=h.nodup
 rw[←h1]at hn
 have hnd:sts.Nodup:=by
  unfold List.Nodup at hn ⊢
  rw[List.pairwise_map]at hn
  exact hn.imp fun hab e=>hab (by rw[e])
 have:=rm sts U hnd h2
 have h3:=congrArg List.length h1
 simp only[List.length_map]at h3
 omega
theorem mD.G8(R:iL T tb p0 Φ)(h12:T.nodes≤12){op:DC}{kv:List (List UInt8×PV)}{L:List PV}(h:mD T tb p0 Φ op kv L){u n:Nat}{s:List bW}(hΦ:Φ u n s)(hop:∀x∈op,Fa T tb p0 x.2.1 x.2.2 n s){v:PV}(hv:cY (dG n s) kv=some v):∃c,Good T tb p0 Φ v n s c:=by
 obtain⟨u1,n1,s1,h1,h2,h3⟩:=h.BI _ (iB hv)
 have a1:=R.node h1
 have a2:=R.node hΦ
 obtain⟨rfl,rfl⟩:=B0 (by omega) (by omega) (R.small hΦ).1 (R.small h1).1 h2
 rcases h3 with h3|⟨i,h4,_⟩
 ·exact h3
 ·exact(R.BL (hop _ h4) h1).elim
theorem rY{κ:Type}[DecidableEq κ]{k:κ}:∀ {l:List (κ×PV)},cY k l=none→k∉l.map (·.1)
 | [],_=>by simp
 |(a,q)::l,h=>by
  simp only[cY]at h
  split at h
  ·cases h
  ·rename_i hne
   rw[List.map_cons,List.mem_cons]
   rintro(e|e)
   ·exact hne e
   ·exact rY h e
theorem mT{κ:Type}[DecidableEq κ]{k:κ}{p:PV}:∀ {l:List (κ×PV)},cY k l=none→hZ k p l=l++[(k,p)]
 | [],_=>rfl
 |(a,q)::l,h=>by
  simp only[cY]at h
  split at h
  ·cases h
  ·rename_i hne
   simp only[hZ]
   rw[if_neg hne,mT h]
   rfl
end
end PW
end Go.Proofs.YtnegbdpggideiaaGreatDoor
namespace Go.Proofs.YtnegbdpggideiaaGreatDoor
namespace PW
open Go.RowKit cA Mem Net eS
def IT(P:Program)(ty:TypeId):Option (Nat×List Value):=match P.info? ty,P.underlying ty with
 |some it,some (.array _ e)=>match it.zero,P.info? e with
  |some z,some ie=>some (ie.size,z.cells.toList)
  |_,_=>none
 |_,_=>none
theorem xO{P:Program}{σ:cd}{t:bZ}{o:Oper}{ty s:TypeId}{parts:Array (Nat×Operand)}{zero:List Value}{ps:List (Nat×List PV)}{xs:List PV}(ho:o.op= .build ty parts)(hk:IT P ty=some (s,zero))(hp:gW t parts.toList=some ps)
  (hf:jO (fun i=>some (i*s,s)) (zero.map .raw) ps=some xs):bg P σ t o (.agg xs):=by
 intro F base E ρ w hρ hS hT
 obtain⟨h1,h2⟩:=jD hρ hT parts.toList ps hp
 have hz:aU E w zero.toArray.toList (zero.map .raw):=⟨by simp,fun i x u k1 k2=>by
  simp only[List.getElem?_map,Option.map_eq_some_iff]at k2
  obtain⟨y,hy,rfl⟩:=k2
  simp only at k1
  rw[hy]at k1
  cases k1
  exact .raw _⟩
 obtain⟨cs,hc,hR⟩:=lq (fun i=>some (i*s,s)) _ ps zero.toArray _ xs hz h1 h2 hf
 have hb:P.built ty ((parts.map fun(i,x)=>(i,ρ x)).toList)=some cs:=by
  unfold IT at hk
  split at hk
  ·rename_i it n e G8 hu
   split at hk
   ·rename_i z ie hz' hie
    cases hk
    simp only[Program.built,G8,hu,hz',hie,Array.toList_map]
    simpa using hc
   ·cases hk
  ·cases hk
 have hrun:=run_build (P:=P) w ty (parts.map fun(i,x)=>(i,ρ x)) cs hb
 simp only[execOp,ho,Sem.run_bind,hrun,Result.andThen_ok,Sem.run_pure]
 exact bd (.agg cs xs (by have:=hR.1;rw[Array.length_toList]at this;exact this) (fun i x u k1 k2=>hR.2 i x u (by simpa using k1) k2))
theorem jK.Hh{n:Nat}{xs ys:List PV}(hl:ys.length=xs.length)(h:∀(i:Nat) x y,xs[i]? =some x→ys[i]? =some y→jK x y):jK (.slice n xs) (.slice n ys):=fun E w v hv=>by
 cases hv with
 |b9=>
  have:ys=[]:=List.eq_nil_of_length_eq_zero hl
  subst this
  exact .b9
 |empty a c hc=>
  have:ys=[]:=List.eq_nil_of_length_eq_zero hl
  subst this
  exact .empty a c hc
 |slice b off _ c cs _ h0 h1 h2 hb hM hc hl2 hr=>
  exact .slice b off n c cs ys h0 h1 h2 hb hM hc (hl2.trans hl.symm) (fun i x u k1 k2=>by
   have hi:i<xs.length:=by rw[←hl];exact(List.getElem?_eq_some_iff.1 k2).1
   exact h i xs[i] u (by simp[hi]) k2 E w x (hr i x _ k1 (by simp[hi])))
def yr(T:ai)(n:Nat):dR:=⟨n,List.replicate T.nodes.toNat ⟨[],false,[]⟩,bm T n⟩
noncomputable def FP(T:ai)(k x:Int)(n:Nat)(s:Int):dR:=if qL k x n=true then yr T n else oP T (aT T k x) s n
noncomputable def qW(T:ai)(k x:Int)(l:List Int)(m:Nat):List dR:=(List.range m).map fun n=>FP T k x n (jh l n)
def HF(T:ai)(k x:Int)(l:List Int):Int:=if((ao T&&bV T k x)&&decide ((l.length:Int)=T.nodes))=true then(if mf T k x l=true then 0 else 7) else 1
noncomputable def Gc(e:Int)(L:List dR):PV:=.tuple [fR (if e=0 then L else []),num e]
theorem Ca{T:ai}{k x:Int}{l:List Int}{m:Nat}:qW T k x l (m+1)=qW T k x l m++[FP T k x m (jh l m)]:=by simp[qW,List.range_succ]
theorem Ab(n:Nat):(dp [.raw (.slice none 0 0),.raw (.bool false),.raw (.slice none 0 0)] n).length=(dq (List.replicate n ⟨[],false,[]⟩)).length∧∀(i:Nat) x y,(dp [.raw (.slice none 0 0),.raw (.bool false),.raw (.slice none 0 0)] n)[i]? =some x→(dq (List.replicate n ⟨[],false,[]⟩))[i]? =some y→jK x y:=by
 induction n with
 |zero=>exact⟨rfl,fun i x y h=>by simp[dp]at h⟩
 |succ n ih=>
  refine⟨by simp only[dp,List.replicate_succ,dq,List.flatMap_cons,List.length_append]at ih ⊢;rw[ih.1];rfl,fun i x y h1 h2=>?_⟩
  simp only[dp,List.replicate_succ,dq,List.flatMap_cons]at h1 h2
  match i,h1,h2 with
  |0,h1,h2=>simp[jR]at h1 h2;subst h1 h2;exact .b9
  |1,h1,h2=>simp[jR]at h1 h2;subst h1 h2;exact jK.refl _
  |2,h1,h2=>simp[jR]at h1 h2;subst h1 h2;exact .b9
  |i+3,h1,h2=>exact ih.2 i x y (by simpa using h1) (by simpa[dq,jR]using h2)
theorem Eh(T:ai)(n:Int)(X:dR)(h:Can Tryz.prog 67 [aP T,num n] (· = .tuple [fA X,num 0])):Can Tryz.prog 66 [num n,.aV (bx T) 0] (· = .tuple [fA X,num 0]):=by
 refine aF Tryz.func66 rfl Tryz.ntmps66 rfl<|aQ<|au 2 rfl<|aH [0,1,3] rfl ?_
 refine aQ<|au 2 rfl<|ek rfl (h) rfl<|au 4 rfl<|aH [3,4] rfl ?_
 exact aq<|⟨_,_,aA.of rfl,aB.pure (p:=.tuple [fA X,num 0]),rfl⟩
theorem FJ(T:ai)(k x n:Int)(X:dR)(h:Can Tryz.prog 55 [aP T,cu k x,num n] (· = .tuple [fA X,num 0])):Can Tryz.prog 68 [num n,.aV (bx T) 0,.aV (cj k x) 0] (· = .tuple [fA X,num 0]):=by
 refine aF Tryz.func68 rfl Tryz.ntmps68 rfl<|aQ<|au 2 rfl<|aH [0,1,2,4] rfl ?_
 refine aQ<|au 3 rfl<|ek rfl (h) rfl<|au 4 rfl<|aH [4,5] rfl ?_
 exact aq<|⟨_,_,aA.of rfl,aB.pure (p:=.tuple [fA X,num 0]),rfl⟩
theorem EY(T:ai)(k x n:Int)(X:dR)(h:Can Tryz.prog 70 [aP T,cu k x,num n] (· = .tuple [fA X,num 0])):Can Tryz.prog 69 [num n,.aV (bx T) 0,.aV (cj k x) 0] (· = .tuple [fA X,num 0]):=by
 refine aF Tryz.func69 rfl Tryz.ntmps69 rfl<|aQ<|au 2 rfl<|aH [0,1,2,4] rfl ?_
 refine aQ<|au 3 rfl<|ek rfl (h) rfl<|au 4 rfl<|aH [4,5] rfl ?_
 exact aq<|⟨_,_,aA.of rfl,aB.pure (p:=.tuple [fA X,num 0]),rfl⟩
theorem Ey(T:ai)(k x n:Int)(X:dR)(h:Can Tryz.prog 72 [aP T,cu k x,num n] (· = .tuple [fA X,num 0])):Can Tryz.prog 71 [num n,.aV (bx T) 0,.aV (cj k x) 0] (· = .tuple [fA X,num 0]):=by
 refine aF Tryz.func71 rfl Tryz.ntmps71 rfl<|aQ<|au 2 rfl<|aH [0,1,2,4] rfl ?_
 refine aQ<|au 3 rfl<|ek rfl (h) rfl<|au 4 rfl<|aH [4,5] rfl ?_
 exact aq<|⟨_,_,aA.of rfl,aB.pure (p:=.tuple [fA X,num 0]),rfl⟩
theorem lZ(x:dR):jl 0 x= .tuple [fA x,num 0]:=rfl
theorem Hp(T:ai)(k x:Int)(h12:T.nodes≤12)(hvc:(ao T&&bV T k x)=true){i:Nat}(hi:(i:Int)<T.nodes){s:Int}(hs:xu s=true){FS:List PV}(hFS:[.func 66 [.aV (bx T) 0],.func 68 [.aV (bx T) 0,.aV (cj k x) 0],.func 69 [.aV (bx T) 0,.aV (cj k x) 0],.func 71 [.aV (bx T) 0,.aV (cj k x) 0]]=FS):
  ∃f cap,FS[s.toNat]? =some (.func f cap)∧enters Tryz.prog f=true∧Can Tryz.prog f ([num i]++cap) (· = .tuple [fA (oP T (aT T k x) s i),num 0])∧aG ([num i]++cap):=by
 have hv:=(Bool.and_eq_true_iff.1 hvc).1
 have hme:dL T k x=0:=by unfold dL;rw[if_pos hvc]
 have hn:bu T i=true:=by rw[aW];omega
 have htr:jw T k x i=0:=by unfold jw;rw[if_pos hme,if_pos hn]
 have hch:cO T [] [(i:Int)]=0:=by
  unfold cO
  rw[hv]
  simp[bX,hn]
 subst hFS
 obtain⟨h0,h3⟩:=Bool.and_eq_true_iff.1 hs
 have h0:=of_decide_eq_true h0
 have h3:=of_decide_eq_true h3
 have h1:=Cv T i
 rw[hch,lZ,Int.toNat_natCast]at h1
 have h2:=sd T k x i h12
 rw[if_pos hme,if_pos hn,lZ,Int.toNat_natCast]at h2
 have h4:=Bf T k x i h12
 rw[htr,lZ,Int.toNat_natCast]at h4
 have h5:=BY T k x i
 rw[htr,lZ,Int.toNat_natCast]at h5
 rcases(by omega:s=0∨s=1∨s=2∨s=3)with e|e|e|e
 ·subst e
  exact⟨_,_,rfl,by kernel_rfl,Eh T i _ h1,by infer_instance⟩
 ·subst e
  exact⟨_,_,rfl,by kernel_rfl,FJ T k x i _ h2,by infer_instance⟩
 ·subst e
  exact⟨_,_,rfl,by kernel_rfl,EY T k x i _ h4,by infer_instance⟩
 ·subst e
  exact⟨_,_,rfl,by kernel_rfl,Ey T k x i _ h5,by infer_instance⟩
theorem Jg:IT Tryz.prog 100=some (1,[.nilFunc,.nilFunc,.nilFunc,.nilFunc]):=by kernel_rfl
theorem s7{T:ai}{k x:Int}{l:List Int}{m:Nat}:(qW T k x l m).length=m:=by simp[qW]
set_option maxHeartbeats 4000000 in
theorem zf(T:ai)(k x:Int)(l:List Int)(hl:l.length≤1000)(h12:T.nodes≤12):Can Tryz.prog 20 [aP T,cu k x,ax l] (· =Gc (HF T k x l) (qW T k x l l.length)):=by
  obtain⟨q1,hq1⟩:∃q,(ao T&&bV T k x)=q:=⟨_,rfl⟩
  obtain⟨q2,hq2⟩:∃q,decide ((l.length:Int)≠T.nodes)=q:=⟨_,rfl⟩
  obtain⟨q3,hq3⟩:∃q,mf T k x l=q:=⟨_,rfl⟩
  have hE:HF T k x l=if(q1&& !q2)=true then(if q3=true then 0 else 7) else 1:=by
    unfold HF
    rw[hq1,hq3,←hq2]
    simp
  rw[hE]
  refine aF Tryz.func20 rfl Tryz.ntmps20 rfl<|ab (.a 4 rfl<|.k [2,3,4] rfl)<|aj<|bC 23 (.raw (.bool (!q1 ||q2))) [2,3,4] rfl ?_ ?_
  · refine .a 2 rfl<|.c rfl (hq1▸xN T k x) rfl<|.a 2 rfl<|?_
    cases q1
    · exact .a 6 rfl<|.k [23,2,3,4] rfl
    · exact .a 4 rfl<|.v (cC rfl (hq2)) rfl<|.a 1 rfl<|.k [23,2,3,4] rfl
  refine ah rfl (fun hc=>?_) (fun hc=>?_)
  · have hno:(q1&& !q2)=false:=by cases q1<;>cases q2<;>simp_all
    exact ab (.a 2 rfl<|.k [6,7] rfl)<|aq<|⟨_,_,aA.of rfl,aB.bG (an.cons aB.b9 (an.cons aB.pure an.nil)),by rw[hno];rfl⟩
  · obtain ⟨h1, rfl⟩ := Bool.or_eq_false_iff.1 hc
    have h1:q1=true:=by simpa using h1
    subst h1
    have hln:(l.length:Int)=T.nodes:=by have:=ff hq2;simpa using this
    refine ak<|aj<|ab (.a 3 rfl<|.c rfl (hq3▸zY T k x l hl) rfl<|.a 1 rfl<|.k [2,3,4,28] rfl)<|ah rfl (fun hc=>?_) (fun hc=>?_)
    · have h3:q3=false:=by simpa using hc
      subst h3
      exact ab (.a 2 rfl<|.k [6,7] rfl)<|aq<|⟨_,_,aA.of rfl,aB.bG (an.cons aB.b9 (an.cons aB.pure an.nil)),rfl⟩
    · have h3:q3=true:=by simpa using hc
      subst h3
      have hv:=(Bool.and_eq_true_iff.1 hq1).1
      have hll:=bN hv
      have hP1:ft k x (fun n=>xu (jh l n)) l.length=true:=by
        have h:=hq3
        unfold mf at h
        split at h
        · exact(Bool.and_eq_true_iff.1 h).1
        · cases h
      refine ak<|aQ<|au 4 rfl<|bz (xO rfl Jg rfl rfl) rfl<|au 2 rfl<|aH [2,3,4,8] rfl ?_
      refine gj 8 0 0 rfl rfl ?_
      refine cU [] (.c 2<|.c 3<|.c 4<|.c 8<|.nil) .nil rfl rfl ?_
      obtain⟨FS,hFS⟩:∃z:List PV,[.func 66 [.aV (bx T) 0],.func 68 [.aV (bx T) 0,.aV (cj k x) 0],.func 69 [.aV (bx T) 0,.aV (cj k x) 0],.func 71 [.aV (bx T) 0,.aV (cj k x) 0]]=z:=⟨_,rfl⟩
      have hFp:aG FS:=by rw[←hFS];infer_instance
      rw[hFS]
      refine ab (.a 1 rfl<|.k [2,3,4,8,9] rfl)<|dW 9 56 3 rfl ?_
      refine aj<|ab (.a 3 rfl<|.k [3,4,8,9,34,35,36] rfl)<|av<|eZ [3,4,8,9,34,35,36] rfl<|bw (fun r s=>∃i,i≤l.length∧r=l.length - i∧s=⟨[(3,.aV (bx T) 0),(4,.aV (cj k x) 0),(8,.aV FS 0),(9,.own 0),(34,ax l),(35,num l.length),(36,num i)],[some (.row 56 3 i (mj (qW T k x l i)))]⟩) l.length ⟨0,by omega,by omega,rfl⟩ ?_
      rintro r s ⟨i,hi,rfl,rfl⟩
      refine ab (.a 1 rfl<|.k [3,4,8,9,34,35,36,37] rfl)<|aj<|ah rfl (fun hc=>?_) (fun hc=>?_)
      · have hlt:i<l.length:=by have:=tt hc;omega
        have hil:(i:Int)<T.nodes:=by omega
        obtain⟨N,hN⟩:∃N:Nat,T.nodes=(N:Int):=⟨T.nodes.toNat,by omega⟩
        obtain⟨s,hs⟩:∃s,jh l i=s:=⟨_,rfl⟩
        have hsl:l.getD i 0=s:=hs
        obtain⟨g,hg⟩:∃g,qL k x i=g:=⟨_,rfl⟩
        have hX:qW T k x l (i+1)=qW T k x l i++[FP T k x i s]:=by rw[Ca,hs]
        have hXg:FP T k x i s=if g=true then yr T i else oP T (aT T k x) s i:=by unfold FP;rw[hg]
        have hmL:(qW T k x l i).length=i:=s7
        obtain⟨L,hL⟩:∃L,qW T k x l i=L:=⟨_,rfl⟩
        obtain⟨X,hXX⟩:∃X,FP T k x i s=X:=⟨_,rfl⟩
        rw[hL,hXX]at hX
        rw[hL]at hmL ⊢
        rw[hXX]at hXg
        refine ak<|aj<|av<|ab (.a 1 rfl<|.v (aI (i) rfl) rfl<|.v (aL rfl ((aD l i hlt).trans (by rw[hsl]))) rfl<|.a 2 rfl<|.k [3,4,8,9,10,11,34,35,36] rfl)<|aQ<|au 2 rfl<|bz (aL rfl ((show some (num T.nodes)=some (num (N:Int)) by rw[hN]))) rfl<|ca (dB rfl (bE.rk.get rfl) rfl rfl (rfl:(N:Int)=(N:Int)) (rfl:(N:Int)=(N:Int)) ⟨by unfold maxLen;omega,by omega⟩) rfl<|au 3 rfl<|aH [3,4,8,9,10,11,12,34,35,36] rfl ?_
        refine vR 1 (σ':=[some (.row 56 3 i (mj L)),none,some (.cells 56 [num i,.slice N (dp [.raw (.slice none 0 0),.raw (.bool false),.raw (.slice none 0 0)] N),.raw (.slice none 0 0)])]) (t':=[(3,.aV (bx T) 0),(4,.aV (cj k x) 0),(8,.aV FS 0),(9,.own 0),(10,num i),(11,num s),(12,.ptr 2 0),(34,ax l),(35,num l.length),(36,num i)]) (blk:=.row 76 3 N (dp [.raw (.slice none 0 0),.raw (.bool false),.raw (.slice none 0 0)] N)) rfl ⟨rfl,rfl,fun j hj=>by
          match j,hj with
          |0,_=>exact .inl rfl
          |1,h=>exact absurd rfl h
          |2,_=>exact .inr ⟨_,_,rfl,rfl,.cells (.cons (.same _)<|.cons .own<|.cons (.same _) .nil)⟩
          |_+3,_=>exact .inl rfl⟩ (.cons 3 rfl (.same _)<|.cons 4 rfl (.same _)<|.cons 8 rfl (.same _)<|.cons 9 rfl (.same _)<|.cons 10 rfl (.same _)<|.cons 11 rfl (.same _)<|.cons 12 rfl (.same _)<|.cons 34 rfl (.same _)<|.cons 35 rfl (.same _)<|.cons 36 rfl (.same _) .nil) ?_
        refine aj<|ab (.a 2 rfl<|.c rfl (hg▸rK k x i) rfl<|.k [3,4,8,9,10,11,12,34,35,36,48] rfl)<|ah rfl (fun hc=>?_) (fun hc=>?_)
        · subst hc
          rw[if_pos rfl]at hXg
          have hle:jK (.agg [num i,.slice N (dp [.raw (.slice none 0 0),.raw (.bool false),.raw (.slice none 0 0)] N),ax (bm T i)]) (fA X):=by
            rw[hXg]
            have hz:=Ab N
            have hTN:T.nodes.toNat=N:=by omega
            refine jK.jb ⟨rfl,fun j a b h1 h2=>?_⟩
            match j,h1,h2 with
            |0,h1,h2=>cases h1;cases h2;exact jK.refl _
            |1,h1,h2=>
              cases h1;cases h2
              show jK (.slice N _) (.slice (List.replicate T.nodes.toNat (⟨[],false,[]⟩:iw)).length (dq (List.replicate T.nodes.toNat ⟨[],false,[]⟩)))
              rw[List.length_replicate,hTN]
              exact jK.Hh hz.1.symm hz.2
            |2,h1,h2=>cases h1;cases h2;exact jK.refl _
            |j+3,h1,h2=>exact absurd h1 (by simp)
          refine ba<|au 2 rfl<|ek rfl (nh T hll _) rfl<|au 2 rfl<|aH [3,4,8,9,12,34,35,36] rfl ?_
          refine ba<|au 1 rfl<|bz (DO (fQ rfl (bE.tk.get rfl) rfl rfl rfl) hle) rfl<|au 1 rfl<|ca (aY rfl (bE.rk.get rfl) rfl rfl rfl rfl (by unfold maxLen;omega)) rfl<|au 1 rfl<|aH [3,4,8,9,34,35,36] rfl ?_
          refine cU [3] (.c 3<|.c 4<|.c 8<|.cons 9 rfl (.own (i:=0) (j:=3) rfl)<|.c 34<|.c 35<|.c 36<|.nil) (.kept rfl (.row az.pure) .nil) rfl rfl ?_
          refine ay (.v (aR rfl) rfl<|.a 1 rfl<|.k [3,4,8,9,34,35,36] rfl) ?_
          exact⟨l.length - (i+1),by omega,i+1,by omega,rfl,by rw[hX,←pF];rfl⟩
        · subst hc
          have hle:jK (fA X) (fA X):=jK.refl _
          rw[if_neg (by decide)]at hXg
          have hos:xu s=true:=by
            rw[←hs]
            exact kH.1 hP1 i hlt hg
          obtain⟨f,cap,r1,r2,r3,r4⟩:=Hp T k x h12 hq1 hil hos hFS
          rw[←hXg]at r3
          obtain⟨hs0,hs3⟩:0≤s∧s<4:=by
            obtain⟨h0,h3⟩:=Bool.and_eq_true_iff.1 hos
            have h0:=of_decide_eq_true h0
            have h3:=of_decide_eq_true h3
            omega
          refine ba<|au 1 rfl<|bz (ml rfl (bE.ar.get rfl) rfl rfl hs0 hs3 (j:=s.toNat) (Nat.mul_one _)) rfl<|bz (aL rfl ((show FS[0+s.toNat]? =_ by rw[Nat.zero_add];exact r1))) rfl<|au 1 rfl<|bz (qa rfl r2 rfl rfl r3) rfl<|au 4 rfl<|aH [3,4,8,9,12,34,35,36] rfl ?_
          refine ba<|au 1 rfl<|bz (DO (fQ rfl (bE.tk.get rfl) rfl rfl rfl) hle) rfl<|au 1 rfl<|ca (aY rfl (bE.rk.get rfl) rfl rfl rfl rfl (by unfold maxLen;omega)) rfl<|au 1 rfl<|aH [3,4,8,9,34,35,36] rfl ?_
          refine cU [3] (.c 3<|.c 4<|.c 8<|.cons 9 rfl (.own (i:=0) (j:=3) rfl)<|.c 34<|.c 35<|.c 36<|.nil) (.kept rfl (.row az.pure) .nil) rfl rfl ?_
          refine ay (.v (aR rfl) rfl<|.a 1 rfl<|.k [3,4,8,9,34,35,36] rfl) ?_
          exact⟨l.length - (i+1),by omega,i+1,by omega,rfl,by rw[hX,←pF];rfl⟩
      · have hie:i=l.length:=by have:=ff hc;omega
        subst hie
        exact bn<|ab (.a 3 rfl<|.k [6,7] rfl)<|aq<|⟨_,_,aA.of rfl,aB.bG (an.cons (aB.ey rfl an.pure) (an.cons aB.pure an.nil)),by show PV.tuple [.slice l.length (mj (qW T k x l l.length)),num 0]= .tuple [fR (qW T k x l l.length),num 0];unfold fR;rw[s7]⟩
end PW
end Go.Proofs.YtnegbdpggideiaaGreatDoor
namespace Go.Proofs.YtnegbdpggideiaaGreatDoor
namespace PW
open Go.RowKit cA Mem
section
variable {P:Program} {σ:cd} {t:bZ} {o:Oper}
def dS(l:List UInt8):List PV:=l.map fun b=>.raw (.int .u8 b.toNat)
instance (l:List UInt8):aG (dS l):=aG.map _ _ fun _=>inferInstance
instance (l:List UInt8):cq (dS l):=cq.map _ _ fun _=>inferInstance
theorem jo(a b:List UInt8):dS a++dS b=dS (a++b):=by simp[dS]
theorem nr{w:World}(base:Nat)(t u ty e:TypeId)(i:TypeInfo)(ht:P.underlying t=some (.slice e))(hu:P.underlying u=some .string)(hi:P.info? e=some i)(hz:i.zero=some (.int .u8 0))
  (hsize:i.size=1) (hby:i.bytes=1) (v:Value) (n:Nat) (xs:List Value) (hown:w.ownsRow base e 1 v n xs) (s:ByteArray)
  (h63:n+s.size≤maxLen) (hbytes:n+s.size≤140737488355328) (hbase:base≤w.heap.size):
  ∃v' w',(Builtin.append_ #[t,u] ty #[v,.string s]).run P w= .ok v' w'∧w'.ownsRow base e 1 v' (n+s.size) (xs++Lib.strCells s)∧w.grownBy w' v.ownBlock∧(v'.ownBlock=v.ownBlock∨v'.ownBlock=some w.heap.size):=by
 obtain⟨v',w',hr,h2,h3,h4⟩:=Lib.run_append_own_string (P:=P) w base t u ty e i ht hu hi hz hsize hby v n xs hown s h63 hbytes hbase
 refine⟨v',w',hr,h2,h3,?_⟩
 have hsmall:n+s.size≤9223372036854775807:=by simp only[maxLen]at h63;omega
 rcases hown.2 with⟨rfl,rfl⟩|⟨g,cap,cur,rfl,hbg,hg,hnc,hcm,hcs,htake⟩
 ·by_cases hm:s.size=0
  ·rw[h4.2 ⟨rfl,hm⟩];exact .inl rfl
  ·have hr':=run_append_nil_string (P:=P) w t u ty e i (.int .u8 0) ht hu hi hz s (by omega) (by omega) (by rw[hby];omega)
   rw[hr']at hr
   cases hr
   exact .inr rfl
 ·by_cases hroom:n+s.size≤cap
  ·have hr':=Lib.run_append_room_string (P:=P) w t u ty e i ht hu hi hsize g n cap cur hg s hroom (by rw[hcs];omega)
   rw[hr']at hr
   cases hr
   exact .inl rfl
  ·have holds:∀(j:Nat) u,xs[j]? =some u→w.cell? ((⟨g,0,none⟩:Addr).add j)=some u:=hown.cells (g:=g) rfl
   have hr':=Lib.run_append_grow_string (P:=P) w t u ty e i (.int .u8 0) ht hu hi hz ⟨g,0,none⟩ n cap xs (by rw[hsize];exact hown.1) holds s (by omega) (by omega) (growslice_fits (by omega) (by rw[hby];omega))
   rw[hr']at hr
   cases hr
   exact .inr rfl
def yH(P:Program)(ty sy:TypeId):Option TypeId:=
 match P.underlying ty,P.underlying sy with
 |some (.slice e),some .string=>match P.info? e with
  |some i=>match i.zero with
   |some (.int .u8 0)=>bif Nat.beq i.size 1&&Nat.beq i.bytes 1 then some e else none
   |_=>none
  |none=>none
 |_,_=>none
theorem wU{ty sy e:TypeId}(h:yH P ty sy=some e):P.underlying ty=some (.slice e)∧P.underlying sy=some .string∧∃i,P.info? e=some i∧i.zero=some (.int .u8 0)∧i.size=1∧i.bytes=1:=by
 unfold yH at h
 split at h
 ·rename_i e' h1 h2
  split at h
  ·rename_i i hi
   split at h
   ·rename_i hz
    rw[Bool.cond_eq_ite]at h
    split at h
    ·rename_i hb
     cases h
     obtain⟨b1,b2⟩:=Bool.and_eq_true_iff.1 hb
     exact⟨h1,h2,i,hi,hz,Nat.eq_of_beq_eq_true b1,Nat.eq_of_beq_eq_true b2⟩
    ·cases h
   ·cases h
  ·cases h
 ·cases h
theorem oD{ty sy e n i:Nat}{xs:List PV}{x y:Operand}{s:ByteArray}(ho:o.op= .call {callee:=.builtin .append,args:= #[x,y],argTypes:= #[ty,sy]})(hk:yH P ty sy=some e)(hx:aC t x=some (.own i))(hi:σ[i]? =some (some (.row e 1 n xs)))
  (hy:aC t y=some (.raw (.string s))) (hn:n+s.size≤140737488355328):
  cK P σ t o (.own σ.length) (σ.set i none++[some (.row e 1 (n+s.size) (xs++dS s.data.toList))]):=by
 intro F base E ρ w hρ hS hT
 have h1:=aw hρ hT hx
 have h2:=aw hρ hT hy
 generalize hz1:ρ x=v at h1
 generalize hz2:ρ y=u at h2
 cases h2
 obtain⟨hu,hu2,inf,hinf,hz,hs,hby⟩:=wU hk
 cases h1 with
 |own _ hiL _ hat hone=>
  obtain⟨cs,k1,k2⟩:=hS.blk i _ hi
  rw[hat]at k1
  have hob:bp (E.at_ i)=v.ownBlock:=by rw[hat];exact fG k1
  obtain⟨v',w',hrun,hown,hg,hw⟩:=nr (P:=P) (w:=w) base ty sy o.type e inf hu hu2 hinf hz hs hby v n cs k1 s (by unfold maxLen;omega) hn hS.bl
  have hr:(execOp ρ o).run P w= .ok (.value v') w':=by
   simp only[execOp,ho,resolve,invoke,builtin,Sem.run_bind,Sem.run_pure,Result.andThen_ok,List.map_toArray,List.map_cons,List.map_nil,hz1,hz2,hrun]
  have hnw:aU E w (Lib.strCells s) (dS s.data.toList):=by
   refine⟨by simp[Lib.strCells,dS],fun j c u h1 h2=>?_⟩
   simp only[Lib.strCells,dS,List.getElem?_map,Option.map_eq_some_iff]at h1 h2
   obtain⟨b,hb,rfl⟩:=h1
   obtain⟨b',hb',rfl⟩:=h2
   rw[hb]at hb'
   cases hb'
   exact .raw _
  have hv':∀b,bp v'=some b→bp (E.at_ i)=some b∨w.heap.size≤b:=fun b hb=>by
   rw[fG hown]at hb
   rcases hw with h|h
   ·rw[hob,←h];exact .inl hb
   ·rw[h]at hb;cases hb;exact .inr (Nat.le_refl _)
  obtain⟨a1,a2⟩:=hS.swap (w':=w') (blk:=.row e 1 (n+s.size) (xs++dS s.data.toList)) hi hg.size (fun k hk hne=>hg.block k hk (by rw[←hob];exact Ne.symm hne)) hv' (fun E' g=>⟨cs++Lib.strCells s,hown,(k2.append hnw).goes g⟩)
  refine⟨v',w',_,.inl hr,a1,a2,⟨hg.os,hg.tape,hg.output,hg.size,fun k hk=>hg.block k (Nat.lt_of_lt_of_le hk hS.bl) (fun e=>?_)⟩,.own σ.length (by simp[Env.push,Env.kill,hS.len]) v' (by simp[Env.push,Env.kill,hS.len]) ?_⟩
  ·have:=(k1.lt k e.symm).1;omega
  ·rcases hown.2 with⟨rfl,_⟩|⟨g',cap,cur,rfl,_⟩<;>rfl
theorem Sat.drop{F:Nat→Prop}{base:Nat}{E:Env}{w w':World}(hS:Sat F base σ E w){j g:Nat}{bj:cR}(hj:σ[j]? =some (some bj))(hb:bp (E.at_ j)=some g)(hs:w.heap.size≤w'.heap.size)(ho:∀k,k<w.heap.size→k≠g→w'.heap[k]? =w.heap[k]?):
  Sat F base (σ.set j none) (E.kill j) w'∧cP E w (E.kill j) w':=by
 have hgM:E.M g:=(hS.mm g).2 (.inr ⟨j,bj,hj,hb⟩)
 obtain⟨k1,_⟩:=hS.kill j hj
 have g':cP E w (E.kill j) w':=⟨Nat.le_refl _,fun _ _=>rfl,fun b _ hM h=>hM h.1,hs,fun k hk hM=>ho k hk (fun e=>hM (by rw[e];exact hgM))⟩
 refine⟨⟨Nat.le_trans hS.bl hs,fun b hb'=>⟨Nat.lt_of_lt_of_le (k1.fb b hb').1 hs,(k1.fb b hb').2⟩,k1.len,k1.mm,fun i bl hi=>?_,k1.inj,hS.gl.goes g'⟩,g'⟩
 obtain⟨hne,h3⟩:=gT hi
 exact(hS.blk i bl h3).goes g' (fun k hk=>ho k ((hS.blk i bl h3).lt hk).2 (fun e=>hne (hS.inj i j bl bj g h3 hj (by rw[←e];exact hk) hb)))
theorem vD{ty:TypeId}{x:Operand}{s:ByteArray}(ho:o.op= .call {callee:=.builtin .len,args:= #[x],argTypes:= #[ty]})(hu:P.underlying ty=some .string)(hx:aC t x=some (.raw (.string s))):bg P σ t o (.raw (.int .i64 s.size)):=by
 intro F base E ρ w hρ _ hT
 have h1:=aw hρ hT hx
 generalize hz:ρ x=z at h1
 cases h1
 simp[execOp,ho,resolve,invoke,builtin,Builtin.len_,hz,run_underlying hu,goInt]
 exact bd (.raw _)
theorem vt{ty:TypeId}{x:Operand}{j e s n:Nat}{xs:List PV}(ho:o.op= .call {callee:=.builtin .unsafeSliceData,args:= #[x],argTypes:= #[ty]})(hx:aC t x=some (.own j))(hj:σ[j]? =some (some (.row e s n xs)))(hn:0<n):bg P σ t o (.ptr j 0):=by
 intro F base E ρ w hρ hS hT
 have h1:=aw hρ hT hx
 generalize hz:ρ x=z at h1
 cases h1 with
 |own _ hi _ h hone=>
  obtain⟨cs,k1,_⟩:=hS.blk j _ hj
  rw[h]at k1
  rcases k1.2 with⟨_,h0⟩|⟨g,cap,cur,hv,_,_,hnc,_⟩
  ·omega
  ·subst hv
   have:=Lib.run_unsafeSliceData_row (P:=P) w #[ty] o.type ⟨g,0,none⟩ n cap (by omega)
   simp only[execOp,ho,resolve,invoke,builtin,Sem.run_bind,Sem.run_pure,Result.andThen_ok,List.map_toArray,List.map_cons,List.map_nil,hz,this]
   exact bd (.ptr j 0 g hi (.inr ⟨n,cap,h⟩))
theorem vi{pt it:TypeId}{x y:Operand}{j e:Nat}{l:List UInt8}(ho:o.op= .call {callee:=.builtin .unsafeString,args:= #[x,y],argTypes:= #[pt,it]})(hp:P.underlying pt=some (.pointer e))(hc:P.cellsOf e=1)(hx:aC t x=some (.ptr j 0))(hy:aC t y=some (.raw (.int .i64 l.length)))(hj:σ[j]? =some (some (.row e 1 l.length (dS l))))(hl:0<l.length):
  cK P σ t o (.raw (.string ⟨l.toArray⟩)) (σ.set j none):=by
 intro F base E ρ w hρ hS hT
 have h1:=aw hρ hT hx
 have h2:=aw hρ hT hy
 generalize hz:ρ x=z at h1
 generalize hz':ρ y=z' at h2
 cases h2
 cases h1 with
 |ptr _ _ b hi h=>
  obtain⟨cs,k1,k2⟩:=hS.blk j _ hj
  have hcs:cs=Lib.byteCells l:=by
   apply List.ext_getElem?
   intro i
   by_cases hi':i<l.length
   ·have h3:=k2.2 i (cs[i]'(by rw[k2.1];simpa[dS]using hi')) (.raw (.int .u8 (l[i]).toNat)) (by simp) (by simp[dS,hi'])
    have h4:cs[i]'(by rw[k2.1];simpa[dS]using hi')= .int .u8 (l[i]).toNat:=by
     generalize cs[i]'(by rw[k2.1];simpa[dS]using hi')=q at h3
     cases h3;rfl
    rw[List.getElem?_eq_getElem (by rw[k2.1];simpa[dS]using hi'),h4]
    simp[Lib.byteCells,hi']
   ·rw[List.getElem?_eq_none (by rw[k2.1];simp[dS];omega),List.getElem?_eq_none (by simp[Lib.byteCells];omega)]
  subst hcs
  have k3:=k1
  rcases k1.2 with⟨hv,h0⟩|⟨g,cap,cur,hv,hbg,hg,hnc,hcm,hsz,htk⟩
  ·omega
  ·have hbeq:b=g:=by
    rcases h with h|⟨n,c,h⟩
    ·rw[hv]at h;cases h
    ·rw[hv]at h;cases h;rfl
   subst hbeq
   have hblk:bp (E.at_ j)=some b:=by rw[hv];rfl
   have hrun:=Lib.run_unsafeString_row (P:=P) w pt it o.type e hp hc b cur.size (by simp[World.shape?,hg]) l (by intro e';rw[e']at hl;simp at hl) (by omega) (by unfold maxLen at hcm;omega) (fun i x hx'=>k3.cells (g:=b) (by rw[hv];rfl) i (.int .u8 x.toNat) (by simp[Lib.byteCells,hx']))
   have hr:(execOp ρ o).run P w= .ok (.value (.string ⟨l.toArray⟩)) (w.freeze ⟨b,0,none⟩ l.length):=by
    simp only[execOp,ho,resolve,invoke,builtin,Sem.run_bind,Sem.run_pure,Result.andThen_ok,List.map_toArray,List.map_cons,List.map_nil,hz,hz',hrun]
   have hfz:∀k,k≠b→(w.freeze ⟨b,0,none⟩ l.length).heap[k]? =w.heap[k]? :=fun k hk=>by
    unfold World.freeze
    split
    ·rfl
    ·simp only[Array.getElem?_modify]
     rw[if_neg (Ne.symm hk)]
   have hsz':w.heap.size≤(w.freeze ⟨b,0,none⟩ l.length).heap.size:=by
    unfold World.freeze
    split<;>simp
   obtain⟨a1,a2⟩:=Sat.drop (w':=w.freeze ⟨b,0,none⟩ l.length) hS hj hblk hsz' (fun k _ hk=>hfz k hk)
   exact⟨_,_,_,.inl hr,a1,a2,Lib.below_freeze (Below.refl base w) (p:=⟨b,0,none⟩) hbg _,.raw _⟩
theorem B8{x y:Operand}{ty tz:TypeId}(ho:o.op= .binOp .eql ty x y tz)(hk:od P ty=true)(hx:aC t x=some (.raw (.pointer none)))(hy:aC t y=some (.raw (.pointer none))):bg P σ t o (.raw (.bool true)):=by
 refine vX ho hx hy fun w=>?_
 unfold od at hk
 split at hk
 ·rename_i e hu
  have key:∀d,(Op.equalIn (d+1) ty (.pointer none) (.pointer none)).run P w= .ok true w:=fun d=>by
   simp only[Op.equalIn,Sem.run_bind,run_underlying hu,Result.andThen_ok,Sem.run_pure,Option.isNone_none]
  have:=key 9999
  simp only[Nat.reduceAdd]at this
  simp[eqGuard,binOp,Op.equal,Op.maxDepth,this]
 ·cases hk
theorem ry{x y:Operand}{ty te tz:TypeId}{i k:Nat}{ji:TypeInfo}(ho:o.op= .binOp .neq ty x y tz)(hp:P.underlying ty=some (.pointer te))(hte:P.info? te=some ji)(hx:aC t x=some (.ptr i k))(hy:aC t y=some (.ptr i k)):bg P σ t o (.raw (.bool false)):=by
 intro F base E ρ w hρ hS hT
 have h1:=aw hρ hT hx
 have h2:=aw hρ hT hy
 have he:ρ x=ρ y:=sh.I6 E w _ _ h1 h2
 generalize hz:ρ x=z at h1
 have hz':ρ y=z:=by rw[←he,hz]
 cases h1 with
 |ptr _ _ b hi h=>
  have hb:=Lib.run_neq_ptr_same (P:=P) w ⟨b,k,none⟩ hp hte
  have hr:(execOp ρ o).run P w= .ok (.value (.bool false)) w:=by
   simp only[execOp,ho,hz,hz',Sem.run_bind,Sem.run_pure]
   have hg:(eqGuard .neq ty x y (.pointer (some ⟨b,k,none⟩)) (.pointer (some ⟨b,k,none⟩))).run P w= .ok () w:=rfl
   rw[hg]
   simp only[Result.andThen_ok,hb]
  rw[hr]
  exact bd (.raw _)
theorem xr{src dst te ty:TypeId}{x:Operand}{i:Nat}{ji:TypeInfo}{xs:List PV}(ho:o.op= .convert src dst x)(hs:P.underlying src=some (.pointer te))(hd:P.underlying dst=some .unsafePointer)(ht:P.info? te=some ji)(hj:ji.size≠0)(hx:aC t x=some (.ptr i 0))(hi:σ[i]? =some (some (.cells ty xs)))(hl:0<xs.length):bg P σ t o (.ptr i 0):=by
 intro F base E ρ w hρ hS hT
 have h1:=aw hρ hT hx
 have h1':=h1
 generalize hz:ρ x=z at h1 h1'
 obtain⟨b,cs,k1,k2,k3,k4⟩:=hS.blk i _ hi
 cases h1 with
 |ptr _ _ b' hi' h=>
  have hb:b'=b:=by
   rcases h with h|⟨n,c,h⟩<;>rw[k1]at h<;>cases h
   rfl
  subst hb
  have:=Lib.run_to_unsafe (P:=P) w ⟨b',0,none⟩ hs hd ht hj (e:=ty) (cells:=cs.size) (by simp[World.shape?,k3]) (by have:=k4.1;simp at this ⊢;omega)
  simp only[execOp,ho,hz,Sem.run_bind,this,Result.andThen_ok,Sem.run_pure]
  exact bd h1'
theorem tn{src dst u ty:TypeId}{x:Operand}{i:Nat}{ji:TypeInfo}{xs:List PV}(ho:o.op= .convert src dst x)(hs:P.underlying src=some .unsafePointer)(hd:P.underlying dst=some (.pointer u))(ht:P.info? u=some ji)(hx:aC t x=some (.ptr i 0))(hi:σ[i]? =some (some (.cells ty xs)))(hl:liesAt P P.depth ty (xs.length / P.cellsOf ty) 0 u 1=true):bg P σ t o (.ptr i 0):=by
 intro F base E ρ w hρ hS hT
 have h1:=aw hρ hT hx
 have h1':=h1
 generalize hz:ρ x=z at h1 h1'
 obtain⟨b,cs,k1,k2,k3,k4⟩:=hS.blk i _ hi
 cases h1 with
 |ptr _ _ b' hi' h=>
  have hb:b'=b:=by
   rcases h with h|⟨n,c,h⟩<;>rw[k1]at h<;>cases h
   rfl
  subst hb
  have hsz:cs.size=xs.length:=by have:=k4.1;simpa using this
  have:=Lib.run_from_unsafe (P:=P) w ⟨b',0,none⟩ hs hd ht (e:=ty) (cells:=cs.size) (by simp[World.shape?,k3]) (by rw[hsz];exact hl)
  simp only[execOp,ho,hz,Sem.run_bind,this,Result.andThen_ok,Sem.run_pure]
  exact bd h1'
theorem wo{f:FuncId}{x a:Operand}{ats:Array TypeId}{p:PV}(ho:o.op= .call {callee:=.value x,args:= #[a],argTypes:=ats})(hx:aC t x=some (.func f []))(ha:aC t a=some p)(hr:∀v w,(callFunc f #[v]).run P w= .ok (.value v) w):bg P σ t o p:=by
 intro F base E ρ w hρ hS hT
 have h1:=aw hρ hT hx
 have h2:=aw hρ hT ha
 generalize hz:ρ x=z at h1
 cases h1 with
 |func _ cs _ hl hr'=>
  have hcs:cs= #[]:=Array.eq_empty_of_size_eq_zero (by simpa using hl)
  subst hcs
  have h3:(execOp ρ o).run P w= .ok (.value (ρ a)) w:=by
   have:=hr (ρ a) w
   simp[execOp,ho,resolve,hz,Deferred.ofValue,invoke,this]
  rw[h3]
  exact bd h2
end
end PW
end Go.Proofs.YtnegbdpggideiaaGreatDoor
namespace Go.Proofs
open Go.Shelf
open Go.RowKit in
open Go.RowKit in
open Go.RowKit in
open Go.RowKit in
open Go.RowKit in
open Go.RowKit in
open Go.RowKit in
open Go.RowKit in
open Go.RowKit in
open Go.Lib in
open Go.Lib in
open Go.Lib in
open Go.Lib in
open Go.RowKit Go.Sort Go.Lib in
def Tryz.DK:Go.Shelf.Ren:=⟨fun|246=>220|283=>227|284=>228|285=>229|286=>230|129=>241|317=>242|318=>243|319=>244|320=>245|337=>252|338=>253|n=>n,fun|2=>2|3=>3|9=>9|4=>4|171=>248|0=>0|53=>249|37=>26|5=>5|173=>252|212=>264|51=>262|20=>20|213=>265|46=>247|232=>275|233=>276|n=>n,fun|17=>0|18=>1|19=>2|n=>n⟩
open Go.RowKit Go.Sort Go.Lib in
open Go.RowKit Go.Sort Go.Lib in
def Tryz.Ee:Go.Shelf.Ren:=⟨fun|243=>208|246=>220|283=>227|284=>228|285=>229|286=>230|129=>241|317=>242|318=>243|319=>244|320=>245|337=>252|338=>253|n=>n,fun|3=>3|9=>9|2=>2|4=>4|171=>248|0=>0|53=>249|37=>26|5=>5|173=>252|212=>264|51=>262|20=>20|213=>265|46=>247|232=>275|233=>276|n=>n,fun|17=>0|18=>1|19=>2|n=>n⟩
open Go.RowKit Go.Sort Go.Lib in
open Go.RowKit Go.Sort Go.Lib in
def Tryz.Ew:Go.Shelf.Ren:=⟨fun|171=>187|243=>208|246=>220|283=>227|284=>228|285=>229|286=>230|129=>241|317=>242|318=>243|319=>244|320=>245|337=>252|338=>253|n=>n,fun|3=>3|9=>9|2=>2|4=>4|171=>248|0=>0|53=>249|37=>26|5=>5|173=>252|212=>264|51=>262|20=>20|213=>265|46=>247|232=>275|233=>276|n=>n,fun|17=>0|18=>1|19=>2|n=>n⟩
open Go.RowKit Go.Sort Go.Lib in
def Tryz.uH:Go.Shelf.Ren:=⟨fun|171=>187|243=>208|246=>220|283=>227|284=>228|285=>229|286=>230|129=>241|317=>242|318=>243|319=>244|320=>245|337=>252|338=>253|n=>n,fun|3=>3|9=>9|2=>2|4=>4|171=>248|0=>0|53=>249|37=>26|5=>5|173=>252|212=>264|51=>262|20=>20|213=>265|46=>247|232=>275|233=>276|n=>n,fun|17=>0|18=>1|19=>2|n=>n⟩
theorem Tryz.Eu:Go.Proofs.Lays.n171 Tryz.prog Tryz.uH:= {
 mixed:=by kernel_rfl
 f129:=Tryz.func241.trans (congrArg some (by kernel_rfl))
 f171:=Tryz.func187.trans (congrArg some (by kernel_rfl))
 f243:=Tryz.func208.trans (congrArg some (by kernel_rfl))
 f246:=Tryz.func220.trans (congrArg some (by kernel_rfl))
 f283:=Tryz.func227.trans (congrArg some (by kernel_rfl))
 f284:=Tryz.func228.trans (congrArg some (by kernel_rfl))
 f285:=Tryz.func229.trans (congrArg some (by kernel_rfl))
 f286:=Tryz.func230.trans (congrArg some (by kernel_rfl))
 f317:=Tryz.func242.trans (congrArg some (by kernel_rfl))
 f318:=Tryz.func243.trans (congrArg some (by kernel_rfl))
 f319:=Tryz.func244.trans (congrArg some (by kernel_rfl))
 f320:=Tryz.func245.trans (congrArg some (by kernel_rfl))
 f337:=Tryz.func252.trans (congrArg some (by kernel_rfl))
 f338:=Tryz.func253.trans (congrArg some (by kernel_rfl))
 t0:=Tryz.underlying0
 a0:=Tryz.isAgg0
 z0:=Tryz.sizeOf0
 v0:=Tryz.zeroValue0
 t2:=Tryz.underlying2
 a2:=Tryz.isAgg2
 z2:=Tryz.sizeOf2
 v2:=Tryz.zeroValue2
 t3:=Tryz.underlying3
 a3:=Tryz.isAgg3
 z3:=Tryz.sizeOf3
 v3:=Tryz.zeroValue3
 t4:=Tryz.underlying4
 a4:=Tryz.isAgg4
 z4:=Tryz.sizeOf4
 v4:=Tryz.zeroValue4
 t5:=Tryz.underlying5
 a5:=Tryz.isAgg5
 z5:=Tryz.sizeOf5
 v5:=Tryz.zeroValue5
 t9:=Tryz.underlying9
 a9:=Tryz.isAgg9
 z9:=Tryz.sizeOf9
 v9:=Tryz.zeroValue9
 t20:=Tryz.underlying20
 a20:=Tryz.isAgg20
 z20:=Tryz.sizeOf20
 v20:=Tryz.zeroValue20
 t37:=Tryz.underlying26
 a37:=Tryz.isAgg26
 z37:=Tryz.sizeOf26
 v37:=Tryz.zeroValue26
 t46:=Tryz.underlying247
 a46:=Tryz.isAgg247
 z46:=Tryz.sizeOf247
 v46:=Tryz.zeroValue247
 t51:=Tryz.underlying262
 a51:=Tryz.isAgg262
 z51:=Tryz.sizeOf262
 v51:=Tryz.zeroValue262
 t53:=Tryz.underlying249
 a53:=Tryz.isAgg249
 z53:=Tryz.sizeOf249
 v53:=Tryz.zeroValue249
 t171:=Tryz.underlying248
 a171:=Tryz.isAgg248
 z171:=Tryz.sizeOf248
 v171:=Tryz.zeroValue248
 t173:=Tryz.underlying252
 a173:=Tryz.isAgg252
 z173:=Tryz.sizeOf252
 v173:=Tryz.zeroValue252
 t212:=Tryz.underlying264
 a212:=Tryz.isAgg264
 z212:=Tryz.sizeOf264
 v212:=Tryz.zeroValue264
 t213:=Tryz.underlying265
 a213:=Tryz.isAgg265
 z213:=Tryz.sizeOf265
 t232:=Tryz.underlying275
 a232:=Tryz.isAgg275
 z232:=Tryz.sizeOf275
 v232:=Tryz.zeroValue275
 t233:=Tryz.underlying276
 a233:=Tryz.isAgg276
 z233:=Tryz.sizeOf276
 v233:=Tryz.zeroValue276
 g17:=by kernel_rfl
 g18:=by kernel_rfl
 g19:=by kernel_rfl}
open Go.RowKit Go.Sort Go.Lib in
theorem Tryz.strconv_Itoa_small(i:Nat)(hi:i<100)(w:World):
  Calls Tryz.prog 187 #[.int .i64 i] w fun e w'=>e= .returned (.string ⟨(Lib.decDigits i).toArray⟩)∧w'=w:=Any.strconv_Itoa_small Tryz.Eu i hi w
end Go.Proofs
