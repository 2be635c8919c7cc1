/- Texts of the proof, part 12. -/
import Derived.RangeFuncBox
import Derived.Lib.ItoaNum
import Derived.Laws.StructEq
import Derived.Test.YtnegbdpggideiaaGreatDoorCardXAB11
set_option linter.unusedVariables false
set_option linter.unusedSimpArgs false
set_option maxRecDepth 10000
set_option maxHeartbeats 1000000
namespace Go.Proofs.YtnegbdpggideiaaGreatDoor
namespace PW
section
open Go.RowKit cE Mem Net eX
def rM(T:an)(k x k' x':Int)(m:Nat):Bool:=(List.range m).all fun a=> !cG k x T.ae (a / 2)||cG k' x' T.ae (a / 2)
def sO(T:an)(k x k' x':Int):Bool:=rM T k x k' x' (2*T.ae.length)
theorem zM(T:an)(k x k' x':Int)(m:Nat):rM T k x k' x' (m+1)=(rM T k x k' x' m&&(!cG k x T.ae (m / 2)||cG k' x' T.ae (m / 2))):=by simp[rM,List.range_succ]
theorem mJ{p:Nat→Bool}{m n:Nat}(h:((List.range m).all p)=false)(hmn:m≤n):((List.range n).all p)=false:=by
 rw[Bool.eq_false_iff]at h ⊢
 intro h'
 refine h (List.all_eq_true.2 fun a ha=>List.all_eq_true.1 h' a (List.mem_range.2 ?_))
 have:=List.mem_range.1 ha
 omega
theorem Fz(T:an)(k x k' x':Int)(h1:(aq T&&cd T k x)=true)(h2:(aq T&&cd T k' x')=true):Can Tryz.prog 133 [aN T,bY k x,bY k' x'] (· =flag (sO T k x k' x')):=by
 have hll:=bR (Bool.and_eq_true_iff.1 h1).1
 refine aG Tryz.func133 I Tryz.ntmps133 I<|ab (.a 4 I<|.k [3,4,5] I)<|aj<|bz 17 (.raw (.bool (false))) [3,4,5] I ?_ ?_
 ·exact .a 2 I<|.c rfl (h1▸gP T k x) I<|.a 4 I<|.c rfl (h2▸gP T k' x') I<|.a 2 I<|.k [17,3,4,5] I
 refine ag I (fun h=>?_) (fun h=>?_)
 ·exact absurd h (by decide)
 ·clear h
  refine ai<|aj<|ab (.a 1 I<|.k [3,4,5,7] I)<|av<|eR [3,4,5,7] I<|bu (fun r st=>∃m,m≤2*T.ae.length∧r=2*T.ae.length - m∧rM T k x k' x' m=true∧st=⟨[(3,.ba (bC T) 0),(4,.ba (cz k x) 0),(5,.ba (cz k' x') 0),(7,num m)],[]⟩) (2*T.ae.length) ⟨0,by omega,by omega,rfl,rfl⟩ ?_
  rintro r st ⟨m,hm,rfl,hw,rfl⟩
  refine aj<|ab (.a 4 I<|.v (aU I (hc:=rfl)) I<|.a 1 I<|.k [3,4,5,7,23] I)<|ag I (fun h3=>?_) (fun h3=>?_)
  ·have hlt:m<2*T.ae.length:=by have:=tt h3;omega
   have hst:=zM T k x k' x' m
   obtain⟨q1,hq1⟩:∃q,cG k x T.ae (m / 2)=q:=⟨_,rfl⟩
   obtain⟨q2,hq2⟩:∃q,cG k' x' T.ae (m / 2)=q:=⟨_,rfl⟩
   rw[hw,hq1,hq2]at hst
   refine ai<|aj<|av<|bz 36 (.raw (.bool (q1&& !q2))) [3,4,5,7] I ?_ ?_
   ·refine .a 3 I<|.c rfl (hq1▸vB T k x m hlt hll) I<|.a 1 I<|?_
    cases q1
    ·exact .a 6 I<|.k [36,3,4,5,7] I
    ·exact .a 3 I<|.c rfl (hq2▸vB T k' x' m hlt hll) I<|.a 2 I<|.k [36,3,4,5,7] I
   refine ag I (fun h4=>?_) (fun h4=>?_)
   ·obtain⟨e1,e2⟩:=Bool.and_eq_true_iff.1 h4
    have e2:q2=false:=by simpa using e2
    rw[e1,e2]at hst
    have hf:sO T k x k' x'=false:=mJ hst (by omega)
    rw[hf]
    exact ab (.a 1 I<|.k [6] I)<|ao<|⟨_,_,az.of I,ax.pure,rfl⟩
   ·have hw2:rM T k x k' x' (m+1)=true:=by rw[hst];cases q1<;>cases q2<;>first|rfl|cases h4
    refine ai<|aB (.a 1 I<|.v (aU I) I<|.a 1 I<|.k [3,4,5,7] I) ?_
    exact⟨2*T.ae.length - (m+1),by omega,m+1,by omega,rfl,hw2,rfl⟩
  ·have hme:m=2*T.ae.length:=by have:=ff h3;omega
   subst hme
   have hw:sO T k x k' x'=true:=hw
   rw[hw]
   exact bf<|ab (.a 1 I<|.k [6] I)<|ao<|⟨_,_,az.of I,ax.pure,rfl⟩
noncomputable def FG(T:an)(M:List Bool)(k x:Int)(a j:Nat):Bool:=(List.range j).all fun(d:Nat)=> !gG T M (bn T a) d||sO T k x (dt T a d).1 (dt T a d).2
noncomputable def Js(T:an)(M:List Bool)(k x:Int)(a:Nat):Bool:=(!aQ M a||(decide (k=2)&&decide (bn T a=x)))||FG T M k x a T.nodes.toNat
noncomputable def vN(T:an)(k x:Int)(m:Nat):Bool:=(List.range m).all fun a=>Js T (aI T k x) k x a
noncomputable def uu(T:an)(k x:Int):Bool:=(aq T&&cd T k x)&&vN T k x (2*T.ae.length)
theorem EW(T:an)(M:List Bool)(k x:Int)(a j:Nat):FG T M k x a (j+1)=(FG T M k x a j&&(!gG T M (bn T a) j||sO T k x (dt T a j).1 (dt T a j).2)):=by simp[FG,List.range_succ]
theorem tE(T:an)(k x:Int)(m:Nat):vN T k x (m+1)=(vN T k x m&&Js T (aI T k x) k x m):=by simp[vN,List.range_succ]
theorem J1{T:an}{k x:Int}{m:Nat}(hm:(aq T&&cd T k x)=true)(h:vN T k x m=true)(hlt:m<2*T.ae.length)(ha:Js T (aI T k x) k x m=false):uu T k x=false:=by
 unfold uu
 rw[hm,Bool.true_and]
 refine mJ (m:=m+1) ?_ (by omega)
 have:=tE T k x m
 rw[h,ha]at this
 exact this
theorem Fv(T:an)(k x:Int):Can Tryz.prog 85 [aN T,bY k x] (· =flag (uu T k x)):=by
 obtain⟨q0,hq0⟩:∃q,(aq T&&cd T k x)=q:=⟨_,rfl⟩
 have hmk:=mE T k x
 unfold iG dY at hmk
 refine aG Tryz.func85 I Tryz.ntmps85 I<|ab (.a 3 I<|.k [2,3] I)<|aj<|ab (.a 2 I<|.c rfl (hq0▸gP T k x) I<|.a 1 I<|.k [2,3,15] I)<|ag I (fun h1=>?_) (fun h1=>?_)
 ·have h1:q0=false:=by simpa using h1
  have he:uu T k x=false:=by unfold uu;rw[hq0,h1];rfl
  rw[he]
  exact ab (.a 1 I<|.k [4] I)<|ao<|⟨_,_,az.of I,ax.pure,rfl⟩
 ·have h1:q0=true:=by simpa using h1
  subst h1
  obtain⟨hv,hc⟩:=Bool.and_eq_true_iff.1 hq0
  have hll:=bR hv
  have hN:=(aO hv).nodes
  rw[if_pos hq0,if_pos rfl]at hmk
  have hMl:=fm T k x
  have hstep:=fun m=>tE T k x m
  have hno:=fun m=>J1 (m:=m) hq0
  obtain⟨M,hM⟩:∃M,aI T k x=M:=⟨_,rfl⟩
  rw[hM]at hmk hMl
  simp only[hM]at hstep hno
  obtain⟨N,hNN⟩:∃N:Nat,T.nodes=(N:Int):=⟨T.nodes.toNat,by omega⟩
  have hNt:T.nodes.toNat=N:=by omega
  refine ai<|ab (.a 2 I<|.c rfl (hmk) I<|.a 5 I<|.k [2,3,5] I)<|aj<|ab (.a 1 I<|.k [2,3,5,7] I)<|av<|eR [2,3,5,7] I<|bu (fun r st=>∃m,m≤2*T.ae.length∧r=2*T.ae.length - m∧vN T k x m=true∧st=⟨[(2,.ba (bC T) 0),(3,.ba (cz k x) 0),(5,bg M),(7,num m)],[]⟩) (2*T.ae.length) ⟨0,by omega,by omega,rfl,rfl⟩ ?_
  rintro r st ⟨m,hm,rfl,hw,rfl⟩
  refine aj<|ab (.a 4 I<|.k [2,3,5,7,25] I)<|ag I (fun h3=>?_) (fun h3=>?_)
  ·have hlt:m<2*T.ae.length:=by have:=tt h3;omega
   have hst:=hstep m
   rw[hw,Bool.true_and]at hst
   obtain⟨n,hn⟩:=Int.eq_ofNat_of_zero_le ((aO hv).tail m hlt).1
   obtain⟨q1,hq1⟩:∃q,aQ M m=q:=⟨_,rfl⟩
   obtain⟨q2,hq2⟩:∃q,decide (k=2)=q:=⟨_,rfl⟩
   obtain⟨q3,hq3⟩:∃q,decide (bn T m=x)=q:=⟨_,rfl⟩
   have hA:Js T M k x m=((!q1 ||(q2&&q3))||FG T M k x m N):=by unfold Js;rw[hq1,hq2,hq3,hNt]
   clear h3
   refine ai<|aj<|av<|ab (.a 2 I<|.c rfl (hZ T hv m hlt) I<|.a 1 I<|.k [2,3,5,7,8] I)<|aj<|bz 46 (.raw (.bool ((!q1)||(q2&&q3)))) [2,3,5,7,8] I ?_ ?_
   ·refine .a 2 I<|.v (aP (m) I) I<|.v (aJ I ((show(bX M)[m]? =some (flag q1) by rw[dj _ m (by omega),fk,hq1]))) I<|.a 2 I<|?_
    cases q1
    ·exact .a 10 I<|.k [46,2,3,5,7,8] I
    ·refine .a 2 I<|.v (cc I (hq2)) I<|.a 1 I<|?_
     cases q2
     ·exact .a 6 I<|.k [46,2,3,5,7,8] I
     ·exact .a 3 I<|.v (cc I (hq3)) I<|.a 2 I<|.k [46,2,3,5,7,8] I
   refine ag I (fun h4=>?_) (fun h4=>?_)
   ·have hcv:vN T k x (m+1)=true:=by rw[hst,hA,h4];rfl
    refine bf<|aB (.a 1 I<|.v (aU I) I<|.a 1 I<|.k [2,3,5,7] I) ?_
    exact⟨2*T.ae.length - (m+1),by omega,m+1,by omega,rfl,hcv,rfl⟩
   ·rw[h4,Bool.false_or]at hA
    refine ai<|ab (.a 1 I<|.k [2,3,5,7,8,9] I)<|av<|eR [2,3,5,7,8,9] I<|bu (fun r st=>∃j,j≤N∧r=N - j∧FG T M k x m j=true∧st=⟨[(2,.ba (bC T) 0),(3,.ba (cz k x) 0),(5,bg M),(7,num m),(8,num (bn T m)),(9,num j)],[]⟩) N ⟨0,by omega,by omega,rfl,rfl⟩ ?_
    rintro r st ⟨j,hj,rfl,hd,rfl⟩
    refine aj<|ab (.a 2 I<|.v (aJ I ((show some (num T.nodes)=some (num (N:Int)) by rw[hNN]))) I<|.a 1 I<|.k [2,3,5,7,8,9,50] I)<|ag I (fun h5=>?_) (fun h5=>?_)
    ·have hjl:j<N:=by have:=tt h5;omega
     have hds:=EW T M k x m j
     rw[hd,Bool.true_and]at hds
     have hcm:(aq T&&cd T (dt T m j).1 (dt T m j).2)=true:=by rw[hv,wV hv hlt];rfl
     have hcn:=A2 T m j hv hlt ⟨by omega,by omega⟩
     have hwn:=Fz T k x (dt T m j).1 (dt T m j).2 hq0 hcm
     generalize dt T m (j:Int)=cx at*
     obtain⟨ck,cy⟩:=cx
     simp only at hcm hcn hwn hds
     obtain⟨r1,hr1⟩:∃q,gG T M (bn T m) j=q:=⟨_,rfl⟩
     obtain⟨r2,hr2⟩:∃q,sO T k x ck cy=q:=⟨_,rfl⟩
     have hrr:=nc T M (bn T m) j
     rw[hr1]at hds hrr
     rw[hr2]at hds hwn
     refine ai<|aj<|av<|aj<|ab (.a 4 I<|.c rfl (hrr) I<|.a 1 I<|.k [2,3,5,7,8,9,58] I)<|ag I (fun h6=>?_) (fun h6=>?_)
     ·have h6:r1=false:=by simpa using h6
      have hd2:FG T M k x m (j+1)=true:=by rw[hds,h6];rfl
      refine bf<|aB (.a 1 I<|.v (aU I) I<|.a 1 I<|.k [2,3,5,7,8,9] I) ?_
      exact⟨N - (j+1),by omega,j+1,by omega,rfl,hd2,rfl⟩
     ·have h6:r1=true:=by simpa using h6
      rw[h6]at hds
      refine ai<|aM<|au 3 I<|eL I (hcn) I<|au 6 I<|aE [2,3,5,7,8,9,10] I ?_
      refine ab (.a 3 I<|.c rfl (hwn) I<|.a 1 I<|.k [2,3,5,7,8,9,70] I)<|ag I (fun h7=>?_) (fun h7=>?_)
      ·have h7:r2=false:=by simpa using h7
       rw[h7]at hds
       have hf:uu T k x=false:=hno m hw hlt (by rw[hA];exact mJ hds (by omega))
       rw[hf]
       exact ab (.a 1 I<|.k [4] I)<|ao<|⟨_,_,az.of I,ax.pure,rfl⟩
      ·have h7:r2=true:=by simpa using h7
       have hd2:FG T M k x m (j+1)=true:=by rw[hds,h7];rfl
       refine dG [] (.c 2<|.c 3<|.c 5<|.c 7<|.c 8<|.c 9<|.nil) .nil rfl rfl ?_
       refine ai<|aB (.a 1 I<|.v (aU I) I<|.a 1 I<|.k [2,3,5,7,8,9] I) ?_
       exact⟨N - (j+1),by omega,j+1,by omega,rfl,hd2,rfl⟩
    ·have hje:j=N:=by have:=ff h5;omega
     subst hje
     have hcv:vN T k x (m+1)=true:=by rw[hst,hA,hd]
     refine bf<|aB (.a 1 I<|.v (aU I) I<|.a 1 I<|.k [2,3,5,7] I) ?_
     exact⟨2*T.ae.length - (m+1),by omega,m+1,by omega,rfl,hcv,rfl⟩
  ·have hme:m=2*T.ae.length:=by have:=ff h3;omega
   subst hme
   have hf:uu T k x=true:=by unfold uu;rw[hq0,hw];rfl
   rw[hf]
   exact bf<|ab (.a 1 I<|.k [4] I)<|ao<|⟨_,_,az.of I,ax.pure,rfl⟩
open Go.Shelf
attribute [local go_sem] Oper.semAt_some
theorem yH(T:an)(k x:Int):Can Tryz.prog 65 [aN T,bY k x] (· =flag (aq T&&cd T k x)):=by
 obtain⟨q1,hq1⟩:∃q,aq T=q:=⟨_,rfl⟩
 obtain⟨q2,hq2⟩:∃q,cd T k x=q:=⟨_,rfl⟩
 rw[hq1,hq2]
 refine aG Tryz.func65 I Tryz.ntmps65 I<|ab (.a 3 I<|.k [2,3] I)<|bz 4 (.raw (.bool (q1&&q2))) [] I ?_ ?_
 ·refine .a 1 I<|.c rfl (hq1▸eI T) I<|.a 1 I<|?_
  cases q1
  ·exact .a 5 I<|.k [4] I
  ·exact .a 2 I<|.c rfl (hq2▸mb T k x) I<|.a 2 I<|.k [4] I
 exact ao<|⟨_,_,az.of I,ax.pure,rfl⟩
end
section
open Go.RowKit cE Mem Net eX
abbrev KP(p:Int×Int):Value:=.agg (pU p)
theorem oE{T:an}{k x:Int}{a:Nat}(ha:a<2*T.ae.length):aQ (aI T k x) a=cG k x T.ae (a / 2):=by
 rw[←fk]
 unfold aI
 simp[ha]
def Ev(T:an)(k x:Int)(l:List ((Int×Int)×PV)):Prop:=∀c v,(c,v)∈l→v=flag (sO T k x c.1 c.2)
theorem Ev.pure{T:an}{k x:Int}{l:List ((Int×Int)×PV)}(h:Ev T k x l):aK ((gd KP l).map (·.2)):=⟨fun i u hu=>by
 have hm:=List.mem_of_getElem? hu
 simp only[gd,List.map_map,List.mem_map]at hm
 obtain⟨a,ha,rfl⟩:=hm
 have:=h a.1 a.2 ha
 show IsPure a.2
 rw[this]
 infer_instance⟩
theorem Ev.set{T:an}{k x:Int}{l:List ((Int×Int)×PV)}(h:Ev T k x l)(c:Int×Int):Ev T k x (iM c (flag (sO T k x c.1 c.2)) l):=fun c' v hm=>by
 rcases ri hm with e|e
 ·cases e;rfl
 ·exact h c' v e
section
variable {T:an}
theorem Ch.last{D:List Bool}{d n:Nat}{p:List Int}(h:Ch T D d n p):n≠d→∃a,a<2*T.ae.length∧aQ D a=false∧aS T a=(d:Int):=by
 induction h with
 |nil=>intro h;exact absurd rfl h
 | @cons n a m p h1 h2 h3 h4 _ _ ih=>
  intro _
  by_cases e:m=d
  ·subst e;exact⟨a,h1,h3,h4⟩
  ·exact ih e
theorem Hf(a:Nat):(bn T a=(cC T.ae (a / 2)).a∧aS T a=(cC T.ae (a / 2)).b)∨(bn T a=(cC T.ae (a / 2)).b∧aS T a=(cC T.ae (a / 2)).a):=by
 unfold aS bn Net.flip
 by_cases h:a % 2=0
 ·rw[if_pos h,if_pos h,if_neg (by omega),show(a+1) / 2=a / 2 by omega]
  exact .inl ⟨rfl,rfl⟩
 ·rw[if_neg h,if_neg h,if_pos (by omega),show(a - 1) / 2=a / 2 by omega]
  exact .inr ⟨rfl,rfl⟩
theorem KN{x:Int}{i:Nat}:cG 1 x T.ae i=decide ((i:Int)=x):=by simp[cG]
theorem KE{x:Int}{i:Nat}:cG 2 x T.ae i=(decide ((cC T.ae i).a=x)||decide ((cC T.ae i).b=x)):=by simp[cG]
end
section
variable {T:an} {M D:List Bool} {n d:Nat}
theorem oQ{x:db}{d:Nat}{e:iV}(h:x.di[d]? =some e):da x (d:Int)=e:=by
 unfold da
 rw[Int.toNat_natCast]
 exact mI _ _ _ h
theorem po(hd:(d:Int)<T.nodes):da (dR T D n) (d:Int)=⟨bI T D n d,false,[]⟩:=oQ (GW (by omega))
theorem yN(hd:(d:Int)<T.nodes):da (uR T D n) (d:Int)=jS T D n d:=oQ (xi (by omega))
theorem yI(hd:(d:Int)<T.nodes):da (ra T M n) (d:Int)=np T (fV T M n) n d:=oQ (wa (by omega))
noncomputable def ij(T:an)(M:List Bool)(s:Int)(n:Nat):db:=if s=0 then dR T [] n else if s=1 then ra T M n else if s=2 then uR T M n else dR T M n
theorem vK{E:List Bool}{a:Nat}{l:List Int}(h:(a:Int)∈cO E l):aQ E a=true:=by
 have:=(List.mem_filter.1 h).2
 rwa [Int.toNat_natCast]at this
theorem pJ(hv:aq T=true)(hn:(n:Int)<T.nodes){E:List Bool}(hf:bW T E=true)(hE:∀a,aQ D a=false→aQ E a=false):GZ T D n (dR T E n) where
 ok:=kO hv hn
 node:=rfl
 down:=fun a ha=>by
  have:=vK ha
  cases h:aQ D a with
  |true=>rfl
  |false=>rw[hE a h]at this;cases this
 JL:=fun y p hs=>by
  rw[po hs.hy]
  exact⟨(hs.H9 hf hE).Eu.2.1,fun h=>by cases h⟩
theorem nM(hv:aq T=true)(h12:T.nodes≤12)(hn:(n:Int)<T.nodes)(hf:bW T M=true)(hM:∀a,aQ D a=false→aQ M a=false)(s:Int):GZ T D n (ij T M s n):=by
  unfold ij
  split
  · exact pJ hv hn (j8 T) (fun a _=>by simp[aQ])
  · split
    · refine ⟨pc hv h12 hn, rfl, fun a ha => ?_, fun y p hs => ?_⟩
      · have:=vK ha
        cases h:aQ D a with
        |true=>rfl
        |false=>rw[hM a h]at this;cases this
      · rw[yI hs.hy]
        have h1:=hs.Eu.1
        unfold np
        have hno:lx (fV T M n) (bI T [] n y)=none:=by
          cases hh:lx (fV T M n) (bI T [] n y)with
          |none=>rfl
          |some a=>
            obtain⟨h2,h3⟩:=xn hh
            rw[h1,List.mem_singleton]at h2
            subst h2
            obtain⟨p0,pt,rfl⟩:∃p0 pt,p=p0::pt:=by
              cases p with
              |nil=>exact absurd hs.pos (by simp)
              |cons p0 pt=>exact⟨p0,pt,rfl⟩
            have h4:=hM _ (hs.up p0 (by simp))
            rw[nK]at h3
            simp only[List.getD_cons_zero,Bool.and_eq_true]at h3
            rw[h4]at h3
            exact absurd h3.2.1 (by decide)
        rw[hno]
        exact⟨h1,fun h=>by cases h⟩
    · split
      · refine⟨pw hv h12 hn,rfl,fun a ha=>?_,fun y p hs=>?_⟩
        · have:=vK ha
          cases h:aQ D a with
          |true=>rfl
          |false=>rw[hM a h]at this;cases this
        · rw[yN hs.hy,(hs.H9 hf hM).Eu.2.2]
          exact⟨rfl,fun _=>rfl⟩
      · exact pJ hv hn hf hM
theorem Ak{D':List Bool}(hv:aq T=true)(hd:(d:Int)<T.nodes)(hD:∀a,aQ D a=aQ D' a):dN T D d n=dN T D' d n:=by
 unfold dN
 rw[BO hv hd false hD]
theorem yP{k x:Int}(hv:aq T=true)(hcv:uu T k x=true)(hn:(n:Int)<T.nodes)(hd:(d:Int)<T.nodes)(hg:¬(k=2∧x=(n:Int)))(hr:0≤dN T (aI T k x) d n){a:Nat}(DV:aQ (fV T (aI T k x) n) a=true):
  (∀b,aQ (pA T (fV T (aI T k x) n) n d a) b=false→aQ (aI T k x) b=false)∧0≤dN T (pA T (fV T (aI T k x) n) n d a) d n∧∀b,aQ (pA T (fV T (aI T k x) n) n d a) b=aQ (aI T (dt T a d).1 (dt T a d).2) b:=by
 rw[nK]at DV
 simp only[Bool.and_eq_true,decide_eq_true_eq]at DV
 obtain⟨ha,hdn,ht⟩:=DV
 have hrb:gG T (aI T k x) (n:Int) d=true:=(mB hv (dx T k x) hn hd).2 hr
 have hw:sO T k x (dt T a d).1 (dt T a d).2=true:=by
  unfold uu vN at hcv
  have h1:=List.all_eq_true.1 (Bool.and_eq_true_iff.1 hcv).2 a (List.mem_range.2 ha)
  unfold Js at h1
  rw[hdn,ht]at h1
  have h2:(decide (k=2)&&decide ((n:Int)=x))=false:=by
   rw[Bool.eq_false_iff]
   intro h
   obtain⟨h3,h4⟩:=Bool.and_eq_true_iff.1 h
   exact hg ⟨of_decide_eq_true h3,(of_decide_eq_true h4).symm⟩
  rw[h2]at h1
  have h3:FG T (aI T k x) k x a T.nodes.toNat=true:=h1
  unfold FG at h3
  have h4:=List.all_eq_true.1 h3 d (List.mem_range.2 (by omega))
  rw[ht,hrb]at h4
  exact h4
 have hin:∀b,aQ (aI T k x) b=true→aQ (aI T (dt T a d).1 (dt T a d).2) b=true:=fun b hb=>by
  have hbl:b<2*T.ae.length:=by
   rcases Nat.lt_or_ge b (2*T.ae.length)with h|h
   ·exact h
   ·rw[←fk,List.getD_eq_getElem?_getD,List.getElem?_eq_none (by rw[fm];omega)]at hb
    cases hb
  rw[oE hbl]at hb ⊢
  unfold sO rM at hw
  have:=List.all_eq_true.1 hw b (List.mem_range.2 hbl)
  rw[hb]at this
  simpa using this
 have hrm:gG T (aI T (dt T a d).1 (dt T a d).2) (n:Int) d=true:=by
  have hF:=ht
  unfold dt
  split
  ·rename_i h;rw[ht]at h;exact(Bool.and_eq_true_iff.1 h).2
  ·split
   ·rename_i h;rw[ht]at h;exact(Bool.and_eq_true_iff.1 h).2
   ·rename_i h1 h2
    have he:dt T a d=(1,((a / 2:Nat):Int)):=by unfold dt;rw[if_neg h1,if_neg h2]
    rw[he]at hin
    rw[mB hv (dx T _ _) hn hd]
    rw[←Ak (D:=aI T k x) hv hd (fun b=>?_)]
    ·exact hr
    ·cases hb:aQ (aI T k x) b with
     |true=>exact(hin b hb).symm
     |false=>
      symm
      by_cases hbl:b<2*T.ae.length
      ·rw[oE hbl]at hb ⊢
       rw[KN]
       refine decide_eq_false fun e=>?_
       have e:b / 2=a / 2:=by omega
       rw[oE ha,←e,hb]at hdn
       cases hdn
      ·rw[←fk,List.getD_eq_getElem?_getD,List.getElem?_eq_none (by rw[fm];omega)]
       rfl
 have heq:∀b,aQ (orM T (aI T (dt T a d).1 (dt T a d).2) (fV T (aI T k x) n)) b=aQ (aI T (dt T a d).1 (dt T a d).2) b:=fun b=>by
  rw[HP]
  by_cases hbl:b<2*T.ae.length
  ·rw[decide_eq_true hbl,Bool.true_and,nK,decide_eq_true hbl,Bool.true_and]
   cases h1:aQ (aI T (dt T a d).1 (dt T a d).2) b with
   |true=>rfl
   |false=>
    cases h2:aQ (aI T k x) b with
    |true=>rw[hin b h2]at h1;cases h1
    |false=>rfl
  ·rw[decide_eq_false hbl,Bool.false_and,←fk,List.getD_eq_getElem?_getD,List.getElem?_eq_none (by rw[fm];omega)]
   rfl
 have hro:gG T (orM T (aI T (dt T a d).1 (dt T a d).2) (fV T (aI T k x) n)) (n:Int) d=true:=by
  rw[mB hv (uL T _ _) hn hd,Ak hv hd heq,←mB hv (dx T _ _) hn hd]
  exact hrm
 have hmix:pA T (fV T (aI T k x) n) n d a=orM T (aI T (dt T a d).1 (dt T a d).2) (fV T (aI T k x) n):=by
  unfold pA
  rw[if_pos hro]
 rw[hmix]
 refine⟨fun b hb=>?_,(mB hv (uL T _ _) hn hd).1 hro,heq⟩
 rw[heq]at hb
 cases h:aQ (aI T k x) b with
 |false=>rfl
 |true=>rw[hin b h]at hb;cases hb
end
section
variable {T:an} {k x:Int} {d:Nat}
def Gn(k x:Int)(n:Nat):Prop:=k=2∧x=(n:Int)
structure Open (T:an) (k x:Int) (d n:Nat) (s:List bV):Prop where
 nil:s=[]
 node:(n:Int)<T.nodes
 here:¬Gn k x n
 reach:0≤dN T (aI T k x) d n
structure jU (T:an) (k x:Int) (d n:Nat) (s:List bV) (q:List Int):Prop where
 FJ:∃D,(∀a,aQ D a=false→aQ (aI T k x) a=false)∧sL T D d n (eD ⟨1,(n:Int)⟩ s) q
 node:(n:Int)<T.nodes
 here:¬Gn k x n
 len:s.length≤32
theorem qf{a m:Nat}(ha:a<2*T.ae.length)(hu:aQ (aI T k x) a=false)(hm:aS T a=(m:Int)):¬Gn k x m:=by
 rintro⟨rfl,rfl⟩
 rw[oE ha,KE,Bool.or_eq_false_iff,decide_eq_false_iff_not,decide_eq_false_iff_not]at hu
 rcases Hf (T:=T) a with h|h
 ·exact hu.2 (h.2.symm.trans hm)
 ·exact hu.1 (h.2.symm.trans hm)
theorem qi(hv:aq T=true){a m:Nat}(ha:a<2*T.ae.length)(hm:aS T a=(m:Int)):(m:Int)<T.nodes:=by rw[←hm];exact((aO hv).head a ha).2
structure sX (T:an) (k x:Int) (n:Nat) (a:Int) (b m:Nat):Prop where
 eq:a=(b:Int)
 fC:b<2*T.ae.length
 tail:bn T b=(n:Int)
 head:aS T b=(m:Int)
 up:aQ (aI T k x) b=false
theorem pV(hv:aq T=true)(h12:T.nodes≤12)(hd:(d:Int)<T.nodes){n:Nat}{s:List bV}{a:Int}{q:List Int}(h:jU T k x d n s (a::q))(st:Int){p:dw}(hp:p.dst=(d:Int))(hh:p.dA=0)(hs:p.stack=s):
  ∃(b m:Nat) (s':List bV),sX T k x n a b m∧dE T (ij T (aI T k x) st n) p=cr p s' [a]∧jU T k x d m s' q:=by
 obtain⟨D,hD,hl⟩:=h.FJ
 subst hs
 obtain⟨m,s',h1,h2,h3,h4,h5,h6,h7,h8⟩:=Ct (nM hv h12 h.node (dx T k x) hD st) hd hp hh rfl hl h.len
 obtain⟨b,rfl⟩:=Int.eq_ofNat_of_zero_le h2
 rw[Int.toNat_natCast]at h1 h3 h4 h5
 have hup:=hD b h5
 exact⟨b,m,s',⟨rfl,h3,h4,h1,hup⟩,h6,⟨D,hD,h8⟩,qi hv h3 h1,qf h3 hup h1,Nat.le_trans h7 h.len⟩
theorem sf(hv:aq T=true)(h12:T.nodes≤12)(hd:(d:Int)<T.nodes){n:Nat}{s:List bV}(h:jU T k x d n s [])(st:Int){p:dw}(hp:p.dst=(d:Int))(hs:p.stack=s):
  n=d∧(dE T (ij T (aI T k x) st n) p).ay=[]∧(dE T (ij T (aI T k x) st n) p).cW= -1:=by
 obtain⟨D,hD,hl⟩:=h.FJ
 subst hs
 obtain⟨e1,e2⟩:=hl.end_
 exact⟨e2,pN (nM hv h12 h.node (dx T k x) hD st) hd hp e2 e1 h.len⟩
theorem Eg(hv:aq T=true)(h12:T.nodes≤12)(hd:(d:Int)<T.nodes){s:List bV}(h:Open T k x d d s)(st:Int){p:dw}(hp:p.dst=(d:Int))(hs:p.stack=s):
  (dE T (ij T (aI T k x) st d) p).ay=[]∧(dE T (ij T (aI T k x) st d) p).cW= -1:=by
 have hn:=h.nil
 subst hs
 exact pN (nM (D:=aI T k x) hv h12 h.node (dx T k x) (fun _ h=>h) st) hd hp rfl (by rw[hn];rfl) (by rw[hn];simp)
theorem nu(hv:aq T=true)(h12:T.nodes≤12)(hd:(d:Int)<T.nodes){n:Nat}(hn:(n:Int)<T.nodes)(hne:n≠d){D:List Bool}(hf:bW T D=true)(hD:∀a,aQ D a=false→aQ (aI T k x) a=false)(hr:0≤dN T D d n){t:db}(hok:cQ T t=true)(htn:t.node=(n:Int))(he:da t (d:Int)=jS T D n d){p:dw}(hp:p.dst=(d:Int))(hh:p.dA=0)(hs:p.stack=[]):
  ∃(b m:Nat) (s':List bV) (q:List Int),cu T D n d=(b:Int)::q∧sX T k x n b b m∧dE T t p=cr p s' [(b:Int)]∧jU T k x d m s' q∧(q.length:Int)+1<T.nodes:=by
 have hsp:gQ T D (n:Int) d=0:=by rw[kf hv hf hn hd,if_neg (by omega)]
 obtain⟨n',d',e1,e2,hP⟩:=vq hsp (by omega)
 have e1:n=n':=by omega
 have e2:d=d':=by omega
 subst e1;subst e2
 have hent:=qq hP
 obtain⟨b,m,q,h1,h2,h3,h4,h5,h6⟩:=hP.enter
 have hpush:=v8 T D (n:Int) d h12
 have hup:=hD b h4
 rw[h1]at hent
 rw[List.getD_cons_zero]at hent
 have hst:=tY hok htn hd hne hp hh (by rw[hs];rfl) (by rw[hs];simp) (by rw[he,hent];simp) (by rw[he];exact hpush)
 rw[he,hent,if_pos rfl]at hst
 rw[hent]at hpush
 rw[h1]at h6
 have hlen:=hP.len
 rw[h1,List.length_cons]at hlen
 exact⟨b,m,_,q,h1,⟨rfl,h2,h3,h5,hup⟩,hst,⟨⟨D,hD,h6⟩,qi hv h2 h5,qf h2 hup h5,hpush⟩,by omega⟩
theorem pQ(hv:aq T=true)(hd:(d:Int)<T.nodes){n:Nat}(hn:(n:Int)<T.nodes)(hne:n≠d){E:List Bool}(hr:0≤dN T E d n){t:db}(hok:cQ T t=true)(htn:t.node=(n:Int))(he:da t (d:Int)=⟨bI T E n d,false,[]⟩){p:dw}(hp:p.dst=(d:Int))(hh:p.dA=0)(hs:p.stack=[]):
  bI T E n d≠[]∧dE T t p=cr p [] (bI T E n d):=by
 obtain⟨j,hj⟩:=jM (D:=E) hv hn hd hne hr
 have hm:=fw hj ((aO hv).cost j hj.fC).1
 have hpos:0<(bI T E n d).length:=List.length_pos_of_mem hm
 have hst:=tY hok htn hd hne hp hh (by rw[hs];rfl) (by rw[hs];simp) (by rw[he];exact hpos) (by rw[he];simp)
 rw[he]at hst
 exact⟨fun e=>by rw[e]at hpos;exact absurd hpos (by simp),hst⟩
theorem zo(hv:aq T=true)(h12:T.nodes≤12)(hd:(d:Int)<T.nodes)(hcv:uu T k x=true)(hsafe:∀m:Nat,(m:Int)<T.nodes→¬Gn k x m→0≤dN T [] d m→0≤dN T (aI T k x) d m)
  {n:Nat} {s:List bV} (h:Open T k x d n s) (hne:n≠d) {st:Int} (hst:st=0∨st=1∨st=2) (hold:st=0→∀a,a<2*T.ae.length→bn T a=(n:Int)→aQ (aI T k x) a=false) {p:dw} (hp:p.dst=(d:Int)) (hh:p.dA=0) (hs:p.stack=s):
  ∃ay s',dE T (ij T (aI T k x) st n) p=cr p s' ay∧ay≠[]∧∀a∈ay,∃b m:Nat,sX T k x n a b m∧((st≠2∧Open T k x d m s'∧dN T [] d n=dN T [] d m+cn T b∧0≤dN T [] d m)∨∃q,jU T k x d m s' q∧(q.length:Int)+1<T.nodes):=by
 have hnil:=h.nil
 subst hnil
 have hbare:0≤dN T [] d n:=D4 hv h.node hd (fun a ha hu=>by simp[aQ]) h.reach
 have hout:∀(t:db),cQ T t=true→t.node=(n:Int)→da t (d:Int)=⟨bI T [] n d,false,[]⟩→(∀a∈bI T [] n d,aQ (aI T k x) a.toNat=false)→st≠2→
   ∃ay s',dE T t p=cr p s' ay∧ay≠[]∧∀a∈ay,∃b m:Nat,sX T k x n a b m∧((st≠2∧Open T k x d m s'∧dN T [] d n=dN T [] d m+cn T b∧0≤dN T [] d m)∨∃q,jU T k x d m s' q∧(q.length:Int)+1<T.nodes):=fun t h1 h2 h3 h4 h5=>by
  obtain⟨e1,e2⟩:=pQ hv hd h.node hne hbare h1 h2 h3 hp hh hs
  refine⟨_,_,e2,e1,fun a ha=>?_⟩
  obtain⟨b,rfl,hb⟩:=cZ ha
  have hup:=h4 _ ha
  rw[Int.toNat_natCast]at hup
  obtain⟨m,hm⟩:=Int.eq_ofNat_of_zero_le ((aO hv).head b hb.fC).1
  obtain⟨c1,c2⟩:=hb.dN hm
  have hml:=qi hv hb.fC hm
  have hmh:=qf hb.fC hup hm
  exact⟨b,m,⟨rfl,hb.fC,hb.tail,hm,hup⟩,.inl ⟨h5,⟨rfl,hml,hmh,hsafe m hml hmh c1⟩,c2,c1⟩⟩
 rcases hst with rfl|rfl|rfl
 ·have ht:ij T (aI T k x) 0 n=dR T [] n:=by unfold ij;rw[if_pos rfl]
  rw[ht]
  exact hout _ (kO hv h.node) I (po hd) (fun a ha=>by
   obtain⟨b,rfl,hb⟩:=cZ ha
   rw[Int.toNat_natCast]
   exact hold rfl b hb.fC hb.tail) (by decide)
 ·have ht:ij T (aI T k x) 1 n=ra T (aI T k x) n:=by unfold ij;rw[if_neg (by decide),if_pos rfl]
  rw[ht]
  cases hh2:lx (fV T (aI T k x) n) (bI T [] n d)with
  |none=>
   have he:np T (fV T (aI T k x) n) n d=⟨bI T [] n d,false,[]⟩:=by unfold np;rw[hh2]
   refine hout _ (pc hv h12 h.node) I (by rw[yI hd,he]) (fun a ha=>?_) (by decide)
   obtain⟨b,rfl,hb⟩:=cZ ha
   have h1:=ET hh2 _ ha
   rw[nK,Int.toNat_natCast,decide_eq_true hb.fC,Bool.true_and,hb.tail,decide_eq_true rfl,Bool.and_true]at h1
   rw[Int.toNat_natCast]
   exact h1
  |some a=>
   obtain⟨h1,h2⟩:=xn hh2
   obtain⟨c1,c2,_⟩:=yP hv hcv h.node hd h.here h.reach h2
   have he:np T (fV T (aI T k x) n) n d=jS T (pA T (fV T (aI T k x) n) n d a.toNat) n d:=by unfold np;rw[hh2]
   obtain⟨b,m,s',q,e1,e2,e3,e4⟩:=nu hv h12 hd h.node hne (xO (ED T _ _) _) c1 c2 (pc hv h12 h.node) I (by rw[yI hd,he]) hp hh hs
   exact⟨_,_,e3,by simp,fun a ha=>by
    rw[List.mem_singleton]at ha
    subst ha
    exact⟨b,m,e2,.inr ⟨q,e4⟩⟩⟩
 ·have ht:ij T (aI T k x) 2 n=uR T (aI T k x) n:=by unfold ij;rw[if_neg (by decide),if_neg (by decide),if_pos rfl]
  rw[ht]
  obtain⟨b,m,s',q,e1,e2,e3,e4⟩:=nu hv h12 hd h.node hne (dx T k x) (fun _ h=>h) h.reach (pw hv h12 h.node) I (yN hd) hp hh hs
  exact⟨_,_,e3,by simp,fun a ha=>by
   rw[List.mem_singleton]at ha
   subst ha
   exact⟨b,m,e2,.inr ⟨q,e4⟩⟩⟩
theorem B7(hv:aq T=true)(h12:T.nodes≤12)(hd:(d:Int)<T.nodes){n:Nat}{s:List bV}(h:Open T k x d n s)(hne:n≠d){st:Int}(hst:st≠0∧st≠1){p:dw}(hp:p.dst=(d:Int))(hh:p.dA=0)(hs:p.stack=s):
  ∃ay s',dE T (ij T (aI T k x) st n) p=cr p s' ay∧ay≠[]∧∀a∈ay,∃b m:Nat,sX T k x n a b m∧((st≠2∧Open T k x d m s'∧dN T (aI T k x) d n=dN T (aI T k x) d m+cn T b)∨(st=2∧∃q,cu T (aI T k x) n d=a::q∧ay=[a]∧jU T k x d m s' q∧(q.length:Int)+1<T.nodes)):=by
 have hnil:=h.nil
 subst hnil
 by_cases h2:st=2
 ·subst h2
  have ht:ij T (aI T k x) 2 n=uR T (aI T k x) n:=by unfold ij;rw[if_neg (by decide),if_neg (by decide),if_pos rfl]
  rw[ht]
  obtain⟨b,m,s',q,e1,e2,e3,e4⟩:=nu hv h12 hd h.node hne (dx T k x) (fun _ h=>h) h.reach (pw hv h12 h.node) I (yN hd) hp hh hs
  exact⟨_,_,e3,by simp,fun a ha=>by
   rw[List.mem_singleton]at ha
   subst ha
   exact⟨b,m,e2,.inr ⟨rfl,q,e1,rfl,e4⟩⟩⟩
 ·have ht:ij T (aI T k x) st n=dR T (aI T k x) n:=by unfold ij;rw[if_neg hst.1,if_neg hst.2,if_neg h2]
  rw[ht]
  obtain⟨e1,e2⟩:=pQ hv hd h.node hne h.reach (kO hv h.node) I (po hd) hp hh hs
  refine⟨_,_,e2,e1,fun a ha=>?_⟩
  obtain⟨b,rfl,hb⟩:=cZ ha
  obtain⟨m,hm⟩:=Int.eq_ofNat_of_zero_le ((aO hv).head b hb.fC).1
  obtain⟨c1,c2⟩:=hb.dN hm
  exact⟨b,m,⟨rfl,hb.fC,hb.tail,hm,hb.up⟩,.inl ⟨h2,⟨rfl,qi hv hb.fC hm,qf hb.fC hb.up hm,c1⟩,c2⟩⟩
end
section
variable {T:an} {k x:Int} {d:Nat}
noncomputable def kc(T:an)(D:List Bool)(d n:Nat):Nat:=((List.range T.nodes.toNat).filter fun m=>decide (0≤dN T D d m)&&decide (dN T D d m<dN T D d n)).length
theorem uT{D:List Bool}{n:Nat}(hn:(n:Int)<T.nodes):kc T D d n<T.nodes.toNat:=by
 unfold kc
 have h:((List.range T.nodes.toNat).filter fun m=>decide (0≤dN T D d m)&&decide (dN T D d m<dN T D d n)).length<(List.range T.nodes.toNat).length:=by
  refine List.length_filter_lt_length_iff_exists.2 ⟨n,List.mem_range.2 (by omega),?_⟩
  simp
 simpa using h
theorem filter_lt{α:Type}{p q:α→Bool}{l:List α}{a:α}(hpq:∀b∈l,p b=true→q b=true)(ha:a∈l)(hp:p a=false)(hq:q a=true):(l.filter p).length<(l.filter q).length:=by
 have e:l.filter p=(l.filter q).filter p:=by
  rw[List.filter_filter]
  refine List.filter_congr fun b hb=>?_
  cases h:p b with
  |false=>simp
  |true=>simp[hpq b hb h]
 rw[e]
 exact List.length_filter_lt_length_iff_exists.2 ⟨a,List.mem_filter.2 ⟨ha,hq⟩,by rw[hp];simp⟩
theorem wo{D:List Bool}{n m:Nat}(hm:(m:Int)<T.nodes)(h0:0≤dN T D d m)(h:dN T D d m<dN T D d n):kc T D d m<kc T D d n:=by
 unfold kc
 refine filter_lt (a:=m) (fun b _ hb=>?_) (List.mem_range.2 (by omega)) (by simp) (by simp[h0,h])
 simp only[Bool.and_eq_true,decide_eq_true_eq]at hb ⊢
 exact⟨hb.1,by omega⟩
def Way(T:an)(k x:Int)(d:Nat)(late:Bool)(n:Nat)(s:List bV)(u:Nat):Prop:=
 (Open T k x d n s∧u=if late then T.nodes.toNat+kc T (aI T k x) d n else 2*T.nodes.toNat+kc T [] d n)∨∃q,jU T k x d n s q∧u=q.length∧q.length<T.nodes.toNat
def Perm(T:an)(k x:Int)(late:Bool)(st:Nat→Int):Prop:=
 ∀n:Nat,(n:Int)<T.nodes→¬Gn k x n→if late then st n≠0∧st n≠1 else(st n=0∨st n=1∨st n=2)∧(st n=0→∀a,a<2*T.ae.length→bn T a=(n:Int)→aQ (aI T k x) a=false)
theorem Way.on{n:Nat}{s:List bV}{u:Nat}(h:Way T k x d false n s u):∃u',u'≤u∧Way T k x d true n s u':=by
 rcases h with⟨h,rfl⟩|⟨q,h,rfl,hl⟩
 ·have h1:=uT (D:=aI T k x) (d:=d) h.node
  refine⟨T.nodes.toNat+kc T (aI T k x) d n,?_,.inl ⟨h,?_⟩⟩
  ·rw[if_neg (by simp)];omega
  ·rw[if_pos rfl]
 ·exact⟨_,Nat.le_refl _,.inr ⟨q,h,rfl,hl⟩⟩
theorem sr(hv:aq T=true)(h12:T.nodes≤12)(hd:(d:Int)<T.nodes){late:Bool}(hcv:late=false→uu T k x=true)(hsafe:late=false→∀m:Nat,(m:Int)<T.nodes→¬Gn k x m→0≤dN T [] d m→0≤dN T (aI T k x) d m)
  {st:Nat→Int} (hp:Perm T k x late st) {n:Nat} {s:List bV} {u:Nat} (h:Way T k x d late n s u) {p:dw} (hpd:p.dst=(d:Int)) (hh:p.dA=0) (hs:p.stack=s):
  (n=d∧(dE T (ij T (aI T k x) (st n) n) p).ay=[]∧(dE T (ij T (aI T k x) (st n) n) p).cW= -1)∨
  ∃ay s',dE T (ij T (aI T k x) (st n) n) p=cr p s' ay∧ay≠[]∧∀a∈ay,∃b m:Nat,sX T k x n a b m∧∃u',u'<u∧Way T k x d late m s' u':=by
 have hS:=aO hv
 rcases h with⟨h,rfl⟩|⟨q,h,rfl,hl⟩
 ·by_cases hne:n=d
  ·subst hne
   exact .inl ⟨rfl,Eg hv h12 hd h (st n) hpd hs⟩
  ·refine .inr ?_
   have hpn:=hp n h.node h.here
   cases late with
   |true=>
    rw[if_pos rfl]at hpn
    obtain⟨ay,s',e1,e2,e3⟩:=B7 hv h12 hd h hne hpn hpd hh hs
    refine⟨ay,s',e1,e2,fun a ha=>?_⟩
    obtain⟨b,m,g,hc⟩:=e3 a ha
    refine⟨b,m,g,?_⟩
    rcases hc with⟨_,ho,hdist⟩|⟨_,q,_,_,hL,hq⟩
    ·have hc1:=hS.cost b g.fC
     have:=wo (d:=d) (n:=n) ho.node ho.reach (by omega)
     exact⟨_,by rw[if_pos rfl,if_pos rfl];omega,.inl ⟨ho,rfl⟩⟩
    ·exact⟨q.length,by rw[if_pos rfl];omega,.inr ⟨q,hL,rfl,by omega⟩⟩
   |false=>
    rw[if_neg (by simp)]at hpn
    obtain⟨ay,s',e1,e2,e3⟩:=zo hv h12 hd (hcv rfl) (hsafe rfl) h hne hpn.1 hpn.2 hpd hh hs
    refine⟨ay,s',e1,e2,fun a ha=>?_⟩
    obtain⟨b,m,g,hc⟩:=e3 a ha
    refine⟨b,m,g,?_⟩
    rcases hc with⟨_,ho,hdist,h0⟩|⟨q,hL,hq⟩
    ·have hc1:=hS.cost b g.fC
     have:=wo (D:=[]) (d:=d) (n:=n) ho.node h0 (by omega)
     exact⟨_,by rw[if_neg (by simp),if_neg (by simp)];omega,.inl ⟨ho,rfl⟩⟩
    ·exact⟨q.length,by rw[if_neg (by simp)];omega,.inr ⟨q,hL,rfl,by omega⟩⟩
 ·cases q with
  |nil=>exact .inl (sf hv h12 hd h (st n) hpd hs)
  |cons a q=>
   obtain⟨b,m,s',g,e1,e2⟩:=pV hv h12 hd h (st n) hpd hh hs
   refine .inr ⟨[a],s',e1,by simp,fun c hc=>?_⟩
   rw[List.mem_singleton]at hc
   subst hc
   simp only[List.length_cons]at hl ⊢
   exact⟨b,m,g,q.length,by omega,.inr ⟨q,e2,rfl,by omega⟩⟩
end
def dq(p:dw)(s:List bV):dw:=⟨p.id,p.src,p.dst,p.j9,s,0⟩
inductive Br (T:an) (tb:Nat→db) (p0:dw):Nat→List bV→List Int→Nat→Int→Prop
 |stop {n:Nat} {s:List bV}:(dE T (tb n) (dq p0 s)).ay=[]→Br T tb p0 n s [] n (dE T (tb n) (dq p0 s)).cW
 |go {n m e:Nat} {s:List bV} {a:Int} {p:List Int} {w:Int}:a∈(dE T (tb n) (dq p0 s)).ay→aS T a.toNat=(m:Int)→Br T tb p0 m (dE T (tb n) (dq p0 s)).eu.stack p e w→Br T tb p0 n s (a::p) e w
section
variable {T:an} {k x:Int} {d:Nat} {st:Nat→Int} {p0:dw}
noncomputable def yl(T:an)(M:List Bool)(st:Nat→Int)(n:Nat):db:=ij T M (st n) n
end
section
variable {T:an} {D D':List Bool} {k x:Int} {d:Nat} {st:Nat→Int} {p0:dw}
end
def pT(k x n:Int):Bool:=decide (k=2)&&decide (x=n)
def qd(T:an)(k x:Int)(n:Nat):Bool:=(List.range (2*T.ae.length)).any fun a=>aQ (aI T k x) a&&decide (bn T a=(n:Int))
def qz(s:Int):Bool:=decide (0≤s)&&decide (s≤3)
def sI(c:Bool)(s:Int):Bool:= !decide (s=3)&&(!decide (s=0)|| !c)&&(!decide (s=1)||c)
def so(s:Int):Bool:=decide (s=2)||decide (s=3)
def ej(k x:Int)(p:Nat→Bool)(m:Nat):Bool:=(List.range m).all fun n=>pT k x n||p n
theorem jd(k x:Int)(p:Nat→Bool)(m:Nat):ej k x p (m+1)=(ej k x p m&&(pT k x m||p m)):=by
 unfold ej
 rw[List.range_succ,List.all_append]
 simp
theorem jZ{k x:Int}{p:Nat→Bool}{m:Nat}:ej k x p m=true↔∀n,n<m→pT k x n=false→p n=true:=by
 unfold ej
 rw[List.all_eq_true]
 constructor
 ·intro h n hn hg
  have:=h n (List.mem_range.2 hn)
  rw[hg,Bool.false_or]at this
  exact this
 ·intro h n hn
  cases hg:pT k x n with
  |true=>rfl
  |false=>rw[Bool.false_or];exact h n (List.mem_range.1 hn) hg
def fL(l:List Int)(n:Nat):Int:=l.getD n 0
def fS(T:an)(k x:Int)(l:List Int):Bool:=
 if(aq T&&cd T k x)&&decide ((l.length:Int)=T.nodes) then ej k x (fun n=>qz (fL l n)) l.length&&(ej k x (fun n=>sI (qd T k x n) (fL l n)) l.length||ej k x (fun n=>so (fL l n)) l.length) else false
theorem xK{k x:Int}{p:Nat→Bool}{m i:Nat}(hi:i<m)(hg:pT k x i=false)(hp:p i=false):ej k x p m=false:=by
 cases h:ej k x p m with
 |false=>rfl
 |true=>rw[jZ.1 h i hi hg]at hp;cases hp
section
variable {T:an} {k x:Int} {l:List Int}
theorem IX{n:Nat}:pT k x n=true↔Gn k x n:=by
 unfold pT Gn
 simp
theorem ni{n:Nat}:pT k x n=false↔¬Gn k x n:=by
 rw[←IX];simp
theorem D1{n:Nat}:qd T k x n=false↔∀a,a<2*T.ae.length→bn T a=(n:Int)→aQ (aI T k x) a=false:=by
 unfold qd
 rw[List.any_eq_false]
 constructor
 ·intro h a ha ht
  have:=h a (List.mem_range.2 ha)
  rw[decide_eq_true ht,Bool.and_true]at this
  simpa using this
 ·intro h a ha
  rw[List.mem_range]at ha
  by_cases ht:bn T a=(n:Int)
  ·rw[h a ha ht];simp
  ·rw[decide_eq_false ht];simp
theorem F8(h:fS T k x l=true):aq T=true∧cd T k x=true∧(l.length:Int)=T.nodes∧(∀n:Nat,(n:Int)<T.nodes→¬Gn k x n→0≤fL l n∧fL l n≤3)∧∃late,Perm T k x late (fL l)∧(late=ej k x (fun n=>so (fL l n)) l.length):=by
 unfold fS at h
 split at h
 ·rename_i h1
  simp only[Bool.and_eq_true,decide_eq_true_eq,Bool.or_eq_true]at h1 h
  obtain⟨⟨hv,hc⟩,hl⟩:=h1
  obtain⟨hok,hel⟩:=h
  refine⟨hv,hc,hl,fun n hn hg=>?_,_,?_,rfl⟩
  ·have:=jZ.1 hok n (by omega) (ni.2 hg)
   unfold qz at this
   simpa using this
  ·cases hla:ej k x (fun n=>so (fL l n)) l.length with
   |true=>
    intro n hn hg
    have:=jZ.1 hla n (by omega) (ni.2 hg)
    rw[if_pos rfl]
    unfold so at this
    simp only[Bool.or_eq_true,decide_eq_true_eq]at this
    omega
   |false=>
    rw[hla]at hel
    have her:ej k x (fun n=>sI (qd T k x n) (fL l n)) l.length=true:=by
     rcases hel with h|h
     ·exact h
     ·cases h
    intro n hn hg
    have h1:=jZ.1 her n (by omega) (ni.2 hg)
    have h2:=jZ.1 hok n (by omega) (ni.2 hg)
    rw[if_neg (by simp)]
    unfold sI at h1
    unfold qz at h2
    simp only[Bool.and_eq_true,Bool.or_eq_true,Bool.not_eq_true',decide_eq_true_eq,decide_eq_false_iff_not]at h1 h2
    obtain⟨⟨e3,e0⟩,e1⟩:=h1
    refine⟨by omega,fun h0=>D1.1 ?_⟩
    rcases e0 with e0|e0
    ·exact absurd h0 e0
    ·exact e0
 ·cases h
end
theorem uk(k x n:Int):Can Tryz.prog 73 [bY k x,num n] (· =flag (pT k x n)):=by
 obtain⟨q1,hq1⟩:∃q,decide (k=2)=q:=⟨_,rfl⟩
 obtain⟨q2,hq2⟩:∃q,decide (x=n)=q:=⟨_,rfl⟩
 unfold pT
 rw[hq1,hq2]
 refine aG Tryz.func73 I Tryz.ntmps73 I<|ab (.a 2 I<|.k [1,2] I)<|bz 4 (.raw (.bool (q1&&q2))) [] I ?_ ?_
 ·refine .a 2 I<|.v (cc I (hq1)) I<|.a 1 I<|?_
  cases q1
  ·exact .a 6 I<|.k [4] I
  ·exact .a 3 I<|.v (cc I (hq2)) I<|.a 2 I<|.k [4] I
 exact ao<|⟨_,_,az.of I,ax.pure,rfl⟩
def xT(T:an)(M:List Bool)(N a:Nat):List Bool:=(List.range N).map fun(n:Nat)=>(List.range a).any fun b=>aQ M b&&decide (bn T b=(n:Int))
section
variable {T:an} {M:List Bool} {N a:Nat}
theorem AX:(xT T M N a).length=N:=by simp[xT]
theorem EK:xT T M N 0=List.replicate N false:=by
 unfold xT
 refine List.ext_getElem (by simp) fun i h1 h2=>by simp
theorem I3(h:aQ M a=false):xT T M N (a+1)=xT T M N a:=by
 unfold xT
 refine List.map_congr_left fun n _=>?_
 rw[List.range_succ,List.any_append]
 simp[h]
theorem Ht(h:aQ M a=true){m:Nat}(hm:bn T a=(m:Int)):xT T M N (a+1)=(xT T M N a).set m true:=by
 refine List.ext_getElem (by simp[xT]) fun i h1 h2=>?_
 rw[List.getElem_set]
 simp only[xT,List.getElem_map,List.getElem_range,List.range_succ,List.any_append,List.any_cons,List.any_nil,Bool.or_false,h,Bool.true_and,hm]
 by_cases e:m=i
 ·subst e;simp
 ·rw[if_neg e,decide_eq_false (by omega),Bool.or_false]
theorem Gq{k x:Int}{n:Nat}(hn:n<N):(xT T (aI T k x) N (2*T.ae.length)).getD n false=qd T k x n:=by
 unfold xT qd
 simp[hn]
end
set_option maxHeartbeats 4000000 in
theorem mF(T:an)(k x:Int)(l:List Int)(hl:l.length≤1000):Can Tryz.prog 25 [aN T,bY k x,aw l] (· =flag (fS T k x l)):=by
  obtain⟨q1,hq1⟩:∃q,decide (dY T k x≠0)=q:=⟨_,rfl⟩
  obtain⟨q2,hq2⟩:∃q,decide ((l.length:Int)≠T.nodes)=q:=⟨_,rfl⟩
  have hme:dY T k x=if(aq T&&cd T k x)=true then 0 else 1:=rfl
  refine aG Tryz.func25 I Tryz.ntmps25 I<|ab (.a 3 I<|.k [2,3,4] I)<|ab (.a 2 I<|.c rfl (lF T k x) I<|.a 5 I<|.k [2,3,4,7,8] I)<|aj<|bz 30 (.raw (.bool (q1||q2))) [2,3,4,7] I ?_ ?_
  · refine .a 1 I<|.v (cc I (hq1)) I<|.a 1 I<|?_
    cases q1
    · exact .a 3 I<|.v (aJ I (rfl)) I<|.v (cc I (hq2)) I<|.a 1 I<|.k [30,2,3,4,7] I
    · exact .a 6 I<|.k [30,2,3,4,7] I
  refine ag I (fun hc=>?_) (fun hc=>?_)
  · have hno:fS T k x l=false:=by
      unfold fS
      split
      · rename_i h
        exfalso
        obtain⟨h1,h2⟩:=Bool.and_eq_true_iff.1 h
        rw[if_pos h1]at hme
        rw[←hq1,←hq2,hme]at hc
        simp only[ne_eq,not_true_eq_false,decide_false,Bool.false_or,decide_eq_true_eq]at hc h2
        exact hc h2
      · rfl
    exact ab (.a 1 I<|.k [6] I)<|ao<|⟨_,_,az.of I,ax.pure,by rw[hno];rfl⟩
  · obtain ⟨rfl, rfl⟩ := Bool.or_eq_false_iff.1 hc
    have hvc:(aq T&&cd T k x)=true:=by
      cases h:(aq T&&cd T k x)with
      |true=>rfl
      |false=>rw[if_neg (by rw[h];decide)]at hme;exact absurd (ff hq1) (by rw[hme];decide)
    have hln:(l.length:Int)=T.nodes:=by have:=ff hq2;simpa using this
    have hP:fS T k x l=(ej k x (fun n=>qz (fL l n)) l.length&&(ej k x (fun n=>sI (qd T k x n) (fL l n)) l.length||ej k x (fun n=>so (fL l n)) l.length)):=by
      unfold fS
      rw[if_pos (by rw[hvc,decide_eq_true hln];rfl)]
    have hv:=(Bool.and_eq_true_iff.1 hvc).1
    have hMl:=fm T k x
    have hll:=bR hv
    rw[if_pos hvc]at hme
    rw[hme]
    simp only[if_true]
    obtain⟨M,hM⟩:∃M,aI T k x=M:=⟨_,rfl⟩
    obtain⟨N,hN⟩:∃N:Nat,l.length=N:=⟨_,rfl⟩
    have hTN:T.nodes=(N:Int):=by omega
    rw[hM]at hMl ⊢
    refine ai<|aM<|au 1 I<|bx (aJ I ((show some (num T.nodes)=some (num (N:Int)) by rw[hTN]))) I<|b9 (dS I (aZ.rk.get I) I I (rfl:(N:Int)=(N:Int)) (rfl:(N:Int)=(N:Int)) ⟨by unfold maxLen;omega,by omega⟩) I<|au 1 I<|aE [2,3,4,7,9] I ?_
    refine eE (σ':=[some (.row 4 1 N (bX (xT T M N 0)))]) (by rw[EK,←ik];rfl) ?_
    refine aj<|ab (.a 3 I<|.k [2,3,4,9,34,35,36] I)<|av<|eR [2,3,4,9,34,35,36] I<|bu (fun r st=>∃a,a≤M.length∧r=M.length - a∧st=⟨[(2,aw l),(3,.ba (bC T) 0),(4,.ba (cz k x) 0),(9,.own 0),(34,bg M),(35,num M.length),(36,num a)],[some (.row 4 1 N (bX (xT T M N a)))]⟩) M.length ⟨0,by omega,by omega,rfl⟩ ?_
    rintro r st ⟨a,ha,rfl,rfl⟩
    refine ab (.a 1 I<|.k [2,3,4,9,34,35,36,37] I)<|aj<|ag I (fun hc=>?_) (fun hc=>?_)
    · have hlt:a<M.length:=by have:=tt hc;omega
      obtain⟨b,hb⟩:∃b,aQ M a=b:=⟨_,rfl⟩
      obtain⟨m,hm⟩:=Int.eq_ofNat_of_zero_le ((aO hv).tail a (by omega)).1
      have hmN:=((aO hv).tail a (by omega)).2
      refine ai<|aj<|av<|ab (.a 1 I<|.v (aP (a) I) I<|.v (aJ I ((dj M a hlt).trans (by rw[show M.getD a false=b from hb]))) I<|.a 2 I<|.k [2,3,4,9,10,11,34,35,36] I)<|ab (.a 1 I<|.k [2,3,4,9,10,34,35,36,41] I)<|ag I (fun hc=>?_) (fun hc=>?_)
      · have hst:=Ht (N:=N) (hb.trans hc) hm
        have hcl:=AX (T:=T) (M:=M) (N:=N) (a:=a)
        refine bH<|au 3 I<|eL I ((show Can Tryz.prog 79 [aN T,num a] (· =num m) by have h:=jC T a (by omega);rw[hm]at h;exact h)) I<|bx (aP (m) I) I<|bb ((by first|exact bM I (aZ.tk.get I) I I I (by first|omega|(simp;omega))|exact bc I (aZ.tk.get I) I I I (by first|omega|(simp;omega)))) I I<|aE [2,3,4,9,34,35,36] I ?_
        refine aB (.v (aU I) I<|.a 1 I<|.k [2,3,4,9,34,35,36] I) ?_
        exact⟨M.length - (a+1),by omega,a+1,by omega,rfl,by rw[hst];rfl⟩
      · have hst:=I3 (T:=T) (N:=N) (hb.trans hc)
        refine ai<|aB (.v (aU I) I<|.a 1 I<|.k [2,3,4,9,34,35,36] I) ?_
        exact⟨M.length - (a+1),by omega,a+1,by omega,rfl,by rw[hst];rfl⟩
    · have hae:a=M.length:=by have:=ff hc;omega
      refine bf<|ab (.a 2 I<|.k [2,4,9,12,13] I)<|aj<|ab (.a 3 I<|.k [4,9,12,13,48,49,50] I)<|av<|eR [4,9,12,13,48,49,50] I<|bu (fun r st=>∃i,i≤l.length∧ej k x (fun n=>qz (fL l n)) i=true∧r=l.length - i∧st=⟨[(4,.ba (cz k x) 0),(9,.own 0),(12,flag (ej k x (fun n=>sI (qd T k x n) (fL l n)) i)),(13,flag (ej k x (fun n=>so (fL l n)) i)),(48,aw l),(49,num l.length),(50,num i)],[some (.row 4 1 N (bX (xT T M N a)))]⟩) l.length ⟨0,by omega,rfl,by omega,rfl⟩ ?_
      rintro r st ⟨i,hi,hO0,rfl,rfl⟩
      have hcc:∀n,n<N→(xT T M N a).getD n false=qd T k x n:=fun n hn=>by rw[hae,hMl,←hM];exact Gq hn
      have hcl:=AX (T:=T) (M:=M) (N:=N) (a:=a)
      have hE:=jd k x (fun n=>sI (qd T k x n) (fL l n)) i
      have hL:=jd k x (fun n=>so (fL l n)) i
      have hO:=jd k x (fun n=>qz (fL l n)) i
      obtain⟨eb,heb⟩:∃b,ej k x (fun n=>sI (qd T k x n) (fL l n)) i=b:=⟨_,rfl⟩
      obtain⟨lb,hlb⟩:∃b,ej k x (fun n=>so (fL l n)) i=b:=⟨_,rfl⟩
      rw[heb]at hE ⊢
      rw[hlb]at hL ⊢
      rw[hO0]at hO
      refine ab (.a 1 I<|.k [4,9,12,13,48,49,50,51] I)<|aj<|ag I (fun hc=>?_) (fun hc=>?_)
      · have hlt:i<l.length:=by have:=tt hc;omega
        obtain⟨g,hg⟩:∃g,pT k x i=g:=⟨_,rfl⟩
        obtain⟨c,hcb⟩:∃c,qd T k x i=c:=⟨_,rfl⟩
        have hci:=(hcc i (by omega)).trans hcb
        have hilt:i<N:=by omega
        obtain⟨s,hs⟩:∃s,fL l i=s:=⟨_,rfl⟩
        have hsl:l.getD i 0=s:=hs
        simp only[hg,hcb,hs]at hE hL hO
        refine ai<|aj<|av<|ab (.a 1 I<|.v (aP (i) I) I<|.v (aJ I ((aC l i hlt).trans (by rw[hsl]))) I<|.a 2 I<|.k [4,9,12,13,14,15,48,49,50] I)<|aj<|ab (.a 2 I<|.c rfl (hg▸uk k x i) I<|.k [4,9,12,13,14,15,48,49,50,57] I)<|ag I (fun hc=>?_) (fun hc=>?_)
        · rw[hc,Bool.true_or,Bool.and_true]at hE hL hO
          refine la (aY (ks:=[4,9,12,13,48,49,50]) I) ?_
          refine bf<|aB (.v (aU I) I<|.a 1 I<|.k [4,9,12,13,48,49,50] I) ?_
          exact⟨l.length - (i+1),by omega,i+1,by omega,hO,rfl,by rw[hE,hL];rfl⟩
        · have hg0:pT k x i=false:=hg.trans hc
          rw[hc,Bool.false_or]at hE hL hO
          refine ai<|ab (.a 1 I<|.k [4,9,12,13,14,48,49,50,58] I)<|av<|ab (.a 2 I<|.k [4,9,12,13,14,48,49,50,58,59] I)<|ag I (fun hc=>?_) (fun hc=>?_)
          · have hs0:s=0:=tt hc
            subst hs0
            replace hE:ej k x (fun n=>sI (qd T k x n) (fL l n)) (i+1)=(eb&& !c):=by rw[hE];simp[sI]
            replace hL:ej k x (fun n=>so (fL l n)) (i+1)=false:=by rw[hL];simp[so]
            replace hO:ej k x (fun n=>qz (fL l n)) (i+1)=true:=by rw[hO];rfl
            refine ab (.a 1 I<|.k [4,9,12,13,14,48,49,50] I)<|qF 12 (.raw (.bool (eb&& !c))) [4,9,13,48,49,50] I ?_ ?_
            · refine .a 2 I<|?_
              cases eb
              · exact .a 7 I<|.k [12,4,9,13,48,49,50] I
              · exact .a 2 I<|.v (aP (i) I) I<|.v (aJ I ((dj _ i (by rw[hcl];exact hilt)).trans (by rw[hci];try rfl))) I<|.a 3 I<|.k [12,4,9,13,48,49,50] I
            refine aB (.v (aU I) I<|.a 1 I<|.k [4,9,12,13,48,49,50] I) ?_
            exact⟨l.length - (i+1),by omega,i+1,by omega,hO,rfl,by rw[hE,hL];rfl⟩
          · have n0:¬s=0:=ff hc
            refine ab (.a 2 I<|.k [4,9,12,13,14,48,49,50,58,69] I)<|ag I (fun hc=>?_) (fun hc=>?_)
            · have hs0:s=1:=tt hc
              subst hs0
              replace hE:ej k x (fun n=>sI (qd T k x n) (fL l n)) (i+1)=(eb&&c):=by rw[hE];simp[sI]
              replace hL:ej k x (fun n=>so (fL l n)) (i+1)=false:=by rw[hL];simp[so]
              replace hO:ej k x (fun n=>qz (fL l n)) (i+1)=true:=by rw[hO];rfl
              refine ab (.a 1 I<|.k [4,9,12,13,14,48,49,50] I)<|qF 12 (.raw (.bool (eb&&c))) [4,9,13,48,49,50] I ?_ ?_
              · refine .a 2 I<|?_
                cases eb
                · exact .a 6 I<|.k [12,4,9,13,48,49,50] I
                · exact .a 2 I<|.v (aP (i) I) I<|.v (aJ I ((dj _ i (by rw[hcl];exact hilt)).trans (by rw[hci];try rfl))) I<|.a 2 I<|.k [12,4,9,13,48,49,50] I
              refine aB (.v (aU I) I<|.a 1 I<|.k [4,9,12,13,48,49,50] I) ?_
              exact⟨l.length - (i+1),by omega,i+1,by omega,hO,rfl,by rw[hE,hL];rfl⟩
            · have n1:¬s=1:=ff hc
              refine ab (.a 2 I<|.k [4,9,12,13,48,49,50,58,78] I)<|ag I (fun hc=>?_) (fun hc=>?_)
              · have hs0:s=2:=tt hc
                subst hs0
                replace hE:ej k x (fun n=>sI (qd T k x n) (fL l n)) (i+1)=eb:=by rw[hE];simp[sI]
                replace hL:ej k x (fun n=>so (fL l n)) (i+1)=lb:=by rw[hL];simp[so]
                replace hO:ej k x (fun n=>qz (fL l n)) (i+1)=true:=by rw[hO];rfl
                refine ai<|aB (.v (aU I) I<|.a 1 I<|.k [4,9,12,13,48,49,50] I) ?_
                exact⟨l.length - (i+1),by omega,i+1,by omega,hO,rfl,by rw[hE,hL];rfl⟩
              · have n2:¬s=2:=ff hc
                refine ab (.a 2 I<|.k [4,9,13,48,49,50,80] I)<|ag I (fun hc=>?_) (fun hc=>?_)
                · have hs0:s=3:=tt hc
                  subst hs0
                  replace hE:ej k x (fun n=>sI (qd T k x n) (fL l n)) (i+1)=false:=by rw[hE];simp[sI]
                  replace hL:ej k x (fun n=>so (fL l n)) (i+1)=lb:=by rw[hL];simp[so]
                  replace hO:ej k x (fun n=>qz (fL l n)) (i+1)=true:=by rw[hO];rfl
                  refine aB (.a 1 I<|.k [4,9,12,13,48,49,50] I) ?_
                  refine aB (.v (aU I) I<|.a 1 I<|.k [4,9,12,13,48,49,50] I) ?_
                  exact⟨l.length - (i+1),by omega,i+1,by omega,hO,rfl,by rw[hE,hL];rfl⟩
                · have n3:¬s=3:=ff hc
                  refine ab (.a 1 I<|.k [6] I)<|ao ?_
                  have hbad:ej k x (fun n=>qz (fL l n)) l.length=false:=by
                    refine xK hlt hg0 ?_
                    show qz (fL l i)=false
                    rw[hs]
                    unfold qz
                    by_cases h1:0≤s
                    · rw[decide_eq_false (by omega:¬s≤3),Bool.and_false]
                    · rw[decide_eq_false h1,Bool.false_and]
                  exact⟨_,_,az.of I,ax.pure,by rw[hP,hbad];rfl⟩
      · have hie:i=l.length:=by have:=ff hc;omega
        subst hie
        refine bf<|bz 6 (.raw (.bool (eb||lb))) [] I ?_ ?_
        · refine .a 2 I<|?_
          cases eb
          · exact .a 3 I<|.k [6] I
          · exact .a 3 I<|.k [6] I
        exact ao<|⟨_,_,az.of I,ax.pure,by rw[hP,hO0,heb,hlb];rfl⟩
end
section
open Go.RowKit cE Mem Net
def gY(s:List bV):Prop:=∀g∈s,0≤g.kind∧g.kind<100∧0≤g.num∧g.num<100
def Gk(g:bV):List UInt8:=32::(Lib.decDigits g.kind.toNat++58::Lib.decDigits g.num.toNat)
def ek(n:Nat)(s:List bV):List UInt8:=Lib.decDigits n++s.flatMap Gk
def Dt(c:UInt8):Prop:=48≤c.toNat∧c.toNat≤57
theorem mh{n:Nat}(h:n<100):∀c∈Lib.decDigits n,Dt c:=by
 intro c hc
 by_cases h1:n<10
 ·rw[Lib.decDigits_one h1,List.mem_singleton]at hc
  subst hc
  unfold Dt
  rw[UInt8.toNat_ofNat']
  omega
 ·rw[Lib.decDigits_two h1 h]at hc
  simp only[List.mem_cons,List.not_mem_nil,or_false]at hc
  rcases hc with rfl|rfl<;>(unfold Dt;rw[UInt8.toNat_ofNat'];omega)
theorem ofNat_inj{a b:Nat}(ha:a<256)(hb:b<256)(h:UInt8.ofNat a=UInt8.ofNat b):a=b:=by
 have:=congrArg UInt8.toNat h
 rw[UInt8.toNat_ofNat',UInt8.toNat_ofNat']at this
 omega
theorem uO{m n:Nat}(hm:m<100)(hn:n<100)(h:Lib.decDigits m=Lib.decDigits n):m=n:=by
 by_cases h1:m<10<;>by_cases h2:n<10
 ·rw[Lib.decDigits_one h1,Lib.decDigits_one h2]at h
  have:=ofNat_inj (by omega) (by omega) (List.cons.inj h).1
  omega
 ·rw[Lib.decDigits_one h1,Lib.decDigits_two h2 hn]at h
  cases(List.cons.inj h).2
 ·rw[Lib.decDigits_two h1 hm,Lib.decDigits_one h2]at h
  cases(List.cons.inj h).2
 ·rw[Lib.decDigits_two h1 hm,Lib.decDigits_two h2 hn]at h
  have e1:=ofNat_inj (by omega) (by omega) (List.cons.inj h).1
  have e2:=ofNat_inj (by omega) (by omega) (List.cons.inj (List.cons.inj h).2).1
  omega
theorem kI{n:Nat}(h:n<100):(Lib.decDigits n).length≤2∧0<(Lib.decDigits n).length:=by
 by_cases h1:n<10
 ·rw[Lib.decDigits_one h1];simp
 ·rw[Lib.decDigits_two h1 h];simp
theorem mD:∀(A B X Y:List UInt8),(∀c∈A,Dt c)→(∀c∈B,Dt c)→(∀c Z,X=c::Z→¬Dt c)→(∀c Z,Y=c::Z→¬Dt c)→A++X=B++Y→A=B∧X=Y
 | [],[],X,Y,_,_,_,_,h=>⟨rfl,h⟩
 | [],b::B,X,Y,_,hB,hX,_,h=>absurd (hB b (by simp)) (hX b (B++Y) h)
 |a::A,[],X,Y,hA,_,_,hY,h=>absurd (hA a (by simp)) (hY a (A++X) h.symm)
 |a::A,b::B,X,Y,hA,hB,hX,hY,h=>by
  obtain⟨h1,h2⟩:=List.cons.inj h
  obtain⟨h3,h4⟩:=mD A B X Y (fun c hc=>hA c (by simp[hc])) (fun c hc=>hB c (by simp[hc])) hX hY h2
  exact⟨by rw[h1,h3],h4⟩
theorem mg{s:List bV}:∀c Z,s.flatMap Gk=c::Z→¬Dt c:=by
 intro c Z h
 cases s with
 |nil=>cases h
 |cons g s=>
  rw[List.flatMap_cons]at h
  have:=(List.cons.inj h).1
  subst this
  unfold Dt
  decide
theorem xV:∀ {s s':List bV},gY s→gY s'→s.flatMap Gk=s'.flatMap Gk→s=s'
 | [],[],_,_,_=>rfl
 | [],g::s',_,_,h=>by rw[List.flatMap_cons]at h;cases h
 |g::s,[],_,_,h=>by rw[List.flatMap_cons]at h;cases h
 |g::s,g'::s',h1,h2,h=>by
  obtain⟨a1,a2,a3,a4⟩:=h1 g (by simp)
  obtain⟨b1,b2,b3,b4⟩:=h2 g' (by simp)
  rw[List.flatMap_cons,List.flatMap_cons]at h
  unfold Gk at h
  rw[List.cons_append,List.cons_append,List.append_assoc,List.append_assoc]at h
  obtain⟨e1,e2⟩:=mD _ _ _ _ (mh (by omega)) (mh (by omega)) (fun c Z h=>by rw[List.cons_append]at h;have:=(List.cons.inj h).1;subst this;unfold Dt;decide) (fun c Z h=>by rw[List.cons_append]at h;have:=(List.cons.inj h).1;subst this;unfold Dt;decide) (List.cons.inj h).2
  rw[List.cons_append,List.cons_append]at e2
  obtain⟨e3,e4⟩:=mD _ _ _ _ (mh (by omega)) (mh (by omega)) (mg (s:=s)) (mg (s:=s')) (List.cons.inj e2).2
  have k1:=uO (by omega) (by omega) e1
  have k2:=uO (by omega) (by omega) e3
  have k3:=xV (fun x hx=>h1 x (by simp[hx])) (fun x hx=>h2 x (by simp[hx])) e4
  obtain⟨gk,gn⟩:=g
  obtain⟨gk',gn'⟩:=g'
  simp only at a1 b1 a3 b3 k1 k2
  rw[k3,show gk=gk' by omega,show gn=gn' by omega]
theorem Fl{n n':Nat}{s s':List bV}(hn:n<100)(hn':n'<100)(h1:gY s)(h2:gY s')(h:ek n s=ek n' s'):n=n'∧s=s':=by
 unfold ek at h
 obtain⟨e1,e2⟩:=mD _ _ _ _ (mh hn) (mh hn') (mg (s:=s)) (mg (s:=s')) h
 exact⟨uO hn hn' e1,xV h1 h2 e2⟩
theorem D2{s:List bV}(h:gY s):(s.flatMap Gk).length≤s.length*6:=by
 induction s with
 |nil=>simp
 |cons g s ih=>
  obtain⟨a1,a2,a3,a4⟩:=h g (by simp)
  have:=ih (fun x hx=>h x (by simp[hx]))
  have h1:=kI (n:=g.kind.toNat) (by omega)
  have h2:=kI (n:=g.num.toNat) (by omega)
  have h3:(Gk g).length=2+(Lib.decDigits g.kind.toNat).length+(Lib.decDigits g.num.toNat).length:=by
   unfold Gk
   simp only[List.length_cons,List.length_append]
   omega
  rw[List.flatMap_cons,List.length_append,h3,List.length_cons]
  omega
theorem wX{h g:bV}:∀ {s:List bV},g∈s→g=h∨g∈eD h s
 |a::s,hg=>by
  unfold eD
  split
  ·rename_i e
   rcases List.mem_cons.1 hg with rfl|hg
   ·exact .inl e
   ·exact wX hg
  ·exact .inr hg
open eX
noncomputable def bJ(T:an)(tb:Nat→db)(p0:dw)(n:Nat)(s:List bV):Out:=dE T (tb n) (dq p0 s)
structure jz (T:an) (tb:Nat→db) (p0:dw) (Φ:Nat→Nat→List bV→Prop):Prop where
 node:∀ {u n s},Φ u n s→(n:Int)<T.nodes
 small:∀ {u n s},Φ u n s→gY s∧s.length≤1000
 step:∀ {u n s},Φ u n s→(bJ T tb p0 n s).ay=[]∨((bJ T tb p0 n s).ay.length≤1000∧bJ T tb p0 n s=cr (dq p0 s) (bJ T tb p0 n s).eu.stack (bJ T tb p0 n s).ay∧
  ∀a∈(bJ T tb p0 n s).ay,∃b m:Nat,a=(b:Int)∧b<2*T.ae.length∧aS T b=(m:Int)∧∃u',u'<u∧Φ u' m (bJ T tb p0 n s).eu.stack)
def JR(cs:List Int):Int:=cs.foldl (fun a c=>min (a+c) 1001) 0
def eV(ay:List Int)(cs:List Int):Int:=if ay=[] then 1 else JR cs
def dL(n:Nat)(o:Out)(vs:List PV)(c:Int):List PV:=[num n,num o.cW,aw o.ay,.slice vs.length vs,flag false,num c]
inductive Good (T:an) (tb:Nat→db) (p0:dw) (Φ:Nat→Nat→List bV→Prop):PV→Nat→List bV→Int→Prop
 |mk {n:Nat} {s:List bV} {vs:List PV} {cs:List Int} {u:Nat}:Φ u n s→vs.length=(bJ T tb p0 n s).ay.length→cs.length=(bJ T tb p0 n s).ay.length→
   (∀i,i<(bJ T tb p0 n s).ay.length→Good T tb p0 Φ (vs.getD i .any) (aS T ((bJ T tb p0 n s).ay.getD i 0).toNat).toNat (bJ T tb p0 n s).eu.stack (cs.getD i 0))→
   Good T tb p0 Φ (.ba (dL n (bJ T tb p0 n s) vs (eV (bJ T tb p0 n s).ay cs)) 0) n s (eV (bJ T tb p0 n s).ay cs)
theorem nQ(cs:List Int)(c:Int):JR (cs++[c])=min (JR cs+c) 1001:=by simp[JR]
section
variable {T:an} {tb:Nat→db} {p0:dw} {Φ:Nat→Nat→List bV→Prop}
theorem gX:∀(cs:List Int) (b:Int),0≤b→b≤1001→(∀c∈cs,0≤c)→0≤cs.foldl (fun a c=>min (a+c) 1001) b∧cs.foldl (fun a c=>min (a+c) 1001) b≤1001
 | [],b,h1,h2,_=>⟨h1,h2⟩
 |c::cs,b,h1,h2,h3=>by
  have:=h3 c (by simp)
  exact gX cs (min (b+c) 1001) (by omega) (by omega) (fun x hx=>h3 x (by simp[hx]))
theorem Good.bound{v:PV}{n:Nat}{s:List bV}{c:Int}(h:Good T tb p0 Φ v n s c):0≤c∧c≤1001:=by
 induction h with
 | @mk n s vs cs u _ _ h2 _ ih=>
  unfold eV
  split
  ·omega
  ·refine gX cs 0 (by omega) (by omega) fun c hc=>?_
   obtain⟨i,hi⟩:=List.getElem?_of_mem hc
   have hlt:=(List.getElem?_eq_some_iff.1 hi).1
   have:=(ih i (by rw[←h2];exact hlt)).1
   rw[List.getD_eq_getElem?_getD,hi]at this
   exact this
theorem Good.state{v:PV}{n:Nat}{s:List bV}{c:Int}(h:Good T tb p0 Φ v n s c):∃u,Φ u n s:=by
 cases h with
 |mk h _ _ _=>exact⟨_,h⟩
theorem Good.pure{v:PV}{n:Nat}{s:List bV}{c:Int}(h:Good T tb p0 Φ v n s c):IsPure v:=by
 induction h with
 | @mk n s vs cs u _ h1 _ _ ih=>
  haveI:aK vs:=⟨fun i x hx=>by
   have hlt:=(List.getElem?_eq_some_iff.1 hx).1
   have:=ih i (by rw[←h1];exact hlt)
   rw[List.getD_eq_getElem?_getD,hx]at this
   exact this⟩
  unfold dL
  infer_instance
theorem Good.parts{v:PV}{n:Nat}{s:List bV}{c:Int}(h:Good T tb p0 Φ v n s c):∃vs cs,v= .ba (dL n (bJ T tb p0 n s) vs c) 0∧vs.length=(bJ T tb p0 n s).ay.length∧cs.length=(bJ T tb p0 n s).ay.length∧c=eV (bJ T tb p0 n s).ay cs∧
  ∀i,i<(bJ T tb p0 n s).ay.length→Good T tb p0 Φ (vs.getD i .any) (aS T ((bJ T tb p0 n s).ay.getD i 0).toNat).toNat (bJ T tb p0 n s).eu.stack (cs.getD i 0):=by
 cases h with
 | @mk _ _ vs cs u h1 h2 h3 h4=>exact⟨vs,cs,rfl,h2,h3,rfl,h4⟩
inductive CV (T:an) (tb:Nat→db) (p0:dw):Nat→List bV→Nat→List bV→Prop
 |one {n m:Nat} {s:List bV} {a:Int}:a∈(bJ T tb p0 n s).ay→aS T a.toNat=(m:Int)→CV T tb p0 n s m (bJ T tb p0 n s).eu.stack
 |more {n m:Nat} {s:List bV} {a:Int} {n':Nat} {s':List bV}:CV T tb p0 n' s' n s→a∈(bJ T tb p0 n s).ay→aS T a.toNat=(m:Int)→CV T tb p0 n' s' m (bJ T tb p0 n s).eu.stack
theorem jz.one(R:jz T tb p0 Φ){u n m:Nat}{s:List bV}{a:Int}(h:Φ u n s)(ha:a∈(bJ T tb p0 n s).ay)(hm:aS T a.toNat=(m:Int)):∃u',u'<u∧Φ u' m (bJ T tb p0 n s).eu.stack:=by
 rcases R.step h with h0|⟨_,_,h2⟩
 ·rw[h0]at ha;cases ha
 ·obtain⟨b,m',rfl,_,h3,u',h4,h5⟩:=h2 a ha
  rw[Int.toNat_natCast,h3]at hm
  have:m'=m:=by omega
  subst this
  exact⟨u',h4,h5⟩
theorem jz.Lg(R:jz T tb p0 Φ){n m:Nat}{s s':List bV}(h:CV T tb p0 n s m s'):∀ {u:Nat},Φ u n s→∃u',u'<u∧Φ u' m s':=by
 induction h with
 |one ha hm=>intro u hu;exact R.one hu ha hm
 |more _ ha hm ih=>
  intro u hu
  obtain⟨u1,h1,h2⟩:=ih hu
  obtain⟨u2,h3,h4⟩:=R.one h2 ha hm
  exact⟨u2,by omega,h4⟩
theorem jz.xc(R:jz T tb p0 Φ){n:Nat}{s:List bV}(h:CV T tb p0 n s n s):∀ {u:Nat},Φ u n s→False:=by
 intro u
 induction u using Nat.strongRecOn with
 |_ u ih=>
  intro hu
  obtain⟨u',h1,h2⟩:=R.Lg h hu
  exact ih u' h1 h2
end
end
section
open Go.RowKit cE Mem
inductive Az (i:Nat):cJ→PV→PV→Prop
 |same {blk:cJ} (p:PV):Az i blk p p
 |ptr {ty:TypeId} {xs:List PV} (off:Nat):Az i (.cells ty xs) (.ptr i off) (.ba xs off)
 |own {e s n:Nat} {xs:List PV}:Az i (.row e s n xs) (.own i) (.slice n xs)
def jG(i:Nat)(blk:cJ)(xs ys:List PV):Prop:=ys.length=xs.length∧∀(j:Nat) x y,xs[j]? =some x→ys[j]? =some y→Az i blk x y
theorem jG.nil{i:Nat}{blk:cJ}:jG i blk [] []:=⟨rfl,fun j x y h=>by simp at h⟩
theorem jG.cons{i:Nat}{blk:cJ}{x y:PV}{xs ys:List PV}(h:Az i blk x y)(hs:jG i blk xs ys):jG i blk (x::xs) (y::ys):=⟨by simp[hs.1],fun j a b h1 h2=>by
 cases j with
 |zero=>simp at h1 h2;subst h1;subst h2;exact h
 |succ j=>exact hs.2 j a b (by simpa using h1) (by simpa using h2)⟩
theorem jG.refl{i:Nat}{blk:cJ}(xs:List PV):jG i blk xs xs:=⟨rfl,fun j x y h1 h2=>by rw[h1]at h2;cases h2;exact .same _⟩
inductive vw (i:Nat) (blk:cJ):cJ→cJ→Prop
 |same (b:cJ):vw i blk b b
 |cells {ty:TypeId} {xs ys:List PV}:jG i blk xs ys→vw i blk (.cells ty xs) (.cells ty ys)
 |row {e s n:Nat} {xs ys:List PV}:jG i blk xs ys→vw i blk (.row e s n xs) (.row e s n ys)
 |mp {kv kv':List (Value×PV)}:kv'.map (·.1)=kv.map (·.1)→jG i blk (kv.map (·.2)) (kv'.map (·.2))→vw i blk (.mp kv) (.mp kv')
def zr(i:Nat)(blk:cJ)(σ σ':cg):Prop:=σ'.length=σ.length∧(σ'[i]? =some none)∧∀j,j≠i→(σ'[j]? =σ[j]? ∨∃b b',σ[j]? =some (some b)∧σ'[j]? =some (some b')∧vw i blk b b')
inductive yQ (i:Nat) (blk:cJ) (t:cj):cj→Prop
 |nil:yQ i blk t []
 |cons {t':cj} (k:Nat) {p q:PV}:look k t=some p→Az i blk p q→yQ i blk t t'→yQ i blk t ((k,q)::t')
theorem yQ.get{i:Nat}{blk:cJ}{t t':cj}(h:yQ i blk t t'):∀k q,look k t'=some q→∃p,look k t=some p∧Az i blk p q:=by
 induction h with
 |nil=>intro k q h;cases h
 |cons k h1 h2 _ ih=>
  intro j q hj
  simp only[look]at hj
  rw[Bool.cond_eq_ite]at hj
  split at hj
  ·rename_i he
   have:=Nat.eq_of_beq_eq_true he
   subst this
   cases hj
   exact⟨_,h1,h2⟩
  ·exact ih j q hj
section
variable {P:Program} {N L:Nat} {F:Nat→Prop} {base:Nat} {σ σ':cg} {E:Env} {w:World}
theorem Az.rep(hS:Sat F base σ E w){i:Nat}{blk:cJ}(hi:σ[i]? =some (some blk)){p q:PV}(h:Az i blk p q):∀v,cI E w v p→cI (E.kill i) w v q:=by
 obtain⟨_,g⟩:=hS.kill i hi
 intro v hv
 cases h with
 |same _=>exact hv.goes g
 |own=>exact hS.seal hi hv
 | @ptr ty xs off=>
  obtain⟨b,cs,h1,h2,h3,h4⟩:=hS.blk i _ hi
  cases hv with
  |ptr _ _ b' hi' h=>
   have hb:b'=b:=by
    rcases h with h|⟨n,c,h⟩<;>rw[h1]at h<;>cases h
    rfl
   subst hb
   have:=cI.ba (E:=E.kill i) (w:=w) b' 0 off cs.toList xs (Array.getElem?_eq_some_iff.1 h3).1 (fun hM=>hM.2 (by rw[h1];rfl)) (fun j x hx=>by rw[Nat.zero_add];unfold World.cell?;simp only[h3];simpa using hx) h4.1 (fun j x u k1 k2=>(h4.2 j x u k1 k2).goes g)
   rw[Nat.zero_add]at this
   exact this
theorem jG.rep(hS:Sat F base σ E w){i:Nat}{blk:cJ}(hi:σ[i]? =some (some blk)){xs ys:List PV}(h:jG i blk xs ys){cs:List Value}(hs:bd E w cs xs):bd (E.kill i) w cs ys:=
 ⟨hs.1.trans h.1.symm,fun j x u k1 k2=>by
  have hj:j<xs.length:=by rw[←h.1];exact(List.getElem?_eq_some_iff.1 k2).1
  exact(h.2 j xs[j] u (by simp[hj]) k2).rep hS hi x (hs.2 j x _ k1 (by simp[hj]))⟩
theorem vw.sat(hS:Sat F base σ E w){i:Nat}{blk:cJ}(hi:σ[i]? =some (some blk)){b b':cJ}(h:vw i blk b b'){v:Value}(hb:gL base E w v b):gL base (E.kill i) w v b':=by
 obtain⟨_,g⟩:=hS.kill i hi
 cases h with
 |same _=>exact hb.goes g (fun _ _=>rfl)
 |cells hl=>
  obtain⟨b',cs,h1,h2,h3,h4⟩:=hb
  exact⟨b',cs,h1,h2,h3,hl.rep hS hi h4⟩
 |row hl=>
  obtain⟨cs,h1,h2⟩:=hb
  exact⟨cs,h1,hl.rep hS hi h2⟩
 |mp hk hl=>
  obtain⟨r,es,ck,h1,h2,h3,h4,h5⟩:=hb
  exact⟨r,es,ck,h1,h2,h3,h4.trans hk.symm,hl.rep hS hi h5⟩
theorem tB{i:Nat}{blk:cJ}(hi:σ[i]? =some (some blk))(h:zr i blk σ σ'){j:Nat}{b':cJ}(hj:σ'[j]? =some (some b')):j≠i∧∃b,σ[j]? =some (some b)∧vw i blk b b':=by
 have hne:j≠i:=fun e=>by subst e;rw[h.2.1]at hj;cases hj
 refine⟨hne,?_⟩
 rcases h.2.2 j hne with h|⟨b,b2,h1,h2,h3⟩
 ·rw[h]at hj;exact⟨b',hj,.same _⟩
 ·rw[h2]at hj;cases hj;exact⟨b,h1,h3⟩
theorem Sat.Le(hS:Sat F base σ E w){i:Nat}{blk:cJ}(hi:σ[i]? =some (some blk))(h:zr i blk σ σ'):Sat F base σ' (E.kill i) w:=by
 obtain⟨h1,g⟩:=hS.kill i hi
 have key:∀ {j:Nat} {b':cJ},σ'[j]? =some (some b')→∃b,(σ.set i none)[j]? =some (some b):=fun {j b'} hj=>by
  obtain⟨hne,b,hb,_⟩:=tB hi h hj
  exact⟨b,by rw[List.getElem?_set,if_neg (Ne.symm hne)];exact hb⟩
 refine⟨h1.bl,fun b hb=>⟨(h1.fb b hb).1,fun j bl hj=>?_⟩,?_,fun b=>?_,fun j bl hj=>?_,fun j k bj bk b hj hk e1 e2=>?_,h1.gl⟩
 ·obtain⟨b2,hb2⟩:=key hj;exact(h1.fb b hb).2 j b2 hb2
 ·rw[h1.len,h.1,List.length_set]
 ·constructor
  ·intro hM
   rcases(h1.mm b).1 hM with hf|⟨j,bl,h3,h4⟩
   ·exact .inl hf
   ·obtain⟨hne,h5⟩:=iA h3
    rcases h.2.2 j hne with h6|⟨b1,b2,_,h7,_⟩
    ·exact .inr ⟨j,bl,by rw[h6];exact h5,h4⟩
    ·exact .inr ⟨j,b2,h7,h4⟩
  ·rintro(hf|⟨j,bl,h3,h4⟩)
   ·exact(h1.mm b).2 (.inl hf)
   ·obtain⟨b2,hb2⟩:=key h3;exact(h1.mm b).2 (.inr ⟨j,b2,hb2,h4⟩)
 ·obtain⟨_,b,hb,hf⟩:=tB hi h hj
  exact hf.sat hS hi (hS.blk j b hb)
 ·obtain⟨b1,hb1⟩:=key hj
  obtain⟨b2,hb2⟩:=key hk
  exact h1.inj j k b1 b2 b hb1 hb2 e1 e2
theorem pP{c:Code}{t t':cj}{Q:Exit→St→Prop}(i:Nat){blk:cJ}(hi:σ[i]? =some (some blk))(hσ:zr i blk σ σ')(ht:yQ i blk t t')(h:W P N L c ⟨t',σ'⟩ Q):W P N L c ⟨t,σ⟩ Q:=fun F base E₀ w₀ E a w hc hs=>by
 obtain⟨_,g⟩:=hs.sat.kill i hi
 refine h F base E₀ w₀ (E.kill i) a w (hc.on g (Below.refl _ _)) ⟨hs.sat.Le hi hσ,fun k q hq=>?_,hs.kF,hs.size⟩
 obtain⟨p,h1,h2⟩:=ht.get k q hq
 exact h2.rep hs.sat hi _ (hs.tmp k p h1)
theorem I6{ops:Array Oper}{l:List Oper}{t t':cj}{K:St→Prop}(i:Nat){blk:cJ}(hi:σ[i]? =some (some blk))(hσ:zr i blk σ σ')(ht:yQ i blk t t')(h:WR P N L ops l ⟨t',σ'⟩ K):WR P N L ops l ⟨t,σ⟩ K:=by
 intro F base E₀ w₀ E a w hc hs Q j hQ hl
 obtain⟨_,g⟩:=hs.sat.kill i hi
 refine h F base E₀ w₀ (E.kill i) a w (hc.on g (Below.refl _ _)) ⟨hs.sat.Le hi hσ,fun k q hq=>?_,hs.kF,hs.size⟩ Q j hQ hl
 obtain⟨p,h1,h2⟩:=ht.get k q hq
 exact h2.rep hs.sat hi _ (hs.tmp k p h1)
end
def qb(l:List UInt8):Value:=.string ⟨l.toArray⟩
theorem bytes_beq(a b:List UInt8):((⟨a.toArray⟩:ByteArray)==⟨b.toArray⟩)=decide (a=b):=Bool.eq_iff_iff.2 (by
 rw[beq_toListBytes,beq_iff_eq,decide_eq_true_eq,ByteArray.toList_eq,ByteArray.toList_eq])
section
variable {P:Program} {kt:TypeId}
theorem Ho(b:Bool)(n:Nat)(hu:P.underlying kt=some .string)(a:List UInt8)(w:World):(Instr.checkKey b (n+1) kt (qb a)).run P w= .ok () w:=by
 simp only[Instr.checkKey,Sem.run_bind,run_underlying hu,Result.andThen_ok,Sem.run_pure,qb]
theorem Jo(n:Nat)(hu:P.underlying kt=some .string)(a b:List UInt8)(w:World):(Op.equalIn (n+1) kt (qb a) (qb b)).run P w= .ok (decide (a=b)) w:=by
 have h:=run_equalIn_string w n kt ⟨a.toArray⟩ ⟨b.toArray⟩ hu
 rw[←beq_toListBytes,bytes_beq]at h
 exact h
theorem Ji(hu:P.underlying kt=some .string):iI P kt qb where
 nV:=fun b a w=>Ho b 9999 hu a w
 eql:=fun a b w=>Jo _ hu a b w
 now:=⟨_,hu,.inl fun a b=>by simp only[Instr.sameNow,qb,bytes_beq]⟩
 bits:=fun a=>by
  show Instr.sameBits 10000 (.string ⟨a.toArray⟩) (.string ⟨a.toArray⟩)=true
  unfold Instr.sameBits
  show((⟨a.toArray⟩:ByteArray)==⟨a.toArray⟩)=true
  rw[bytes_beq]
  exact decide_eq_true rfl
variable {t:cj} {σ:cg} {o:Oper}
theorem Hn{x y:Operand}{ty tz:TypeId}(ho:o.op= .binOp .neq ty x y tz)(hk:pg P ty=true)(hx:aF t x=some (.raw (.pointer none)))(hy:aF t y=some (.raw (.pointer none))):bE P σ t o (.raw (.bool false)):=by
 refine yf ho hx hy fun w=>?_
 unfold pg at hk
 split at hk
 ·rename_i e hu
  have key:∀d,(Op.equalIn (d+1) ty (.pointer none) (.pointer none)).run P w= .ok true w:=fun d=>by
   simp only[Op.equalIn,Sem.run_bind,run_underlying hu,Result.andThen_ok,Sem.run_pure,Option.isNone_none]
  have:=key 9999
  simp only[Nat.reduceAdd]at this
  simp[eqGuard,binOp,Op.equal,Op.maxDepth,this]
 ·cases hk
theorem GU{x y:Operand}{ty tz:TypeId}{xs:List PV}{k:Nat}(ho:o.op= .binOp .neq ty x y tz)(hk:pg P ty=true)(hx:aF t x=some (.ba xs k))(hy:aF t y=some (.raw (.pointer none))):bE P σ t o (.raw (.bool true)):=by
 intro F base E ρ w hρ _ hT
 have h1:=aA hρ hT hx
 have h2:=aA hρ hT hy
 generalize hz:ρ x=z at h1
 generalize hz':ρ y=z' at h2
 cases h2
 cases h1 with
 |ba b o' _ cs _ hb hM hc hl hr=>
  simp only[execOp,ho,hz,hz',Sem.run_bind,eqGuard,binOp,ml hk,Result.andThen_ok,Sem.run_pure]
  exact bA (.raw _)
end
open Net eX
section
variable {T:an} {k x:Int} {d:Nat} {st:Nat→Int} {p0:dw}
theorem yq{p:dw}{s:List bV}{e:iV}(h:e.ay.length≤1000):(fq p s e).ay.length≤1000:=by
 unfold fq
 split
 ·split
  ·exact Nat.zero_le _
  ·exact h
 ·exact h
theorem AJ{x:db}{p:dw}{s:List bV}{v:Int}{K:Out}(hx:cQ T x=true)(hK:K.ay.length≤1000):(CX T x p s v K).ay.length≤1000:=by
 unfold CX
 split
 ·rename_i h
  obtain⟨_,_,_,_,h3⟩:=ko hx (Bool.and_eq_true _ _▸h).1
  exact yq h3
 ·exact hK
theorem sv{x:db}{p:dw}{s:List bV}{K:Out}(hx:cQ T x=true)(hK:K.ay.length≤1000):(dr T x p s K).ay.length≤1000:=by
 unfold dr
 split
 ·exact Nat.zero_le _
 ·split
  ·exact Nat.zero_le _
  ·split
   ·exact AJ hx (Nat.zero_le _)
   ·split
    ·exact AJ hx hK
    ·split
     ·split
      ·exact Nat.zero_le _
      ·split
       ·exact hK
       ·show([_]:List Int).length≤1000;simp
     ·exact Nat.zero_le _
theorem oS(T:an)(x:db)(p:dw):(dE T x p).ay.length≤1000:=by
 unfold dE
 split
 ·exact Nat.zero_le _
 ·rename_i h
  have hx:cQ T x=true:=by
   cases h2:cQ T x with
   |true=>rfl
   |false=>rw[h2]at h;simp at h
  split
  ·exact Nat.zero_le _
  ·exact sv hx (sv hx (Nat.zero_le _))
theorem CL{D:List Bool}(h12:T.nodes≤12)(h16:T.ae.length≤16){n:Nat}{l:List bV}{q:List Int}(h:sL T D d n l q):gY l:=by
 induction h with
 |nil=>intro g hg;cases hg
 |node hs _ ih=>
  intro g hg
  rcases List.mem_cons.1 hg with rfl|hg
  ·have:=hs.hy
   exact⟨by simp,by simp,by simp,by simp;omega⟩
  ·exact ih g hg
 |fC ha _ _ _ _ ih=>
  intro g hg
  rcases List.mem_cons.1 hg with rfl|hg
  ·exact⟨by simp,by simp,by simp,by simp;omega⟩
  ·exact ih g hg
theorem vh(h12:T.nodes≤12)(h16:T.ae.length≤16){n:Nat}{s:List bV}{q:List Int}(h:jU T k x d n s q):gY s:=by
 obtain⟨D,_,hl⟩:=h.FJ
 intro g hg
 rcases wX (h:=⟨1,(n:Int)⟩) hg with rfl|hg
 ·have:=h.node
  exact⟨by simp,by simp,by simp,by simp;omega⟩
 ·exact CL h12 h16 hl g hg
theorem wY(hv:aq T=true)(h12:T.nodes≤12)(h16:T.ae.length≤16)(hd:(d:Int)<T.nodes){late:Bool}(hcv:late=false→uu T k x=true)(hsafe:late=false→∀m:Nat,(m:Int)<T.nodes→¬Gn k x m→0≤dN T [] d m→0≤dN T (aI T k x) d m)
  (hpm:Perm T k x late st) (hp0:p0.dst=(d:Int)):jz T (yl T (aI T k x) st) p0 (fun u n s=>Way T k x d late n s u) where
 node:=fun h=>by
  rcases h with⟨h,_⟩|⟨_,h,_⟩
  ·exact h.node
  ·exact h.node
 small:=fun h=>by
  rcases h with⟨h,_⟩|⟨_,h,_⟩
  ·rw[h.nil];exact⟨fun g hg=>(by cases hg),by simp⟩
  ·exact⟨vh h12 h16 h,by have:=h.len;omega⟩
 step:=fun {u n s} h=>by
  rcases sr hv h12 hd hcv hsafe hpm h (p:=dq p0 s) hp0 rfl rfl with⟨e1,e2,e3⟩|⟨ay,s',e1,e2,e3⟩
  ·exact .inl e2
  ·refine .inr ?_
   have e1':bJ T (yl T (aI T k x) st) p0 n s=cr (dq p0 s) s' ay:=e1
   refine⟨oS _ _ _,by rw[e1'];rfl,fun a ha=>?_⟩
   rw[e1']at ha ⊢
   obtain⟨b,m,g,u',hu,hw⟩:=e3 a ha
   exact⟨b,m,g.eq,g.fC,g.head,u',hu,hw⟩
end
theorem pf{α:Type}[DecidableEq α]:∀(l m:List α),l.Nodup→(∀a∈l,a∈m)→l.length≤m.length
 | [],m,_,_=>Nat.zero_le _
 |a::l,m,hn,h=>by
  have ha:=h a (by simp)
  rw[List.nodup_cons]at hn
  have h2:=pf l (m.erase a) hn.2 (fun b hb=>(List.mem_erase_of_ne (fun e=>hn.1 (by rw[←e];exact hb))).2 (h b (by simp[hb])))
  rw[List.length_erase_of_mem ha]at h2
  have:=List.length_pos_of_mem ha
  simp only[List.length_cons]
  omega
section
variable {T:an} {k x:Int} {d:Nat} {st:Nat→Int} {p0:dw}
noncomputable def G6(T:an)(tb:Nat→db)(p0:dw)(m a:Nat):Nat→Nat×List bV
 |0=>((aS T a).toNat,(bJ T tb p0 m []).eu.stack)
 |j+1=>((aS T ((bJ T tb p0 (G6 T tb p0 m a j).1 (G6 T tb p0 m a j).2).ay.getD 0 0).toNat).toNat,(bJ T tb p0 (G6 T tb p0 m a j).1 (G6 T tb p0 m a j).2).eu.stack)
noncomputable def BS(T:an)(tb:Nat→db)(p0:dw):List (Nat×List bV):=
 (List.range T.nodes.toNat).flatMap fun m=>(m,[])::(List.range (2*T.ae.length)).flatMap fun a=>(List.range (T.nodes.toNat+1)).map fun j=>G6 T tb p0 m a j
theorem oV{α β:Type}(f:α→List β)(c:Nat):∀(l:List α),(∀a∈l,(f a).length≤c)→(l.flatMap f).length≤l.length*c
 | [],_=>by simp
 |a::l,h=>by
  have h1:=h a (by simp)
  have h2:=oV f c l (fun b hb=>h b (by simp[hb]))
  rw[List.flatMap_cons,List.length_append,List.length_cons,Nat.succ_mul]
  omega
theorem w7(tb:Nat→db)(h12:T.nodes≤12)(h16:T.ae.length≤16):(BS T tb p0).length≤12*417:=by
 unfold BS
 refine Nat.le_trans (oV _ 417 _ fun m _=>?_) ?_
 ·rw[List.length_cons]
  have:=oV (fun a=>(List.range (T.nodes.toNat+1)).map fun j=>G6 T tb p0 m a j) 13 (List.range (2*T.ae.length)) (fun a _=>by simp;omega)
  rw[List.length_range]at this
  have h2:2*T.ae.length*13≤32*13:=Nat.mul_le_mul_right _ (by omega)
  omega
 ·rw[List.length_range]
  exact Nat.mul_le_mul_right _ (by omega)
def sM(T:an)(k x:Int)(d:Nat)(st:Nat→Int)(p0:dw)(late:Bool)(u n:Nat)(s:List bV):Prop:=
 (Open T k x d n s∧u=if late then T.nodes.toNat+kc T (aI T k x) d n else 2*T.nodes.toNat+kc T [] d n)∨
  ∃(q:List Int) (m a j:Nat),jU T k x d n s q∧u=q.length∧q.length<T.nodes.toNat∧(m:Int)<T.nodes∧a<2*T.ae.length∧j+q.length≤T.nodes.toNat∧G6 T (yl T (aI T k x) st) p0 m a j=(n,s)
theorem sM.Ju{late:Bool}{u n:Nat}{s:List bV}(h:sM T k x d st p0 late u n s):Way T k x d late n s u:=by
 rcases h with h|⟨q,_,_,_,h1,h2,h3,_⟩
 ·exact .inl h
 ·exact .inr ⟨q,h1,h2,h3⟩
theorem sM.mem{late:Bool}{u n:Nat}{s:List bV}(h:sM T k x d st p0 late u n s):(n,s)∈BS T (yl T (aI T k x) st) p0:=by
 unfold BS
 rcases h with⟨h,_⟩|⟨q,m,a,j,h1,_,_,h4,h5,h6,h7⟩
 ·have:=h.node
  rw[List.mem_flatMap]
  exact⟨n,List.mem_range.2 (by omega),by rw[h.nil];exact List.mem_cons_self⟩
 ·rw[List.mem_flatMap]
  refine⟨m,List.mem_range.2 (by omega),List.mem_cons_of_mem _ ?_⟩
  rw[List.mem_flatMap]
  refine⟨a,List.mem_range.2 h5,?_⟩
  rw[List.mem_map]
  exact⟨j,List.mem_range.2 (by omega),h7⟩
theorem th(hv:aq T=true)(h12:T.nodes≤12)(h16:T.ae.length≤16)(hd:(d:Int)<T.nodes){late:Bool}(hcv:late=false→uu T k x=true)(hsafe:late=false→∀m:Nat,(m:Int)<T.nodes→¬Gn k x m→0≤dN T [] d m→0≤dN T (aI T k x) d m)
    (hpm:Perm T k x late st) (hp0:p0.dst=(d:Int)):jz T (yl T (aI T k x) st) p0 (sM T k x d st p0 late) where
  node:=fun h=>(wY hv h12 h16 hd hcv hsafe hpm hp0).node h.Ju
  small:=fun h=>(wY hv h12 h16 hd hcv hsafe hpm hp0).small h.Ju
  step := fun {u n s} h => by
    rcases h with⟨h,hu⟩|⟨q,m,a,j,h1,h2,h3,h4,h5,h6,h7⟩
    · rcases sr hv h12 hd hcv hsafe hpm (.inl ⟨h,hu⟩) (p:=dq p0 s) hp0 rfl rfl with⟨e1,e2,e3⟩|⟨ay,s',e1,e2,e3⟩
      · exact .inl e2
      · refine .inr ?_
        have e1':bJ T (yl T (aI T k x) st) p0 n s=cr (dq p0 s) s' ay:=e1
        refine⟨oS _ _ _,by rw[e1'];rfl,fun a ha=>?_⟩
        have ha2:=ha
        rw[e1']at ha
        obtain⟨b,m,g,u',hu',hw⟩:=e3 a ha
        refine⟨b,m,g.eq,g.fC,g.head,u',hu',?_⟩
        rcases hw with h8|⟨q,h8,h9,h10⟩
        · exact .inl (by rw[e1'];exact h8)
        · refine .inr ⟨q,n,b,0,by rw[e1'];exact h8,h9,h10,h.node,g.fC,by omega,?_⟩
          have hn:=h.nil
          subst hn
          simp only[G6]
          rw[g.head,Int.toNat_natCast]
    · cases q with
      |nil=>
        obtain⟨_,e2,_⟩:=sf hv h12 hd h1 (st n) (p:=dq p0 s) hp0 rfl
        exact .inl e2
      |cons c q=>
        obtain⟨b,m',s',g,e1,e2⟩:=pV hv h12 hd h1 (st n) (p:=dq p0 s) hp0 rfl rfl
        have e1':bJ T (yl T (aI T k x) st) p0 n s=cr (dq p0 s) s' [c]:=e1
        refine .inr ⟨oS _ _ _,by rw[e1'];rfl,fun c' hc=>?_⟩
        rw[e1']at hc
        have hc:c'∈[c]:=hc
        rw[List.mem_singleton]at hc
        subst hc
        simp only[List.length_cons]at h2 h3 h6
        refine⟨b,m',g.eq,g.fC,g.head,q.length,by omega,.inr ⟨q,m,a,j+1,by rw[e1'];exact e2,rfl,by omega,h4,h5,by omega,?_⟩⟩
        simp only[G6]
        rw[h7,e1']
        simp only[cr,List.getD_cons_zero]
        rw[g.eq,Int.toNat_natCast,g.head,Int.toNat_natCast]
end
abbrev FK:=List (Nat×Nat×List bV)
section
variable (T:an) (tb:Nat→db) (p0:dw) (Φ:Nat→Nat→List bV→Prop)
def mf(op:FK)(n:Nat)(s:List bV)(v:PV):Prop:=(∃c,Good T tb p0 Φ v n s c)∨∃i,(i,n,s)∈op∧v= .ptr (i+8) 0
structure nn (op:FK) (kv:List (List UInt8×PV)) (L:List PV):Prop where
 Eu:∀e∈kv,∃u n s,Φ u n s∧e.1=ek n s∧mf T tb p0 Φ op n s e.2
 nodup:(kv.map (·.1)).Nodup
 all:∀v∈L,∃n s,mf T tb p0 Φ op n s v
 len:L.length=kv.length
end
section
variable {T:an} {tb:Nat→db} {p0:dw} {Φ:Nat→Nat→List bV→Prop}
theorem mf.more{op:FK}{x:Nat×Nat×List bV}{n:Nat}{s:List bV}{v:PV}(h:mf T tb p0 Φ op n s v):mf T tb p0 Φ (x::op) n s v:=by
 rcases h with h|⟨i,h,e⟩
 ·exact .inl h
 ·exact .inr ⟨i,List.mem_cons_of_mem _ h,e⟩
theorem nn.push{op:FK}{kv:List (List UInt8×PV)}{L:List PV}(h:nn T tb p0 Φ op kv L){u n i:Nat}{s:List bV}(hΦ:Φ u n s)(hno:ek n s∉kv.map (·.1)):
  nn T tb p0 Φ ((i,n,s)::op) (kv++[(ek n s,.ptr (i+8) 0)]) (L++[.ptr (i+8) 0]) where
 Eu:=fun e he=>by
  rcases List.mem_append.1 he with he|he
  ·obtain⟨u,n,s,h1,h2,h3⟩:=h.Eu e he
   exact⟨u,n,s,h1,h2,h3.more⟩
  ·rw[List.mem_singleton]at he
   subst he
   exact⟨u,n,s,hΦ,rfl,.inr ⟨i,List.mem_cons_self,rfl⟩⟩
 nodup:=by
  rw[List.map_append,List.nodup_append]
  refine⟨h.nodup,by simp,fun a ha b hb e=>?_⟩
  subst e
  simp only[List.map_cons,List.map_nil,List.mem_singleton]at hb
  subst hb
  exact hno ha
 all:=fun v hv=>by
  rcases List.mem_append.1 hv with hv|hv
  ·obtain⟨n,s,h1⟩:=h.all v hv
   exact⟨n,s,h1.more⟩
  ·rw[List.mem_singleton]at hv
   subst hv
   exact⟨n,s,.inr ⟨i,List.mem_cons_self,rfl⟩⟩
 len:=by simp[h.len]
theorem xr{i:Nat}{blk:cJ}{Q Q':PV→Prop}(h:∀v,Q v→∃v',Az i blk v v'∧Q' v'):∀L:List PV,(∀v∈L,Q v)→∃L',jG i blk L L'∧∀v∈L',Q' v
 | [],_=>⟨[],.nil,fun v hv=>by cases hv⟩
 |v::L,hL=>by
  obtain⟨v',h1,h2⟩:=h v (hL v (by simp))
  obtain⟨L',h3,h4⟩:=xr h L (fun w hw=>hL w (by simp[hw]))
  exact⟨v'::L',.cons h1 h3,fun w hw=>by
   rcases List.mem_cons.1 hw with rfl|hw
   ·exact h2
   ·exact h4 w hw⟩
theorem Dm{i:Nat}{blk:cJ}{Q Q':List UInt8→PV→Prop}(h:∀k v,Q k v→∃v',Az i blk v v'∧Q' k v'):∀kv:List (List UInt8×PV),(∀e∈kv,Q e.1 e.2)→∃kv':List (List UInt8×PV),kv'.map (·.1)=kv.map (·.1)∧jG i blk (kv.map (·.2)) (kv'.map (·.2))∧∀e∈kv',Q' e.1 e.2
 | [],_=>⟨[],rfl,.nil,fun v hv=>by cases hv⟩
 |e::L,hL=>by
  obtain⟨v',h1,h2⟩:=h e.1 e.2 (hL e (by simp))
  obtain⟨L',h3,h4,h5⟩:=Dm h L (fun w hw=>hL w (by simp[hw]))
  exact⟨(e.1,v')::L',by simp[h3],.cons h1 h4,fun w hw=>by
   rcases List.mem_cons.1 hw with rfl|hw
   ·exact h2
   ·exact h5 w hw⟩
theorem nn.close{op:FK}{i n:Nat}{s:List bV}{kv:List (List UInt8×PV)}{L:List PV}(h:nn T tb p0 Φ ((i,n,s)::op) kv L){ty:TypeId}{xs:List PV}{c:Int}(hg:Good T tb p0 Φ (.ba xs 0) n s c):
  ∃kv' L',nn T tb p0 Φ op kv' L'∧kv'.map (·.1)=kv.map (·.1)∧jG (i+8) (.cells ty xs) (kv.map (·.2)) (kv'.map (·.2))∧jG (i+8) (.cells ty xs) L L':=by
 have key:∀n1 s1 v,mf T tb p0 Φ ((i,n,s)::op) n1 s1 v→∃v',Az (i+8) (.cells ty xs) v v'∧mf T tb p0 Φ op n1 s1 v':=fun n1 s1 v hv=>by
  rcases hv with hv|⟨i1,h1,rfl⟩
  ·exact⟨v,.same _,.inl hv⟩
  ·rcases List.mem_cons.1 h1 with h1|h1
   ·cases h1
    exact⟨_,.ptr 0,.inl ⟨c,hg⟩⟩
   ·exact⟨_,.same _,.inr ⟨i1,h1,rfl⟩⟩
 obtain⟨kv',k1,k2,k3⟩:=Dm (i:=i+8) (blk:=.cells ty xs) (Q:=fun k v=>∃u n1 s1,Φ u n1 s1∧k=ek n1 s1∧mf T tb p0 Φ ((i,n,s)::op) n1 s1 v) (Q':=fun k v=>∃u n1 s1,Φ u n1 s1∧k=ek n1 s1∧mf T tb p0 Φ op n1 s1 v) (fun k v ⟨u,n1,s1,h1,h2,h3⟩=>by
  obtain⟨v',h4,h5⟩:=key n1 s1 v h3
  exact⟨v',h4,u,n1,s1,h1,h2,h5⟩) kv h.Eu
 obtain⟨L',l1,l2⟩:=xr (i:=i+8) (blk:=.cells ty xs) (Q:=fun v=>∃n1 s1,mf T tb p0 Φ ((i,n,s)::op) n1 s1 v) (Q':=fun v=>∃n1 s1,mf T tb p0 Φ op n1 s1 v) (fun v ⟨n1,s1,h3⟩=>by
  obtain⟨v',h4,h5⟩:=key n1 s1 v h3
  exact⟨v',h4,n1,s1,h5⟩) L h.all
 refine⟨kv',L',⟨k3,by rw[k1];exact h.nodup,l2,?_⟩,k1,k2,l1⟩
 have:=congrArg List.length k1
 simp only[List.length_map]at this
 rw[l1.1,h.len,this]
theorem nn.Jq(R:jz T tb p0 Φ)(h12:T.nodes≤12){U:List (Nat×List bV)}(hU:∀ {u n s},Φ u n s→(n,s)∈U){op:FK}{kv:List (List UInt8×PV)}{L:List PV}(h:nn T tb p0 Φ op kv L):kv.length≤U.length:=by
 have key:∀kv:List (List UInt8×PV),(∀e∈kv,∃u n s,Φ u n s∧e.1=ek n s)→∃sts:List (Nat×List bV),sts.map (fun x=>ek x.1 x.2)=kv.map (·.1)∧∀x∈sts,x∈U:=fun kv=>by
  induction kv with
  |nil=>intro _;exact⟨[],rfl,fun x hx=>by cases hx⟩
  |cons e kv ih=>
   intro he
   obtain⟨u,n,s,h1,h2⟩:=he e (by simp)
   obtain⟨sts,h3,h4⟩:=ih (fun e h=>he e (by simp[h]))
   exact⟨(n,s)::sts,by simp[h3,h2],fun x hx=>by
    rcases List.mem_cons.1 hx with rfl|hx
    ·exact hU h1
    ·exact h4 x hx⟩
 obtain⟨sts,h1,h2⟩:=key kv (fun e he=>by
  obtain⟨u,n,s,h1,h2,_⟩:=h.Eu e he
  exact⟨u,n,s,h1,h2⟩)
 have hn:=h.nodup
 rw[←h1]at hn
 have hnd:sts.Nodup:=by
  unfold List.Nodup at hn ⊢
  rw[List.pairwise_map]at hn
  exact hn.imp fun hab e=>hab (by rw[e])
 have:=pf sts U hnd h2
 have h3:=congrArg List.length h1
 simp only[List.length_map]at h3
 omega
theorem nn.DV(R:jz T tb p0 Φ)(h12:T.nodes≤12){op:FK}{kv:List (List UInt8×PV)}{L:List PV}(h:nn T tb p0 Φ op kv L){u n:Nat}{s:List bV}(hΦ:Φ u n s)(hop:∀x∈op,CV T tb p0 x.2.1 x.2.2 n s){v:PV}(hv:dz (ek n s) kv=some v):∃c,Good T tb p0 Φ v n s c:=by
 obtain⟨u1,n1,s1,h1,h2,h3⟩:=h.Eu _ (jb hv)
 have a1:=R.node h1
 have a2:=R.node hΦ
 obtain⟨rfl,rfl⟩:=Fl (by omega) (by omega) (R.small hΦ).1 (R.small h1).1 h2
 rcases h3 with h3|⟨i,h4,_⟩
 ·exact h3
 ·exact(R.xc (hop _ h4) h1).elim
theorem tL{κ:Type}[DecidableEq κ]{k:κ}:∀ {l:List (κ×PV)},dz k l=none→k∉l.map (·.1)
 | [],_=>by simp
 |(a,q)::l,h=>by
  simp only[dz]at h
  split at h
  ·cases h
  ·rename_i hne
   rw[List.map_cons,List.mem_cons]
   rintro(e|e)
   ·exact hne e
   ·exact tL h e
theorem nY{κ:Type}[DecidableEq κ]{k:κ}{p:PV}:∀ {l:List (κ×PV)},dz k l=none→iM k p l=l++[(k,p)]
 | [],_=>rfl
 |(a,q)::l,h=>by
  simp only[dz]at h
  split at h
  ·cases h
  ·rename_i hne
   simp only[iM]
   rw[if_neg hne,nY h]
   rfl
end
def KC(P:Program)(ty:TypeId):Option (Nat×List Value):=match P.info? ty,P.underlying ty with
 |some it,some (.array _ e)=>match it.zero,P.info? e with
  |some z,some ie=>some (ie.size,z.cells.toList)
  |_,_=>none
 |_,_=>none
theorem zB{P:Program}{σ:cg}{t:cj}{o:Oper}{ty s:TypeId}{parts:Array (Nat×Operand)}{zero:List Value}{ps:List (Nat×List PV)}{xs:List PV}(ho:o.op= .build ty parts)(hk:KC P ty=some (s,zero))(hp:iz t parts.toList=some ps)
  (hf:kz (fun i=>some (i*s,s)) (zero.map .raw) ps=some xs):bE P σ t o (.agg xs):=by
 intro F base E ρ w hρ hS hT
 obtain⟨h1,h2⟩:=kD hρ hT parts.toList ps hp
 have hz:bd E w zero.toArray.toList (zero.map .raw):=⟨by simp,fun i x u k1 k2=>by
  simp only[List.getElem?_map,Option.map_eq_some_iff]at k2
  obtain⟨y,hy,rfl⟩:=k2
  simp only at k1
  rw[hy]at k1
  cases k1
  exact .raw _⟩
 obtain⟨cs,hc,hR⟩:=lD (fun i=>some (i*s,s)) _ ps zero.toArray _ xs hz h1 h2 hf
 have hb:P.built ty ((parts.map fun(i,x)=>(i,ρ x)).toList)=some cs:=by
  unfold KC at hk
  split at hk
  ·rename_i it n e DV hu
   split at hk
   ·rename_i z ie hz' hie
    cases hk
    simp only[Program.built,DV,hu,hz',hie,Array.toList_map]
    simpa using hc
   ·cases hk
  ·cases hk
 have hrun:=run_build (P:=P) w ty (parts.map fun(i,x)=>(i,ρ x)) cs hb
 simp only[execOp,ho,Sem.run_bind,hrun,Result.andThen_ok,Sem.run_pure]
 exact bA (.agg cs xs (by have:=hR.1;rw[Array.length_toList]at this;exact this) (fun i x u k1 k2=>hR.2 i x u (by simpa using k1) k2))
theorem kV.Jb{n:Nat}{xs ys:List PV}(hl:ys.length=xs.length)(h:∀(i:Nat) x y,xs[i]? =some x→ys[i]? =some y→kV x y):kV (.slice n xs) (.slice n ys):=fun E w v hv=>by
 cases hv with
 |bQ=>
  have:ys=[]:=List.eq_nil_of_length_eq_zero hl
  subst this
  exact .bQ
 |empty a c hc=>
  have:ys=[]:=List.eq_nil_of_length_eq_zero hl
  subst this
  exact .empty a c hc
 |slice b off _ c cs _ h0 h1 h2 hb hM hc hl2 hr=>
  exact .slice b off n c cs ys h0 h1 h2 hb hM hc (hl2.trans hl.symm) (fun i x u k1 k2=>by
   have hi:i<xs.length:=by rw[←hl];exact(List.getElem?_eq_some_iff.1 k2).1
   exact h i xs[i] u (by simp[hi]) k2 E w x (hr i x _ k1 (by simp[hi])))
def zZ(T:an)(n:Nat):db:=⟨n,List.replicate T.nodes.toNat ⟨[],false,[]⟩,bN T n⟩
noncomputable def HE(T:an)(k x:Int)(n:Nat)(s:Int):db:=if pT k x n=true then zZ T n else ij T (aI T k x) s n
noncomputable def mX(T:an)(k x:Int)(l:List Int)(m:Nat):List db:=(List.range m).map fun n=>HE T k x n (fL l n)
def Ah(T:an)(k x:Int)(l:List Int):Int:=if((aq T&&cd T k x)&&decide ((l.length:Int)=T.nodes))=true then(if fS T k x l=true then 0 else 7) else 1
noncomputable def Dk(e:Int)(L:List db):PV:=.tuple [ev (if e=0 then L else []),num e]
theorem EM{T:an}{k x:Int}{l:List Int}{m:Nat}:mX T k x l (m+1)=mX T k x l m++[HE T k x m (fL l m)]:=by simp[mX,List.range_succ]
theorem Bx(n:Nat):(dQ [.raw (.slice none 0 0),.raw (.bool false),.raw (.slice none 0 0)] n).length=(dT (List.replicate n ⟨[],false,[]⟩)).length∧∀(i:Nat) x y,(dQ [.raw (.slice none 0 0),.raw (.bool false),.raw (.slice none 0 0)] n)[i]? =some x→(dT (List.replicate n ⟨[],false,[]⟩))[i]? =some y→kV x y:=by
 induction n with
 |zero=>exact⟨rfl,fun i x y h=>by simp[dQ]at h⟩
 |succ n ih=>
  refine⟨by simp only[dQ,List.replicate_succ,dT,List.flatMap_cons,List.length_append]at ih ⊢;rw[ih.1];rfl,fun i x y h1 h2=>?_⟩
  simp only[dQ,List.replicate_succ,dT,List.flatMap_cons]at h1 h2
  match i,h1,h2 with
  |0,h1,h2=>simp[gA]at h1 h2;subst h1 h2;exact .bQ
  |1,h1,h2=>simp[gA]at h1 h2;subst h1 h2;exact kV.refl _
  |2,h1,h2=>simp[gA]at h1 h2;subst h1 h2;exact .bQ
  |i+3,h1,h2=>exact ih.2 i x y (by simpa using h1) (by simpa[dT,gA]using h2)
theorem Gv(T:an)(n:Int)(X:db)(h:Can Tryz.prog 67 [aN T,num n] (· = .tuple [fr X,num 0])):Can Tryz.prog 66 [num n,.ba (bC T) 0] (· = .tuple [fr X,num 0]):=by
 refine aG Tryz.func66 I Tryz.ntmps66 I<|aM<|au 2 I<|aE [0,1,3] I ?_
 refine aM<|au 2 I<|eL I (h) I<|au 4 I<|aE [3,4] I ?_
 exact ao<|⟨_,_,az.of I,ax.pure (p:=.tuple [fr X,num 0]),rfl⟩
theorem Hx(T:an)(k x n:Int)(X:db)(h:Can Tryz.prog 55 [aN T,bY k x,num n] (· = .tuple [fr X,num 0])):Can Tryz.prog 68 [num n,.ba (bC T) 0,.ba (cz k x) 0] (· = .tuple [fr X,num 0]):=by
 refine aG Tryz.func68 I Tryz.ntmps68 I<|aM<|au 2 I<|aE [0,1,2,4] I ?_
 refine aM<|au 3 I<|eL I (h) I<|au 4 I<|aE [4,5] I ?_
 exact ao<|⟨_,_,az.of I,ax.pure (p:=.tuple [fr X,num 0]),rfl⟩
theorem Gg(T:an)(k x n:Int)(X:db)(h:Can Tryz.prog 70 [aN T,bY k x,num n] (· = .tuple [fr X,num 0])):Can Tryz.prog 69 [num n,.ba (bC T) 0,.ba (cz k x) 0] (· = .tuple [fr X,num 0]):=by
 refine aG Tryz.func69 I Tryz.ntmps69 I<|aM<|au 2 I<|aE [0,1,2,4] I ?_
 refine aM<|au 3 I<|eL I (h) I<|au 4 I<|aE [4,5] I ?_
 exact ao<|⟨_,_,az.of I,ax.pure (p:=.tuple [fr X,num 0]),rfl⟩
theorem Hc(T:an)(k x n:Int)(X:db)(h:Can Tryz.prog 72 [aN T,bY k x,num n] (· = .tuple [fr X,num 0])):Can Tryz.prog 71 [num n,.ba (bC T) 0,.ba (cz k x) 0] (· = .tuple [fr X,num 0]):=by
 refine aG Tryz.func71 I Tryz.ntmps71 I<|aM<|au 2 I<|aE [0,1,2,4] I ?_
 refine aM<|au 3 I<|eL I (h) I<|au 4 I<|aE [4,5] I ?_
 exact ao<|⟨_,_,az.of I,ax.pure (p:=.tuple [fr X,num 0]),rfl⟩
theorem mo(x:db):jQ 0 x= .tuple [fr x,num 0]:=rfl
theorem Jn(T:an)(k x:Int)(h12:T.nodes≤12)(hvc:(aq T&&cd T k x)=true){i:Nat}(hi:(i:Int)<T.nodes){s:Int}(hs:qz s=true){FS:List PV}(hFS:[.func 66 [.ba (bC T) 0],.func 68 [.ba (bC T) 0,.ba (cz k x) 0],.func 69 [.ba (bC T) 0,.ba (cz k x) 0],.func 71 [.ba (bC T) 0,.ba (cz k x) 0]]=FS):
  ∃f cap,FS[s.toNat]? =some (.func f cap)∧enters Tryz.prog f=true∧Can Tryz.prog f ([num i]++cap) (· = .tuple [fr (ij T (aI T k x) s i),num 0])∧aK ([num i]++cap):=by
 have hv:=(Bool.and_eq_true_iff.1 hvc).1
 have hme:dY T k x=0:=by unfold dY;rw[if_pos hvc]
 have hn:br T i=true:=by rw[aT];omega
 have htr:ky T k x i=0:=by unfold ky;rw[if_pos hme,if_pos hn]
 have hch:cD T [] [(i:Int)]=0:=by
  unfold cD
  rw[hv]
  simp[bW,hn]
 subst hFS
 obtain⟨h0,h3⟩:=Bool.and_eq_true_iff.1 hs
 have h0:=of_decide_eq_true h0
 have h3:=of_decide_eq_true h3
 have h1:=Fj T i
 rw[hch,mo,Int.toNat_natCast]at h1
 have h2:=CA T k x i h12
 rw[if_pos hme,if_pos hn,mo,Int.toNat_natCast]at h2
 have h4:=DA T k x i h12
 rw[htr,mo,Int.toNat_natCast]at h4
 have h5:=DU T k x i
 rw[htr,mo,Int.toNat_natCast]at h5
 rcases(by omega:s=0∨s=1∨s=2∨s=3)with e|e|e|e
 ·subst e
  exact⟨_,_,rfl,by kernel_rfl,Gv T i _ h1,by infer_instance⟩
 ·subst e
  exact⟨_,_,rfl,by kernel_rfl,Hx T k x i _ h2,by infer_instance⟩
 ·subst e
  exact⟨_,_,rfl,by kernel_rfl,Gg T k x i _ h4,by infer_instance⟩
 ·subst e
  exact⟨_,_,rfl,by kernel_rfl,Hc T k x i _ h5,by infer_instance⟩
theorem Lq:KC Tryz.prog 100=some (1,[.nilFunc,.nilFunc,.nilFunc,.nilFunc]):=by kernel_rfl
theorem oc{T:an}{k x:Int}{l:List Int}{m:Nat}:(mX T k x l m).length=m:=by simp[mX]
set_option maxHeartbeats 4000000 in
theorem tP(T:an)(k x:Int)(l:List Int)(hl:l.length≤1000)(h12:T.nodes≤12):Can Tryz.prog 20 [aN T,bY k x,aw l] (· =Dk (Ah T k x l) (mX T k x l l.length)):=by
  obtain⟨q1,hq1⟩:∃q,(aq T&&cd T k x)=q:=⟨_,rfl⟩
  obtain⟨q2,hq2⟩:∃q,decide ((l.length:Int)≠T.nodes)=q:=⟨_,rfl⟩
  obtain⟨q3,hq3⟩:∃q,fS T k x l=q:=⟨_,rfl⟩
  have hE:Ah T k x l=if(q1&& !q2)=true then(if q3=true then 0 else 7) else 1:=by
    unfold Ah
    rw[hq1,hq3,←hq2]
    simp
  rw[hE]
  refine aG Tryz.func20 I Tryz.ntmps20 I<|ab (.a 4 I<|.k [2,3,4] I)<|aj<|bz 23 (.raw (.bool (!q1 ||q2))) [2,3,4] I ?_ ?_
  · refine .a 2 I<|.c rfl (hq1▸yH T k x) I<|.a 2 I<|?_
    cases q1
    · exact .a 6 I<|.k [23,2,3,4] I
    · exact .a 4 I<|.v (cc I (hq2)) I<|.a 1 I<|.k [23,2,3,4] I
  refine ag I (fun hc=>?_) (fun hc=>?_)
  · have hno:(q1&& !q2)=false:=by cases q1<;>cases q2<;>simp_all
    exact ab (.a 2 I<|.k [6,7] I)<|ao<|⟨_,_,az.of I,ax.aX (ah.cons ax.bQ (ah.cons ax.pure ah.nil)),by rw[hno];rfl⟩
  · obtain ⟨h1, rfl⟩ := Bool.or_eq_false_iff.1 hc
    have h1:q1=true:=by simpa using h1
    subst h1
    have hln:(l.length:Int)=T.nodes:=by have:=ff hq2;simpa using this
    refine ai<|aj<|ab (.a 3 I<|.c rfl (hq3▸mF T k x l hl) I<|.a 1 I<|.k [2,3,4,28] I)<|ag I (fun hc=>?_) (fun hc=>?_)
    · have h3:q3=false:=by simpa using hc
      subst h3
      exact ab (.a 2 I<|.k [6,7] I)<|ao<|⟨_,_,az.of I,ax.aX (ah.cons ax.bQ (ah.cons ax.pure ah.nil)),rfl⟩
    · have h3:q3=true:=by simpa using hc
      subst h3
      have hv:=(Bool.and_eq_true_iff.1 hq1).1
      have hll:=bR hv
      have hP1:ej k x (fun n=>qz (fL l n)) l.length=true:=by
        have h:=hq3
        unfold fS at h
        split at h
        · exact(Bool.and_eq_true_iff.1 h).1
        · cases h
      refine ai<|aM<|au 4 I<|bx (zB I Lq rfl rfl) I<|au 2 I<|aE [2,3,4,8] I ?_
      refine fM 8 0 0 I I ?_
      refine dG [] (.c 2<|.c 3<|.c 4<|.c 8<|.nil) .nil rfl rfl ?_
      obtain⟨FS,hFS⟩:∃z:List PV,[.func 66 [.ba (bC T) 0],.func 68 [.ba (bC T) 0,.ba (cz k x) 0],.func 69 [.ba (bC T) 0,.ba (cz k x) 0],.func 71 [.ba (bC T) 0,.ba (cz k x) 0]]=z:=⟨_,rfl⟩
      have hFp:aK FS:=by rw[←hFS];infer_instance
      rw[hFS]
      refine ab (.a 1 I<|.k [2,3,4,8,9] I)<|ia 9 56 3 I ?_
      refine aj<|ab (.a 3 I<|.k [3,4,8,9,34,35,36] I)<|av<|eR [3,4,8,9,34,35,36] I<|bu (fun r s=>∃i,i≤l.length∧r=l.length - i∧s=⟨[(3,.ba (bC T) 0),(4,.ba (cz k x) 0),(8,.ba FS 0),(9,.own 0),(34,aw l),(35,num l.length),(36,num i)],[some (.row 56 3 i (oa (mX T k x l i)))]⟩) l.length ⟨0,by omega,by omega,rfl⟩ ?_
      rintro r s ⟨i,hi,rfl,rfl⟩
      refine ab (.a 1 I<|.k [3,4,8,9,34,35,36,37] I)<|aj<|ag I (fun hc=>?_) (fun hc=>?_)
      · have hlt:i<l.length:=by have:=tt hc;omega
        have hil:(i:Int)<T.nodes:=by omega
        obtain⟨N,hN⟩:∃N:Nat,T.nodes=(N:Int):=⟨T.nodes.toNat,by omega⟩
        obtain⟨s,hs⟩:∃s,fL l i=s:=⟨_,rfl⟩
        have hsl:l.getD i 0=s:=hs
        obtain⟨g,hg⟩:∃g,pT k x i=g:=⟨_,rfl⟩
        have hX:mX T k x l (i+1)=mX T k x l i++[HE T k x i s]:=by rw[EM,hs]
        have hXg:HE T k x i s=if g=true then zZ T i else ij T (aI T k x) s i:=by unfold HE;rw[hg]
        have hmL:(mX T k x l i).length=i:=oc
        obtain⟨L,hL⟩:∃L,mX T k x l i=L:=⟨_,rfl⟩
        obtain⟨X,hXX⟩:∃X,HE T k x i s=X:=⟨_,rfl⟩
        rw[hL,hXX]at hX
        rw[hL]at hmL ⊢
        rw[hXX]at hXg
        refine ai<|aj<|av<|ab (.a 1 I<|.v (aP (i) I) I<|.v (aJ I ((aC l i hlt).trans (by rw[hsl]))) I<|.a 2 I<|.k [3,4,8,9,10,11,34,35,36] I)<|aM<|au 2 I<|bx (aJ I ((show some (num T.nodes)=some (num (N:Int)) by rw[hN]))) I<|b9 (dS I (aZ.rk.get I) I I (rfl:(N:Int)=(N:Int)) (rfl:(N:Int)=(N:Int)) ⟨by unfold maxLen;omega,by omega⟩) I<|au 3 I<|aE [3,4,8,9,10,11,12,34,35,36] I ?_
        refine pP 1 (σ':=[some (.row 56 3 i (oa L)),none,some (.cells 56 [num i,.slice N (dQ [.raw (.slice none 0 0),.raw (.bool false),.raw (.slice none 0 0)] N),.raw (.slice none 0 0)])]) (t':=[(3,.ba (bC T) 0),(4,.ba (cz k x) 0),(8,.ba FS 0),(9,.own 0),(10,num i),(11,num s),(12,.ptr 2 0),(34,aw l),(35,num l.length),(36,num i)]) (blk:=.row 76 3 N (dQ [.raw (.slice none 0 0),.raw (.bool false),.raw (.slice none 0 0)] N)) I ⟨rfl,rfl,fun j hj=>by
          match j,hj with
          |0,_=>exact .inl rfl
          |1,h=>exact absurd rfl h
          |2,_=>exact .inr ⟨_,_,rfl,rfl,.cells (.cons (.same _)<|.cons .own<|.cons (.same _) .nil)⟩
          |_+3,_=>exact .inl rfl⟩ (.cons 3 rfl (.same _)<|.cons 4 rfl (.same _)<|.cons 8 rfl (.same _)<|.cons 9 rfl (.same _)<|.cons 10 rfl (.same _)<|.cons 11 rfl (.same _)<|.cons 12 rfl (.same _)<|.cons 34 rfl (.same _)<|.cons 35 rfl (.same _)<|.cons 36 rfl (.same _) .nil) ?_
        refine aj<|ab (.a 2 I<|.c rfl (hg▸uk k x i) I<|.k [3,4,8,9,10,11,12,34,35,36,48] I)<|ag I (fun hc=>?_) (fun hc=>?_)
        · subst hc
          rw[if_pos rfl]at hXg
          have hle:kV (.agg [num i,.slice N (dQ [.raw (.slice none 0 0),.raw (.bool false),.raw (.slice none 0 0)] N),aw (bN T i)]) (fr X):=by
            rw[hXg]
            have hz:=Bx N
            have hTN:T.nodes.toNat=N:=by omega
            refine kV.gV ⟨rfl,fun j a b h1 h2=>?_⟩
            match j,h1,h2 with
            |0,h1,h2=>cases h1;cases h2;exact kV.refl _
            |1,h1,h2=>
              cases h1;cases h2
              show kV (.slice N _) (.slice (List.replicate T.nodes.toNat (⟨[],false,[]⟩:iV)).length (dT (List.replicate T.nodes.toNat ⟨[],false,[]⟩)))
              rw[List.length_replicate,hTN]
              exact kV.Jb hz.1.symm hz.2
            |2,h1,h2=>cases h1;cases h2;exact kV.refl _
            |j+3,h1,h2=>exact absurd h1 (by simp)
          refine bH<|au 2 I<|eL I (oG T hll _) I<|au 2 I<|aE [3,4,8,9,12,34,35,36] I ?_
          refine bH<|au 1 I<|bx (FN (cP I (aZ.tk.get I) I I I) hle) I<|au 1 I<|b9 (bp I (aZ.rk.get I) I I I I (by unfold maxLen;omega)) I<|au 1 I<|aE [3,4,8,9,34,35,36] I ?_
          refine dG [3] (.c 3<|.c 4<|.c 8<|.cons 9 I (.own (i:=0) (j:=3) I)<|.c 34<|.c 35<|.c 36<|.nil) (.kept rfl (.row aH.pure) .nil) I I ?_
          refine aB (.v (aU I) I<|.a 1 I<|.k [3,4,8,9,34,35,36] I) ?_
          exact⟨l.length - (i+1),by omega,i+1,by omega,rfl,by rw[hX,←rX];rfl⟩
        · subst hc
          have hle:kV (fr X) (fr X):=kV.refl _
          rw[if_neg (by decide)]at hXg
          have hos:qz s=true:=by
            rw[←hs]
            exact jZ.1 hP1 i hlt hg
          obtain⟨f,cap,r1,r2,r3,r4⟩:=Jn T k x h12 hq1 hil hos hFS
          rw[←hXg]at r3
          obtain⟨hs0,hs3⟩:0≤s∧s<4:=by
            obtain⟨h0,h3⟩:=Bool.and_eq_true_iff.1 hos
            have h0:=of_decide_eq_true h0
            have h3:=of_decide_eq_true h3
            omega
          refine bH<|au 1 I<|bx (mT I (aZ.ar.get I) I I hs0 hs3 (j:=s.toNat) (Nat.mul_one _)) I<|bx (aJ I ((show FS[0+s.toNat]? =_ by rw[Nat.zero_add];exact r1))) I<|au 1 I<|bx (sq I r2 rfl rfl r3) I<|au 4 I<|aE [3,4,8,9,12,34,35,36] I ?_
          refine bH<|au 1 I<|bx (FN (cP I (aZ.tk.get I) I I I) hle) I<|au 1 I<|b9 (bp I (aZ.rk.get I) I I I I (by unfold maxLen;omega)) I<|au 1 I<|aE [3,4,8,9,34,35,36] I ?_
          refine dG [3] (.c 3<|.c 4<|.c 8<|.cons 9 I (.own (i:=0) (j:=3) I)<|.c 34<|.c 35<|.c 36<|.nil) (.kept rfl (.row aH.pure) .nil) I I ?_
          refine aB (.v (aU I) I<|.a 1 I<|.k [3,4,8,9,34,35,36] I) ?_
          exact⟨l.length - (i+1),by omega,i+1,by omega,rfl,by rw[hX,←rX];rfl⟩
      · have hie:i=l.length:=by have:=ff hc;omega
        subst hie
        exact bf<|ab (.a 3 I<|.k [6,7] I)<|ao<|⟨_,_,az.of I,ax.aX (ah.cons (ax.fB rfl ah.pure) (ah.cons ax.pure ah.nil)),by show PV.tuple [.slice l.length (oa (mX T k x l l.length)),num 0]= .tuple [ev (mX T k x l l.length),num 0];unfold ev;rw[oc]⟩
end
end PW
end Go.Proofs.YtnegbdpggideiaaGreatDoor
