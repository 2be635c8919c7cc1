/- Texts of the proof, part 13. -/
import Derived.RangeFuncBox
import Derived.Lib.ItoaNum
import Derived.Laws.StructEq
import Derived.Lib.AppendStr
import Derived.Lib.UnsafeStr
import Derived.Lib.Builder
import Derived.Shelf.Strings.Builder1
import Derived.Shelf.Strings.BuilderF
import Derived.Shelf.Strings.BuilderK
import Derived.Shelf.Strconv.Itoa0
import Derived.Shelf.Strconv.Itoa1
import Derived.Shelf.LaysM
import Derived.Shelf.Strconv.Itoa2
import Derived.Shelf.Strconv.Itoa3
import Derived.Test.YtnegbdpggideiaaGreatDoorProg
import Derived.Test.YtnegbdpggideiaaGreatDoorCardMTB12
set_option linter.unusedVariables false
set_option linter.unusedSimpArgs false
set_option maxRecDepth 10000
set_option maxHeartbeats 1000000
namespace Go.Proofs.YtnegbdpggideiaaGreatDoor
namespace PW
open Go.RowKit cH Mem Net ft
end PW
end Go.Proofs.YtnegbdpggideiaaGreatDoor
namespace Go.Proofs.YtnegbdpggideiaaGreatDoor
namespace PW
open Go.RowKit cH Mem Net ft
end PW
end Go.Proofs.YtnegbdpggideiaaGreatDoor
namespace Go.Proofs.YtnegbdpggideiaaGreatDoor
namespace PW
open Go.RowKit cH Mem Net ft
end PW
end Go.Proofs.YtnegbdpggideiaaGreatDoor
namespace Go.Proofs.YtnegbdpggideiaaGreatDoor
namespace PW
open Go.RowKit cH Mem Net ft
def Il(T:an)(k x k' x':Int)(m:Nat):Bool:=(List.range m).all fun a=> !cY k x T.ag (a / 2)||cY k' x' T.ag (a / 2)
def IB(T:an)(k x k' x':Int):Bool:=Il T k x k' x' (2*T.ag.length)
end PW
end Go.Proofs.YtnegbdpggideiaaGreatDoor
namespace Go.Proofs.YtnegbdpggideiaaGreatDoor
namespace PW
open Go.RowKit Go.Shelf cH Mem Net ft
attribute [local go_sem] Oper.semAt_some
theorem yg(T:an)(k x:Int):Can Tryz.prog 65 [aJ T,bY k x] (· =flag (av T&&cc T k x)):=by
 obtain⟨q1,hq1⟩:∃q,av T=q:=⟨_,rfl⟩
 obtain⟨q2,hq2⟩:∃q,cc T k x=q:=⟨_,rfl⟩
 rw[hq1,hq2]
 refine aF Tryz.func65 rfl Tryz.ntmps65 rfl<|ab (.a 3 rfl<|.k [2,3] rfl)<|bx 4 (.raw (.bool (q1&&q2))) [] rfl ?_ ?_
 ·refine .a 1 rfl<|.c rfl (hq1▸er T) rfl<|.a 1 rfl<|?_
  cases q1
  ·exact .a 5 rfl<|.k [4] rfl
  ·exact .a 2 rfl<|.c rfl (hq2▸lh T k x) rfl<|.a 2 rfl<|.k [4] rfl
 exact ao<|⟨_,_,aA.of rfl,ax.pure,rfl⟩
end PW
end Go.Proofs.YtnegbdpggideiaaGreatDoor
namespace Go.Proofs.YtnegbdpggideiaaGreatDoor
namespace PW
open Go.RowKit cH Mem Net ft
abbrev I0(p:Int×Int):Value:=.agg (o5 p)
def CC(T:an)(k x:Int)(l:List ((Int×Int)×PV)):Prop:=∀c v,(c,v)∈l→v=flag (IB T k x c.1 c.2)
theorem CC.pure{T:an}{k x:Int}{l:List ((Int×Int)×PV)}(h:CC T k x l):aL ((fM I0 l).map (·.2)):=⟨fun i u hu=>by
 have hm:=List.mem_of_getElem? hu
 simp only[fM,List.map_map,List.mem_map]at hm
 obtain⟨a,ha,rfl⟩:=hm
 have:=h a.1 a.2 ha
 show IsPure a.2
 rw[this]
 infer_instance⟩
theorem CC.set{T:an}{k x:Int}{l:List ((Int×Int)×PV)}(h:CC T k x l)(c:Int×Int):CC T k x (iu c (flag (IB T k x c.1 c.2)) l):=fun c' v hm=>by
 rcases ry hm with e|e
 ·cases e;rfl
 ·exact h c' v e
end PW
end Go.Proofs.YtnegbdpggideiaaGreatDoor
namespace Go.Proofs.YtnegbdpggideiaaGreatDoor
namespace PW
open Go.RowKit cH Mem Net ft
end PW
end Go.Proofs.YtnegbdpggideiaaGreatDoor
namespace Go.Proofs.YtnegbdpggideiaaGreatDoor
namespace PW
open Go.RowKit cH Mem Net ft
end PW
end Go.Proofs.YtnegbdpggideiaaGreatDoor
namespace Go.Proofs.YtnegbdpggideiaaGreatDoor
namespace PW
open Go.RowKit cH Mem Net ft
section
variable {T:an}
theorem Ch.last{D:List Bool}{d n:Nat}{p:List Int}(h:Ch T D d n p):n≠d→∃a,a<2*T.ag.length∧aW D a=false∧bb T a=(d:Int):=by
 induction h with
 |nil=>intro h;exact absurd rfl h
 | @cons n a m p h1 h2 h3 h4 _ _ ih=>
  intro _
  by_cases e:m=d
  ·subst e;exact⟨a,h1,h3,h4⟩
  ·exact ih e
end
end PW
end Go.Proofs.YtnegbdpggideiaaGreatDoor
namespace Go.Proofs.YtnegbdpggideiaaGreatDoor
namespace PW
open Go.RowKit cH Mem Net ft
section
variable {T:an} {M D:List Bool} {n d:Nat}
theorem oS{x:eD}{d:Nat}{e:ij}(h:x.dh[d]? =some e):fi x (d:Int)=e:=by
 unfold fi
 rw[Int.toNat_natCast]
 exact mc _ _ _ h
theorem At(hd:(d:Int)<T.nodes):fi (di T D n) (d:Int)=⟨bm T D n d,false,[]⟩:=oS (Gj (by omega))
theorem Hr(hd:(d:Int)<T.nodes):fi (tK T D n) (d:Int)=jK T D n d:=oS (vg (by omega))
theorem G4(hd:(d:Int)<T.nodes):fi (pF T M n) (d:Int)=ox T (jx T M n) n d:=oS (vD (by omega))
noncomputable def vM(T:an)(M:List Bool)(s:Int)(n:Nat):eD:=if s=0 then di T [] n else if s=1 then pF T M n else if s=2 then tK T M n else di T M n
theorem uc{E:List Bool}{a:Nat}{l:List Int}(h:(a:Int)∈cj E l):aW E a=true:=by
 have:=(List.mem_filter.1 h).2
 rwa [Int.toNat_natCast]at this
theorem pw(hv:av T=true)(hn:(n:Int)<T.nodes){E:List Bool}(hf:bL T E=true)(hE:∀a,aW D a=false→aW E a=false):H8 T D n (di T E n) where
 ok:=ur hv hn
 node:=rfl
 down:=fun a ha=>by
  have:=uc ha
  cases h:aW D a with
  |true=>rfl
  |false=>rw[hE a h]at this;cases this
 IW:=fun y p hs=>by
  rw[At hs.hy]
  exact⟨(hs.Gw hf hE).B3.2.1,fun h=>by cases h⟩
theorem BJ(hv:av T=true)(h12:T.nodes≤12)(hn:(n:Int)<T.nodes)(hf:bL T M=true)(hM:∀a,aW D a=false→aW M a=false)(s:Int):H8 T D n (vM T M s n):=by
  unfold vM
  split
  · exact pw hv hn (ig T) (fun a _=>by simp[aW])
  · split
    · refine ⟨Bp hv h12 hn, rfl, fun a ha => ?_, fun y p hs => ?_⟩
      · have:=uc ha
        cases h:aW D a with
        |true=>rfl
        |false=>rw[hM a h]at this;cases this
      · rw[G4 hs.hy]
        have h1:=hs.B3.1
        unfold ox
        have hno:fL (jx T M n) (bm T [] n y)=none:=by
          cases hh:fL (jx T M n) (bm T [] n y)with
          |none=>rfl
          |some a=>
            obtain⟨h2,h3⟩:=nG hh
            rw[h1,List.mem_singleton]at h2
            subst h2
            obtain⟨p0,pt,rfl⟩:∃p0 pt,p=p0::pt:=by
              cases p with
              |nil=>exact absurd hs.pos (by simp)
              |cons p0 pt=>exact⟨p0,pt,rfl⟩
            have h4:=hM _ (hs.up p0 (by simp))
            rw[CX]at h3
            simp only[List.getD_cons_zero,Bool.and_eq_true]at h3
            rw[h4]at h3
            exact absurd h3.2.1 (by decide)
        rw[hno]
        exact⟨h1,fun h=>by cases h⟩
    · split
      · refine⟨Bd hv h12 hn,rfl,fun a ha=>?_,fun y p hs=>?_⟩
        · have:=uc ha
          cases h:aW D a with
          |true=>rfl
          |false=>rw[hM a h]at this;cases this
        · rw[Hr hs.hy,(hs.Gw hf hM).B3.2.2]
          exact⟨rfl,fun _=>rfl⟩
      · exact pw hv hn hf hM
end
end PW
end Go.Proofs.YtnegbdpggideiaaGreatDoor
namespace Go.Proofs.YtnegbdpggideiaaGreatDoor
namespace PW
open Go.RowKit cH Mem Net ft
section
variable {T:an} {k x:Int} {d:Nat}
def Gn(k x:Int)(n:Nat):Prop:=k=2∧x=(n:Int)
structure Open (T:an) (k x:Int) (d n:Nat) (s:List cq):Prop where
 nil:s=[]
 node:(n:Int)<T.nodes
 here:¬Gn k x n
 reach:0≤dN T (bz T k x) d n
structure Di (T:an) (k x:Int) (d n:Nat) (s:List cq) (q:List Int):Prop where
 GU:∃D,(∀a,aW D a=false→aW (bz T k x) a=false)∧GQ T D d n (o7 ⟨1,(n:Int)⟩ s) q
 node:(n:Int)<T.nodes
 here:¬Gn k x n
 len:s.length≤32
end
end PW
end Go.Proofs.YtnegbdpggideiaaGreatDoor
namespace Go.Proofs.YtnegbdpggideiaaGreatDoor
namespace PW
open Go.RowKit cH Mem Net ft
section
variable {T:an} {k x:Int} {d:Nat}
noncomputable def lr(T:an)(D:List Bool)(d n:Nat):Nat:=((List.range T.nodes.toNat).filter fun m=>decide (0≤dN T D d m)&&decide (dN T D d m<dN T D d n)).length
theorem uD{D:List Bool}{n:Nat}(hn:(n:Int)<T.nodes):lr T D d n<T.nodes.toNat:=by
 unfold lr
 have h:((List.range T.nodes.toNat).filter fun m=>decide (0≤dN T D d m)&&decide (dN T D d m<dN T D d n)).length<(List.range T.nodes.toNat).length:=by
  refine List.length_filter_lt_length_iff_exists.2 ⟨n,List.mem_range.2 (by omega),?_⟩
  simp
 simpa using h
def Way(T:an)(k x:Int)(d:Nat)(late:Bool)(n:Nat)(s:List cq)(u:Nat):Prop:=
 (Open T k x d n s∧u=if late then T.nodes.toNat+lr T (bz T k x) d n else 2*T.nodes.toNat+lr T [] d n)∨∃q,Di T k x d n s q∧u=q.length∧q.length<T.nodes.toNat
theorem Way.on{n:Nat}{s:List cq}{u:Nat}(h:Way T k x d false n s u):∃u',u'≤u∧Way T k x d true n s u':=by
 rcases h with⟨h,rfl⟩|⟨q,h,rfl,hl⟩
 ·have h1:=uD (D:=bz T k x) (d:=d) h.node
  refine⟨T.nodes.toNat+lr T (bz T k x) d n,?_,.inl ⟨h,?_⟩⟩
  ·rw[if_neg (by simp)];omega
  ·rw[if_pos rfl]
 ·exact⟨_,Nat.le_refl _,.inr ⟨q,h,rfl,hl⟩⟩
end
end PW
end Go.Proofs.YtnegbdpggideiaaGreatDoor
namespace Go.Proofs.YtnegbdpggideiaaGreatDoor
namespace PW
open Go.RowKit cH Mem Net ft
def fZ(p:ia)(s:List cq):ia:=⟨p.id,p.src,p.dst,p.qL,s,0⟩
inductive Br (T:an) (tb:Nat→eD) (p0:ia):Nat→List cq→List Int→Nat→Int→Prop
 |stop {n:Nat} {s:List cq}:(mO T (tb n) (fZ p0 s)).aR=[]→Br T tb p0 n s [] n (mO T (tb n) (fZ p0 s)).dW
 |go {n m e:Nat} {s:List cq} {a:Int} {p:List Int} {w:Int}:a∈(mO T (tb n) (fZ p0 s)).aR→bb T a.toNat=(m:Int)→Br T tb p0 m (mO T (tb n) (fZ p0 s)).fu.stack p e w→Br T tb p0 n s (a::p) e w
section
variable {T:an} {k x:Int} {d:Nat} {st:Nat→Int} {p0:ia}
noncomputable def JL(T:an)(M:List Bool)(st:Nat→Int)(n:Nat):eD:=vM T M (st n) n
end
end PW
end Go.Proofs.YtnegbdpggideiaaGreatDoor
namespace Go.Proofs.YtnegbdpggideiaaGreatDoor
namespace PW
open Go.RowKit cH Mem Net ft
section
variable {T:an} {D D':List Bool} {k x:Int} {d:Nat} {st:Nat→Int} {p0:ia}
end
end PW
end Go.Proofs.YtnegbdpggideiaaGreatDoor
namespace Go.Proofs.YtnegbdpggideiaaGreatDoor
namespace PW
open Go.RowKit cH Mem Net ft
def uO(k x n:Int):Bool:=decide (k=2)&&decide (x=n)
def rG(T:an)(k x:Int)(n:Nat):Bool:=(List.range (2*T.ag.length)).any fun a=>aW (bz T k x) a&&decide (bw T a=(n:Int))
def rF(s:Int):Bool:=decide (0≤s)&&decide (s≤3)
def tv(c:Bool)(s:Int):Bool:= !decide (s=3)&&(!decide (s=0)|| !c)&&(!decide (s=1)||c)
def tS(s:Int):Bool:=decide (s=2)||decide (s=3)
def ek(k x:Int)(p:Nat→Bool)(m:Nat):Bool:=(List.range m).all fun n=>uO k x n||p n
theorem iQ(k x:Int)(p:Nat→Bool)(m:Nat):ek k x p (m+1)=(ek k x p m&&(uO k x m||p m)):=by
 unfold ek
 rw[List.range_succ,List.all_append]
 simp
theorem uP{k x:Int}{p:Nat→Bool}{m:Nat}:ek k x p m=true↔∀n,n<m→uO k x n=false→p n=true:=by
 unfold ek
 rw[List.all_eq_true]
 constructor
 ·intro h n hn hg
  have:=h n (List.mem_range.2 hn)
  rw[hg,Bool.false_or]at this
  exact this
 ·intro h n hn
  cases hg:uO k x n with
  |true=>rfl
  |false=>rw[Bool.false_or];exact h n (List.mem_range.1 hn) hg
def iz(l:List Int)(n:Nat):Int:=l.getD n 0
def gF(T:an)(k x:Int)(l:List Int):Bool:=
 if(av T&&cc T k x)&&decide ((l.length:Int)=T.nodes) then ek k x (fun n=>rF (iz l n)) l.length&&(ek k x (fun n=>tv (rG T k x n) (iz l n)) l.length||ek k x (fun n=>tS (iz l n)) l.length) else false
theorem w7{k x:Int}{p:Nat→Bool}{m i:Nat}(hi:i<m)(hg:uO k x i=false)(hp:p i=false):ek k x p m=false:=by
 cases h:ek k x p m with
 |false=>rfl
 |true=>rw[uP.1 h i hi hg]at hp;cases hp
section
variable {T:an} {k x:Int} {l:List Int}
end
end PW
end Go.Proofs.YtnegbdpggideiaaGreatDoor
namespace Go.Proofs.YtnegbdpggideiaaGreatDoor
namespace PW
open Go.RowKit cH Mem Net ft
theorem sc(k x n:Int):Can Tryz.prog 73 [bY k x,num n] (· =flag (uO k x n)):=by
 obtain⟨q1,hq1⟩:∃q,decide (k=2)=q:=⟨_,rfl⟩
 obtain⟨q2,hq2⟩:∃q,decide (x=n)=q:=⟨_,rfl⟩
 unfold uO
 rw[hq1,hq2]
 refine aF Tryz.func73 rfl Tryz.ntmps73 rfl<|ab (.a 2 rfl<|.k [1,2] rfl)<|bx 4 (.raw (.bool (q1&&q2))) [] rfl ?_ ?_
 ·refine .a 2 rfl<|.v (b7 rfl (hq1)) rfl<|.a 1 rfl<|?_
  cases q1
  ·exact .a 6 rfl<|.k [4] rfl
  ·exact .a 3 rfl<|.v (b7 rfl (hq2)) rfl<|.a 2 rfl<|.k [4] rfl
 exact ao<|⟨_,_,aA.of rfl,ax.pure,rfl⟩
def uV(T:an)(M:List Bool)(N a:Nat):List Bool:=(List.range N).map fun(n:Nat)=>(List.range a).any fun b=>aW M b&&decide (bw T b=(n:Int))
section
variable {T:an} {M:List Bool} {N a:Nat}
theorem zz:(uV T M N a).length=N:=by simp[uV]
theorem Cg:uV T M N 0=List.replicate N false:=by
 unfold uV
 refine List.ext_getElem (by simp) fun i h1 h2=>by simp
theorem Hd(h:aW M a=false):uV T M N (a+1)=uV T M N a:=by
 unfold uV
 refine List.map_congr_left fun n _=>?_
 rw[List.range_succ,List.any_append]
 simp[h]
theorem Eo(h:aW M a=true){m:Nat}(hm:bw T a=(m:Int)):uV T M N (a+1)=(uV T M N a).set m true:=by
 refine List.ext_getElem (by simp[uV]) fun i h1 h2=>?_
 rw[List.getElem_set]
 simp only[uV,List.getElem_map,List.getElem_range,List.range_succ,List.any_append,List.any_cons,List.any_nil,Bool.or_false,h,Bool.true_and,hm]
 by_cases e:m=i
 ·subst e;simp
 ·rw[if_neg e,decide_eq_false (by omega),Bool.or_false]
theorem FJ{k x:Int}{n:Nat}(hn:n<N):(uV T (bz T k x) N (2*T.ag.length)).getD n false=rG T k x n:=by
 unfold uV rG
 simp[hn]
end
set_option maxHeartbeats 4000000 in
theorem mf(T:an)(k x:Int)(l:List Int)(hl:l.length≤1000):Can Tryz.prog 25 [aJ T,bY k x,aw l] (· =flag (gF T k x l)):=by
  obtain⟨q1,hq1⟩:∃q,decide (cQ T k x≠0)=q:=⟨_,rfl⟩
  obtain⟨q2,hq2⟩:∃q,decide ((l.length:Int)≠T.nodes)=q:=⟨_,rfl⟩
  have hme:cQ T k x=if(av T&&cc T k x)=true then 0 else 1:=rfl
  refine aF Tryz.func25 rfl Tryz.ntmps25 rfl<|ab (.a 3 rfl<|.k [2,3,4] rfl)<|ab (.a 2 rfl<|.c rfl (kY T k x) rfl<|.a 5 rfl<|.k [2,3,4,7,8] rfl)<|aj<|bx 30 (.raw (.bool (q1||q2))) [2,3,4,7] rfl ?_ ?_
  · refine .a 1 rfl<|.v (b7 rfl (hq1)) rfl<|.a 1 rfl<|?_
    cases q1
    · exact .a 3 rfl<|.v (aK rfl (rfl)) rfl<|.v (b7 rfl (hq2)) rfl<|.a 1 rfl<|.k [30,2,3,4,7] rfl
    · exact .a 6 rfl<|.k [30,2,3,4,7] rfl
  refine af rfl (fun hc=>?_) (fun hc=>?_)
  · have hno:gF T k x l=false:=by
      unfold gF
      split
      · rename_i h
        exfalso
        obtain⟨h1,h2⟩:=Bool.and_eq_true_iff.1 h
        rw[if_pos h1]at hme
        rw[←hq1,←hq2,hme]at hc
        simp only[ne_eq,not_true_eq_false,decide_false,Bool.false_or,decide_eq_true_eq]at hc h2
        exact hc h2
      · rfl
    exact ab (.a 1 rfl<|.k [6] rfl)<|ao<|⟨_,_,aA.of rfl,ax.pure,by rw[hno];rfl⟩
  · obtain ⟨rfl, rfl⟩ := Bool.or_eq_false_iff.1 hc
    have hvc:(av T&&cc T k x)=true:=by
      cases h:(av T&&cc T k x)with
      |true=>rfl
      |false=>rw[if_neg (by rw[h];decide)]at hme;exact absurd (ff hq1) (by rw[hme];decide)
    have hln:(l.length:Int)=T.nodes:=by have:=ff hq2;simpa using this
    have hP:gF T k x l=(ek k x (fun n=>rF (iz l n)) l.length&&(ek k x (fun n=>tv (rG T k x n) (iz l n)) l.length||ek k x (fun n=>tS (iz l n)) l.length)):=by
      unfold gF
      rw[if_pos (by rw[hvc,decide_eq_true hln];rfl)]
    have hv:=(Bool.and_eq_true_iff.1 hvc).1
    have hMl:=gS T k x
    have hll:=bJ hv
    rw[if_pos hvc]at hme
    rw[hme]
    simp only[if_true]
    obtain⟨M,hM⟩:∃M,bz T k x=M:=⟨_,rfl⟩
    obtain⟨N,hN⟩:∃N:Nat,l.length=N:=⟨_,rfl⟩
    have hTN:T.nodes=(N:Int):=by omega
    rw[hM]at hMl ⊢
    refine ak<|aH<|aq 1 rfl<|bA (aK rfl ((show some (num T.nodes)=some (num (N:Int)) by rw[hTN]))) rfl<|cf (cF rfl (bF.rk.get rfl) rfl rfl (rfl:(N:Int)=(N:Int)) (rfl:(N:Int)=(N:Int)) ⟨by unfold maxLen;omega,by omega⟩) rfl<|aq 1 rfl<|aD [2,3,4,7,9] rfl ?_
    refine ei (σ':=[some (.row 4 1 N (bS (uV T M N 0)))]) (by rw[Cg,←gZ];rfl) ?_
    refine aj<|ab (.a 3 rfl<|.k [2,3,4,9,34,35,36] rfl)<|au<|ee [2,3,4,9,34,35,36] rfl<|bf (fun r st=>∃a,a≤M.length∧r=M.length - a∧st=⟨[(2,aw l),(3,.aX (bn T) 0),(4,.aX (cw k x) 0),(9,.own 0),(34,aM M),(35,num M.length),(36,num a)],[some (.row 4 1 N (bS (uV T M N a)))]⟩) M.length ⟨0,by omega,by omega,rfl⟩ ?_
    rintro r st ⟨a,ha,rfl,rfl⟩
    refine ab (.a 1 rfl<|.k [2,3,4,9,34,35,36,37] rfl)<|aj<|af rfl (fun hc=>?_) (fun hc=>?_)
    · have hlt:a<M.length:=by have:=tt hc;omega
      obtain⟨b,hb⟩:∃b,aW M a=b:=⟨_,rfl⟩
      obtain⟨m,hm⟩:=Int.eq_ofNat_of_zero_le ((aQ hv).tail a (by omega)).1
      have hmN:=((aQ hv).tail a (by omega)).2
      refine ak<|aj<|au<|ab (.a 1 rfl<|.v (aI (a) rfl) rfl<|.v (aK rfl ((cG M a hlt).trans (by rw[show M.getD a false=b from hb]))) rfl<|.a 2 rfl<|.k [2,3,4,9,10,11,34,35,36] rfl)<|ab (.a 1 rfl<|.k [2,3,4,9,10,34,35,36,41] rfl)<|af rfl (fun hc=>?_) (fun hc=>?_)
      · have hst:=Eo (N:=N) (hb.trans hc) hm
        have hcl:=zz (T:=T) (M:=M) (N:=N) (a:=a)
        refine bq<|aq 3 rfl<|dJ rfl ((show Can Tryz.prog 79 [aJ T,num a] (· =num m) by have h:=jk T a (by omega);rw[hm]at h;exact h)) rfl<|bA (aI (m) rfl) rfl<|bh ((by first|exact bH rfl (bF.tk.get rfl) rfl rfl rfl (by first|omega|(simp;omega))|exact aS rfl (bF.tk.get rfl) rfl rfl rfl (by first|omega|(simp;omega)))) rfl rfl<|aD [2,3,4,9,34,35,36] rfl ?_
        refine aB (.v (aP rfl) rfl<|.a 1 rfl<|.k [2,3,4,9,34,35,36] rfl) ?_
        exact⟨M.length - (a+1),by omega,a+1,by omega,rfl,by rw[hst];rfl⟩
      · have hst:=Hd (T:=T) (N:=N) (hb.trans hc)
        refine ak<|aB (.v (aP rfl) rfl<|.a 1 rfl<|.k [2,3,4,9,34,35,36] rfl) ?_
        exact⟨M.length - (a+1),by omega,a+1,by omega,rfl,by rw[hst];rfl⟩
    · have hae:a=M.length:=by have:=ff hc;omega
      refine aY<|ab (.a 2 rfl<|.k [2,4,9,12,13] rfl)<|aj<|ab (.a 3 rfl<|.k [4,9,12,13,48,49,50] rfl)<|au<|ee [4,9,12,13,48,49,50] rfl<|bf (fun r st=>∃i,i≤l.length∧ek k x (fun n=>rF (iz l n)) i=true∧r=l.length - i∧st=⟨[(4,.aX (cw k x) 0),(9,.own 0),(12,flag (ek k x (fun n=>tv (rG T k x n) (iz l n)) i)),(13,flag (ek k x (fun n=>tS (iz l n)) i)),(48,aw l),(49,num l.length),(50,num i)],[some (.row 4 1 N (bS (uV T M N a)))]⟩) l.length ⟨0,by omega,rfl,by omega,rfl⟩ ?_
      rintro r st ⟨i,hi,hO0,rfl,rfl⟩
      have hcc:∀n,n<N→(uV T M N a).getD n false=rG T k x n:=fun n hn=>by rw[hae,hMl,←hM];exact FJ hn
      have hcl:=zz (T:=T) (M:=M) (N:=N) (a:=a)
      have hE:=iQ k x (fun n=>tv (rG T k x n) (iz l n)) i
      have hL:=iQ k x (fun n=>tS (iz l n)) i
      have hO:=iQ k x (fun n=>rF (iz l n)) i
      obtain⟨eb,heb⟩:∃b,ek k x (fun n=>tv (rG T k x n) (iz l n)) i=b:=⟨_,rfl⟩
      obtain⟨lb,hlb⟩:∃b,ek k x (fun n=>tS (iz l n)) i=b:=⟨_,rfl⟩
      rw[heb]at hE ⊢
      rw[hlb]at hL ⊢
      rw[hO0]at hO
      refine ab (.a 1 rfl<|.k [4,9,12,13,48,49,50,51] rfl)<|aj<|af rfl (fun hc=>?_) (fun hc=>?_)
      · have hlt:i<l.length:=by have:=tt hc;omega
        obtain⟨g,hg⟩:∃g,uO k x i=g:=⟨_,rfl⟩
        obtain⟨c,hcb⟩:∃c,rG T k x i=c:=⟨_,rfl⟩
        have hci:=(hcc i (by omega)).trans hcb
        have hilt:i<N:=by omega
        obtain⟨s,hs⟩:∃s,iz l i=s:=⟨_,rfl⟩
        have hsl:l.getD i 0=s:=hs
        simp only[hg,hcb,hs]at hE hL hO
        refine ak<|aj<|au<|ab (.a 1 rfl<|.v (aI (i) rfl) rfl<|.v (aK rfl ((ay l i hlt).trans (by rw[hsl]))) rfl<|.a 2 rfl<|.k [4,9,12,13,14,15,48,49,50] rfl)<|aj<|ab (.a 2 rfl<|.c rfl (hg▸sc k x i) rfl<|.k [4,9,12,13,14,15,48,49,50,57] rfl)<|af rfl (fun hc=>?_) (fun hc=>?_)
        · rw[hc,Bool.true_or,Bool.and_true]at hE hL hO
          refine jF (bd (ks:=[4,9,12,13,48,49,50]) rfl) ?_
          refine aY<|aB (.v (aP rfl) rfl<|.a 1 rfl<|.k [4,9,12,13,48,49,50] rfl) ?_
          exact⟨l.length - (i+1),by omega,i+1,by omega,hO,rfl,by rw[hE,hL];rfl⟩
        · have hg0:uO k x i=false:=hg.trans hc
          rw[hc,Bool.false_or]at hE hL hO
          refine ak<|ab (.a 1 rfl<|.k [4,9,12,13,14,48,49,50,58] rfl)<|au<|ab (.a 2 rfl<|.k [4,9,12,13,14,48,49,50,58,59] rfl)<|af rfl (fun hc=>?_) (fun hc=>?_)
          · have hs0:s=0:=tt hc
            subst hs0
            replace hE:ek k x (fun n=>tv (rG T k x n) (iz l n)) (i+1)=(eb&& !c):=by rw[hE];simp[tv]
            replace hL:ek k x (fun n=>tS (iz l n)) (i+1)=false:=by rw[hL];simp[tS]
            replace hO:ek k x (fun n=>rF (iz l n)) (i+1)=true:=by rw[hO];rfl
            refine ab (.a 1 rfl<|.k [4,9,12,13,14,48,49,50] rfl)<|qW 12 (.raw (.bool (eb&& !c))) [4,9,13,48,49,50] rfl ?_ ?_
            · refine .a 2 rfl<|?_
              cases eb
              · exact .a 7 rfl<|.k [12,4,9,13,48,49,50] rfl
              · exact .a 2 rfl<|.v (aI (i) rfl) rfl<|.v (aK rfl ((cG _ i (by rw[hcl];exact hilt)).trans (by rw[hci];try rfl))) rfl<|.a 3 rfl<|.k [12,4,9,13,48,49,50] rfl
            refine aB (.v (aP rfl) rfl<|.a 1 rfl<|.k [4,9,12,13,48,49,50] rfl) ?_
            exact⟨l.length - (i+1),by omega,i+1,by omega,hO,rfl,by rw[hE,hL];rfl⟩
          · have n0:¬s=0:=ff hc
            refine ab (.a 2 rfl<|.k [4,9,12,13,14,48,49,50,58,69] rfl)<|af rfl (fun hc=>?_) (fun hc=>?_)
            · have hs0:s=1:=tt hc
              subst hs0
              replace hE:ek k x (fun n=>tv (rG T k x n) (iz l n)) (i+1)=(eb&&c):=by rw[hE];simp[tv]
              replace hL:ek k x (fun n=>tS (iz l n)) (i+1)=false:=by rw[hL];simp[tS]
              replace hO:ek k x (fun n=>rF (iz l n)) (i+1)=true:=by rw[hO];rfl
              refine ab (.a 1 rfl<|.k [4,9,12,13,14,48,49,50] rfl)<|qW 12 (.raw (.bool (eb&&c))) [4,9,13,48,49,50] rfl ?_ ?_
              · refine .a 2 rfl<|?_
                cases eb
                · exact .a 6 rfl<|.k [12,4,9,13,48,49,50] rfl
                · exact .a 2 rfl<|.v (aI (i) rfl) rfl<|.v (aK rfl ((cG _ i (by rw[hcl];exact hilt)).trans (by rw[hci];try rfl))) rfl<|.a 2 rfl<|.k [12,4,9,13,48,49,50] rfl
              refine aB (.v (aP rfl) rfl<|.a 1 rfl<|.k [4,9,12,13,48,49,50] rfl) ?_
              exact⟨l.length - (i+1),by omega,i+1,by omega,hO,rfl,by rw[hE,hL];rfl⟩
            · have n1:¬s=1:=ff hc
              refine ab (.a 2 rfl<|.k [4,9,12,13,48,49,50,58,78] rfl)<|af rfl (fun hc=>?_) (fun hc=>?_)
              · have hs0:s=2:=tt hc
                subst hs0
                replace hE:ek k x (fun n=>tv (rG T k x n) (iz l n)) (i+1)=eb:=by rw[hE];simp[tv]
                replace hL:ek k x (fun n=>tS (iz l n)) (i+1)=lb:=by rw[hL];simp[tS]
                replace hO:ek k x (fun n=>rF (iz l n)) (i+1)=true:=by rw[hO];rfl
                refine ak<|aB (.v (aP rfl) rfl<|.a 1 rfl<|.k [4,9,12,13,48,49,50] rfl) ?_
                exact⟨l.length - (i+1),by omega,i+1,by omega,hO,rfl,by rw[hE,hL];rfl⟩
              · have n2:¬s=2:=ff hc
                refine ab (.a 2 rfl<|.k [4,9,13,48,49,50,80] rfl)<|af rfl (fun hc=>?_) (fun hc=>?_)
                · have hs0:s=3:=tt hc
                  subst hs0
                  replace hE:ek k x (fun n=>tv (rG T k x n) (iz l n)) (i+1)=false:=by rw[hE];simp[tv]
                  replace hL:ek k x (fun n=>tS (iz l n)) (i+1)=lb:=by rw[hL];simp[tS]
                  replace hO:ek k x (fun n=>rF (iz l n)) (i+1)=true:=by rw[hO];rfl
                  refine aB (.a 1 rfl<|.k [4,9,12,13,48,49,50] rfl) ?_
                  refine aB (.v (aP rfl) rfl<|.a 1 rfl<|.k [4,9,12,13,48,49,50] rfl) ?_
                  exact⟨l.length - (i+1),by omega,i+1,by omega,hO,rfl,by rw[hE,hL];rfl⟩
                · have n3:¬s=3:=ff hc
                  refine ab (.a 1 rfl<|.k [6] rfl)<|ao ?_
                  have hbad:ek k x (fun n=>rF (iz l n)) l.length=false:=by
                    refine w7 hlt hg0 ?_
                    show rF (iz l i)=false
                    rw[hs]
                    unfold rF
                    by_cases h1:0≤s
                    · rw[decide_eq_false (by omega:¬s≤3),Bool.and_false]
                    · rw[decide_eq_false h1,Bool.false_and]
                  exact⟨_,_,aA.of rfl,ax.pure,by rw[hP,hbad];rfl⟩
      · have hie:i=l.length:=by have:=ff hc;omega
        subst hie
        refine aY<|bx 6 (.raw (.bool (eb||lb))) [] rfl ?_ ?_
        · refine .a 2 rfl<|?_
          cases eb
          · exact .a 3 rfl<|.k [6] rfl
          · exact .a 3 rfl<|.k [6] rfl
        exact ao<|⟨_,_,aA.of rfl,ax.pure,by rw[hP,hO0,heb,hlb];rfl⟩
end PW
end Go.Proofs.YtnegbdpggideiaaGreatDoor
namespace Go.Proofs.YtnegbdpggideiaaGreatDoor
namespace PW
open Go.RowKit cH Mem Net
def i7(s:List cq):Prop:=∀g∈s,0≤g.kind∧g.kind<100∧0≤g.num∧g.num<100
def D9(g:cq):List UInt8:=32::(Lib.decDigits g.kind.toNat++58::Lib.decDigits g.num.toNat)
def dV(n:Nat)(s:List cq):List UInt8:=Lib.decDigits n++s.flatMap D9
def BW(c:UInt8):Prop:=48≤c.toNat∧c.toNat≤57
theorem mj{n:Nat}(h:n<100):∀c∈Lib.decDigits n,BW c:=by
 intro c hc
 by_cases h1:n<10
 ·rw[Lib.decDigits_one h1,List.mem_singleton]at hc
  subst hc
  unfold BW
  rw[UInt8.toNat_ofNat']
  omega
 ·rw[Lib.decDigits_two h1 h]at hc
  simp only[List.mem_cons,List.not_mem_nil,or_false]at hc
  rcases hc with rfl|rfl<;>(unfold BW;rw[UInt8.toNat_ofNat'];omega)
theorem ofNat_inj{a b:Nat}(ha:a<256)(hb:b<256)(h:UInt8.ofNat a=UInt8.ofNat b):a=b:=by
 have:=congrArg UInt8.toNat h
 rw[UInt8.toNat_ofNat',UInt8.toNat_ofNat']at this
 omega
theorem tu{m n:Nat}(hm:m<100)(hn:n<100)(h:Lib.decDigits m=Lib.decDigits n):m=n:=by
 by_cases h1:m<10<;>by_cases h2:n<10
 ·rw[Lib.decDigits_one h1,Lib.decDigits_one h2]at h
  have:=ofNat_inj (by omega) (by omega) (List.cons.inj h).1
  omega
 ·rw[Lib.decDigits_one h1,Lib.decDigits_two h2 hn]at h
  cases(List.cons.inj h).2
 ·rw[Lib.decDigits_two h1 hm,Lib.decDigits_one h2]at h
  cases(List.cons.inj h).2
 ·rw[Lib.decDigits_two h1 hm,Lib.decDigits_two h2 hn]at h
  have e1:=ofNat_inj (by omega) (by omega) (List.cons.inj h).1
  have e2:=ofNat_inj (by omega) (by omega) (List.cons.inj (List.cons.inj h).2).1
  omega
theorem kJ{n:Nat}(h:n<100):(Lib.decDigits n).length≤2∧0<(Lib.decDigits n).length:=by
 by_cases h1:n<10
 ·rw[Lib.decDigits_one h1];simp
 ·rw[Lib.decDigits_two h1 h];simp
theorem mr:∀(A B X Y:List UInt8),(∀c∈A,BW c)→(∀c∈B,BW c)→(∀c Z,X=c::Z→¬BW c)→(∀c Z,Y=c::Z→¬BW c)→A++X=B++Y→A=B∧X=Y
 | [],[],X,Y,_,_,_,_,h=>⟨rfl,h⟩
 | [],b::B,X,Y,_,hB,hX,_,h=>absurd (hB b (by simp)) (hX b (B++Y) h)
 |a::A,[],X,Y,hA,_,_,hY,h=>absurd (hA a (by simp)) (hY a (A++X) h.symm)
 |a::A,b::B,X,Y,hA,hB,hX,hY,h=>by
  obtain⟨h1,h2⟩:=List.cons.inj h
  obtain⟨h3,h4⟩:=mr A B X Y (fun c hc=>hA c (by simp[hc])) (fun c hc=>hB c (by simp[hc])) hX hY h2
  exact⟨by rw[h1,h3],h4⟩
theorem lW{s:List cq}:∀c Z,s.flatMap D9=c::Z→¬BW c:=by
 intro c Z h
 cases s with
 |nil=>cases h
 |cons g s=>
  rw[List.flatMap_cons]at h
  have:=(List.cons.inj h).1
  subst this
  unfold BW
  decide
theorem wb:∀ {s s':List cq},i7 s→i7 s'→s.flatMap D9=s'.flatMap D9→s=s'
 | [],[],_,_,_=>rfl
 | [],g::s',_,_,h=>by rw[List.flatMap_cons]at h;cases h
 |g::s,[],_,_,h=>by rw[List.flatMap_cons]at h;cases h
 |g::s,g'::s',h1,h2,h=>by
  obtain⟨a1,a2,a3,a4⟩:=h1 g (by simp)
  obtain⟨b1,b2,b3,b4⟩:=h2 g' (by simp)
  rw[List.flatMap_cons,List.flatMap_cons]at h
  unfold D9 at h
  rw[List.cons_append,List.cons_append,List.append_assoc,List.append_assoc]at h
  obtain⟨e1,e2⟩:=mr _ _ _ _ (mj (by omega)) (mj (by omega)) (fun c Z h=>by rw[List.cons_append]at h;have:=(List.cons.inj h).1;subst this;unfold BW;decide) (fun c Z h=>by rw[List.cons_append]at h;have:=(List.cons.inj h).1;subst this;unfold BW;decide) (List.cons.inj h).2
  rw[List.cons_append,List.cons_append]at e2
  obtain⟨e3,e4⟩:=mr _ _ _ _ (mj (by omega)) (mj (by omega)) (lW (s:=s)) (lW (s:=s')) (List.cons.inj e2).2
  have k1:=tu (by omega) (by omega) e1
  have k2:=tu (by omega) (by omega) e3
  have k3:=wb (fun x hx=>h1 x (by simp[hx])) (fun x hx=>h2 x (by simp[hx])) e4
  obtain⟨gk,gn⟩:=g
  obtain⟨gk',gn'⟩:=g'
  simp only at a1 b1 a3 b3 k1 k2
  rw[k3,show gk=gk' by omega,show gn=gn' by omega]
theorem Dh{n n':Nat}{s s':List cq}(hn:n<100)(hn':n'<100)(h1:i7 s)(h2:i7 s')(h:dV n s=dV n' s'):n=n'∧s=s':=by
 unfold dV at h
 obtain⟨e1,e2⟩:=mr _ _ _ _ (mj hn) (mj hn') (lW (s:=s)) (lW (s:=s')) h
 exact⟨tu hn hn' e1,wb h1 h2 e2⟩
theorem DI{s:List cq}(h:i7 s):(s.flatMap D9).length≤s.length*6:=by
 induction s with
 |nil=>simp
 |cons g s ih=>
  obtain⟨a1,a2,a3,a4⟩:=h g (by simp)
  have:=ih (fun x hx=>h x (by simp[hx]))
  have h1:=kJ (n:=g.kind.toNat) (by omega)
  have h2:=kJ (n:=g.num.toNat) (by omega)
  have h3:(D9 g).length=2+(Lib.decDigits g.kind.toNat).length+(Lib.decDigits g.num.toNat).length:=by
   unfold D9
   simp only[List.length_cons,List.length_append]
   omega
  rw[List.flatMap_cons,List.length_append,h3,List.length_cons]
  omega
end PW
end Go.Proofs.YtnegbdpggideiaaGreatDoor
namespace Go.Proofs.YtnegbdpggideiaaGreatDoor
namespace PW
open Go.RowKit cH Mem Net ft
noncomputable def cd(T:an)(tb:Nat→eD)(p0:ia)(n:Nat)(s:List cq):Out:=mO T (tb n) (fZ p0 s)
structure oW (T:an) (tb:Nat→eD) (p0:ia) (Φ:Nat→Nat→List cq→Prop):Prop where
 node:∀ {u n s},Φ u n s→(n:Int)<T.nodes
 small:∀ {u n s},Φ u n s→i7 s∧s.length≤1000
 step:∀ {u n s},Φ u n s→(cd T tb p0 n s).aR=[]∨((cd T tb p0 n s).aR.length≤1000∧cd T tb p0 n s=eG (fZ p0 s) (cd T tb p0 n s).fu.stack (cd T tb p0 n s).aR∧
  ∀a∈(cd T tb p0 n s).aR,∃b m:Nat,a=(b:Int)∧b<2*T.ag.length∧bb T b=(m:Int)∧∃u',u'<u∧Φ u' m (cd T tb p0 n s).fu.stack)
def IL(cs:List Int):Int:=cs.foldl (fun a c=>min (a+c) 1001) 0
def jt(aR:List Int)(cs:List Int):Int:=if aR=[] then 1 else IL cs
def dE(n:Nat)(o:Out)(vs:List PV)(c:Int):List PV:=[num n,num o.dW,aw o.aR,.slice vs.length vs,flag false,num c]
inductive Good (T:an) (tb:Nat→eD) (p0:ia) (Φ:Nat→Nat→List cq→Prop):PV→Nat→List cq→Int→Prop
 |mk {n:Nat} {s:List cq} {vs:List PV} {cs:List Int} {u:Nat}:Φ u n s→vs.length=(cd T tb p0 n s).aR.length→cs.length=(cd T tb p0 n s).aR.length→
   (∀i,i<(cd T tb p0 n s).aR.length→Good T tb p0 Φ (vs.getD i .any) (bb T ((cd T tb p0 n s).aR.getD i 0).toNat).toNat (cd T tb p0 n s).fu.stack (cs.getD i 0))→
   Good T tb p0 Φ (.aX (dE n (cd T tb p0 n s) vs (jt (cd T tb p0 n s).aR cs)) 0) n s (jt (cd T tb p0 n s).aR cs)
theorem wF(cs:List Int)(c:Int):IL (cs++[c])=min (IL cs+c) 1001:=by simp[IL]
section
variable {T:an} {tb:Nat→eD} {p0:ia} {Φ:Nat→Nat→List cq→Prop}
theorem mq:∀(cs:List Int) (b:Int),0≤b→b≤1001→(∀c∈cs,0≤c)→0≤cs.foldl (fun a c=>min (a+c) 1001) b∧cs.foldl (fun a c=>min (a+c) 1001) b≤1001
 | [],b,h1,h2,_=>⟨h1,h2⟩
 |c::cs,b,h1,h2,h3=>by
  have:=h3 c (by simp)
  exact mq cs (min (b+c) 1001) (by omega) (by omega) (fun x hx=>h3 x (by simp[hx]))
theorem Good.bound{v:PV}{n:Nat}{s:List cq}{c:Int}(h:Good T tb p0 Φ v n s c):0≤c∧c≤1001:=by
 induction h with
 | @mk n s vs cs u _ _ h2 _ ih=>
  unfold jt
  split
  ·omega
  ·refine mq cs 0 (by omega) (by omega) fun c hc=>?_
   obtain⟨i,hi⟩:=List.getElem?_of_mem hc
   have hlt:=(List.getElem?_eq_some_iff.1 hi).1
   have:=(ih i (by rw[←h2];exact hlt)).1
   rw[List.getD_eq_getElem?_getD,hi]at this
   exact this
theorem Good.state{v:PV}{n:Nat}{s:List cq}{c:Int}(h:Good T tb p0 Φ v n s c):∃u,Φ u n s:=by
 cases h with
 |mk h _ _ _=>exact⟨_,h⟩
theorem Good.pure{v:PV}{n:Nat}{s:List cq}{c:Int}(h:Good T tb p0 Φ v n s c):IsPure v:=by
 induction h with
 | @mk n s vs cs u _ h1 _ _ ih=>
  haveI:aL vs:=⟨fun i x hx=>by
   have hlt:=(List.getElem?_eq_some_iff.1 hx).1
   have:=ih i (by rw[←h1];exact hlt)
   rw[List.getD_eq_getElem?_getD,hx]at this
   exact this⟩
  unfold dE
  infer_instance
theorem Good.parts{v:PV}{n:Nat}{s:List cq}{c:Int}(h:Good T tb p0 Φ v n s c):∃vs cs,v= .aX (dE n (cd T tb p0 n s) vs c) 0∧vs.length=(cd T tb p0 n s).aR.length∧cs.length=(cd T tb p0 n s).aR.length∧c=jt (cd T tb p0 n s).aR cs∧
  ∀i,i<(cd T tb p0 n s).aR.length→Good T tb p0 Φ (vs.getD i .any) (bb T ((cd T tb p0 n s).aR.getD i 0).toNat).toNat (cd T tb p0 n s).fu.stack (cs.getD i 0):=by
 cases h with
 | @mk _ _ vs cs u h1 h2 h3 h4=>exact⟨vs,cs,rfl,h2,h3,rfl,h4⟩
inductive FW (T:an) (tb:Nat→eD) (p0:ia):Nat→List cq→Nat→List cq→Prop
 |one {n m:Nat} {s:List cq} {a:Int}:a∈(cd T tb p0 n s).aR→bb T a.toNat=(m:Int)→FW T tb p0 n s m (cd T tb p0 n s).fu.stack
 |more {n m:Nat} {s:List cq} {a:Int} {n':Nat} {s':List cq}:FW T tb p0 n' s' n s→a∈(cd T tb p0 n s).aR→bb T a.toNat=(m:Int)→FW T tb p0 n' s' m (cd T tb p0 n s).fu.stack
theorem oW.one(R:oW T tb p0 Φ){u n m:Nat}{s:List cq}{a:Int}(h:Φ u n s)(ha:a∈(cd T tb p0 n s).aR)(hm:bb T a.toNat=(m:Int)):∃u',u'<u∧Φ u' m (cd T tb p0 n s).fu.stack:=by
 rcases R.step h with h0|⟨_,_,h2⟩
 ·rw[h0]at ha;cases ha
 ·obtain⟨b,m',rfl,_,h3,u',h4,h5⟩:=h2 a ha
  rw[Int.toNat_natCast,h3]at hm
  have:m'=m:=by omega
  subst this
  exact⟨u',h4,h5⟩
theorem oW.JI(R:oW T tb p0 Φ){n m:Nat}{s s':List cq}(h:FW T tb p0 n s m s'):∀ {u:Nat},Φ u n s→∃u',u'<u∧Φ u' m s':=by
 induction h with
 |one ha hm=>intro u hu;exact R.one hu ha hm
 |more _ ha hm ih=>
  intro u hu
  obtain⟨u1,h1,h2⟩:=ih hu
  obtain⟨u2,h3,h4⟩:=R.one h2 ha hm
  exact⟨u2,by omega,h4⟩
theorem oW.B6(R:oW T tb p0 Φ){n:Nat}{s:List cq}(h:FW T tb p0 n s n s):∀ {u:Nat},Φ u n s→False:=by
 intro u
 induction u using Nat.strongRecOn with
 |_ u ih=>
  intro hu
  obtain⟨u',h1,h2⟩:=R.JI h hu
  exact ih u' h1 h2
end
end PW
end Go.Proofs.YtnegbdpggideiaaGreatDoor
namespace Go.Proofs.YtnegbdpggideiaaGreatDoor
namespace PW
open Go.RowKit cH Mem
inductive BI (i:Nat):db→PV→PV→Prop
 |same {blk:db} (p:PV):BI i blk p p
 |ptr {ty:TypeId} {xs:List PV} (off:Nat):BI i (.cells ty xs) (.ptr i off) (.aX xs off)
 |own {e s n:Nat} {xs:List PV}:BI i (.row e s n xs) (.own i) (.slice n xs)
def kE(i:Nat)(blk:db)(xs ys:List PV):Prop:=ys.length=xs.length∧∀(j:Nat) x y,xs[j]? =some x→ys[j]? =some y→BI i blk x y
theorem kE.nil{i:Nat}{blk:db}:kE i blk [] []:=⟨rfl,fun j x y h=>by simp at h⟩
theorem kE.cons{i:Nat}{blk:db}{x y:PV}{xs ys:List PV}(h:BI i blk x y)(hs:kE i blk xs ys):kE i blk (x::xs) (y::ys):=⟨by simp[hs.1],fun j a b h1 h2=>by
 cases j with
 |zero=>simp at h1 h2;subst h1;subst h2;exact h
 |succ j=>exact hs.2 j a b (by simpa using h1) (by simpa using h2)⟩
theorem kE.refl{i:Nat}{blk:db}(xs:List PV):kE i blk xs xs:=⟨rfl,fun j x y h1 h2=>by rw[h1]at h2;cases h2;exact .same _⟩
inductive tH (i:Nat) (blk:db):db→db→Prop
 |same (b:db):tH i blk b b
 |cells {ty:TypeId} {xs ys:List PV}:kE i blk xs ys→tH i blk (.cells ty xs) (.cells ty ys)
 |row {e s n:Nat} {xs ys:List PV}:kE i blk xs ys→tH i blk (.row e s n xs) (.row e s n ys)
 |mp {kv kv':List (Value×PV)}:kv'.map (·.1)=kv.map (·.1)→kE i blk (kv.map (·.2)) (kv'.map (·.2))→tH i blk (.mp kv) (.mp kv')
def CK(i:Nat)(blk:db)(σ σ':cg):Prop:=σ'.length=σ.length∧(σ'[i]? =some none)∧∀j,j≠i→(σ'[j]? =σ[j]? ∨∃b b',σ[j]? =some (some b)∧σ'[j]? =some (some b')∧tH i blk b b')
inductive yk (i:Nat) (blk:db) (t:b9):b9→Prop
 |nil:yk i blk t []
 |cons {t':b9} (k:Nat) {p q:PV}:look k t=some p→BI i blk p q→yk i blk t t'→yk i blk t ((k,q)::t')
theorem yk.get{i:Nat}{blk:db}{t t':b9}(h:yk i blk t t'):∀k q,look k t'=some q→∃p,look k t=some p∧BI i blk p q:=by
 induction h with
 |nil=>intro k q h;cases h
 |cons k h1 h2 _ ih=>
  intro j q hj
  simp only[look]at hj
  rw[Bool.cond_eq_ite]at hj
  split at hj
  ·rename_i he
   have:=Nat.eq_of_beq_eq_true he
   subst this
   cases hj
   exact⟨_,h1,h2⟩
  ·exact ih j q hj
section
variable {P:Program} {N L:Nat} {F:Nat→Prop} {base:Nat} {σ σ':cg} {E:Env} {w:World}
theorem BI.rep(hS:Sat F base σ E w){i:Nat}{blk:db}(hi:σ[i]? =some (some blk)){p q:PV}(h:BI i blk p q):∀v,cD E w v p→cD (E.kill i) w v q:=by
 obtain⟨_,g⟩:=hS.kill i hi
 intro v hv
 cases h with
 |same _=>exact hv.goes g
 |own=>exact hS.seal hi hv
 | @ptr ty xs off=>
  obtain⟨b,cs,h1,h2,h3,h4⟩:=hS.blk i _ hi
  cases hv with
  |ptr _ _ b' hi' h=>
   have hb:b'=b:=by
    rcases h with h|⟨n,c,h⟩<;>rw[h1]at h<;>cases h
    rfl
   subst hb
   have:=cD.aX (E:=E.kill i) (w:=w) b' 0 off cs.toList xs (Array.getElem?_eq_some_iff.1 h3).1 (fun hM=>hM.2 (by rw[h1];rfl)) (fun j x hx=>by rw[Nat.zero_add];unfold World.cell?;simp only[h3];simpa using hx) h4.1 (fun j x u k1 k2=>(h4.2 j x u k1 k2).goes g)
   rw[Nat.zero_add]at this
   exact this
theorem kE.rep(hS:Sat F base σ E w){i:Nat}{blk:db}(hi:σ[i]? =some (some blk)){xs ys:List PV}(h:kE i blk xs ys){cs:List Value}(hs:aZ E w cs xs):aZ (E.kill i) w cs ys:=
 ⟨hs.1.trans h.1.symm,fun j x u k1 k2=>by
  have hj:j<xs.length:=by rw[←h.1];exact(List.getElem?_eq_some_iff.1 k2).1
  exact(h.2 j xs[j] u (by simp[hj]) k2).rep hS hi x (hs.2 j x _ k1 (by simp[hj]))⟩
theorem tH.sat(hS:Sat F base σ E w){i:Nat}{blk:db}(hi:σ[i]? =some (some blk)){b b':db}(h:tH i blk b b'){v:Value}(hb:gd base E w v b):gd base (E.kill i) w v b':=by
 obtain⟨_,g⟩:=hS.kill i hi
 cases h with
 |same _=>exact hb.goes g (fun _ _=>rfl)
 |cells hl=>
  obtain⟨b',cs,h1,h2,h3,h4⟩:=hb
  exact⟨b',cs,h1,h2,h3,hl.rep hS hi h4⟩
 |row hl=>
  obtain⟨cs,h1,h2⟩:=hb
  exact⟨cs,h1,hl.rep hS hi h2⟩
 |mp hk hl=>
  obtain⟨r,es,ck,h1,h2,h3,h4,h5⟩:=hb
  exact⟨r,es,ck,h1,h2,h3,h4.trans hk.symm,hl.rep hS hi h5⟩
theorem s9{i:Nat}{blk:db}(hi:σ[i]? =some (some blk))(h:CK i blk σ σ'){j:Nat}{b':db}(hj:σ'[j]? =some (some b')):j≠i∧∃b,σ[j]? =some (some b)∧tH i blk b b':=by
 have hne:j≠i:=fun e=>by subst e;rw[h.2.1]at hj;cases hj
 refine⟨hne,?_⟩
 rcases h.2.2 j hne with h|⟨b,b2,h1,h2,h3⟩
 ·rw[h]at hj;exact⟨b',hj,.same _⟩
 ·rw[h2]at hj;cases hj;exact⟨b,h1,h3⟩
theorem Sat.Jk(hS:Sat F base σ E w){i:Nat}{blk:db}(hi:σ[i]? =some (some blk))(h:CK i blk σ σ'):Sat F base σ' (E.kill i) w:=by
 obtain⟨h1,g⟩:=hS.kill i hi
 have key:∀ {j:Nat} {b':db},σ'[j]? =some (some b')→∃b,(σ.set i none)[j]? =some (some b):=fun {j b'} hj=>by
  obtain⟨hne,b,hb,_⟩:=s9 hi h hj
  exact⟨b,by rw[List.getElem?_set,if_neg (Ne.symm hne)];exact hb⟩
 refine⟨h1.bl,fun b hb=>⟨(h1.fb b hb).1,fun j bl hj=>?_⟩,?_,fun b=>?_,fun j bl hj=>?_,fun j k bj bk b hj hk e1 e2=>?_,h1.gl⟩
 ·obtain⟨b2,hb2⟩:=key hj;exact(h1.fb b hb).2 j b2 hb2
 ·rw[h1.len,h.1,List.length_set]
 ·constructor
  ·intro hM
   rcases(h1.mm b).1 hM with hf|⟨j,bl,h3,h4⟩
   ·exact .inl hf
   ·obtain⟨hne,h5⟩:=hZ h3
    rcases h.2.2 j hne with h6|⟨b1,b2,_,h7,_⟩
    ·exact .inr ⟨j,bl,by rw[h6];exact h5,h4⟩
    ·exact .inr ⟨j,b2,h7,h4⟩
  ·rintro(hf|⟨j,bl,h3,h4⟩)
   ·exact(h1.mm b).2 (.inl hf)
   ·obtain⟨b2,hb2⟩:=key h3;exact(h1.mm b).2 (.inr ⟨j,b2,hb2,h4⟩)
 ·obtain⟨_,b,hb,hf⟩:=s9 hi h hj
  exact hf.sat hS hi (hS.blk j b hb)
 ·obtain⟨b1,hb1⟩:=key hj
  obtain⟨b2,hb2⟩:=key hk
  exact h1.inj j k b1 b2 b hb1 hb2 e1 e2
theorem rQ{c:Code}{t t':b9}{Q:Exit→St→Prop}(i:Nat){blk:db}(hi:σ[i]? =some (some blk))(hσ:CK i blk σ σ')(ht:yk i blk t t')(h:W P N L c ⟨t',σ'⟩ Q):W P N L c ⟨t,σ⟩ Q:=fun F base E₀ w₀ E a w hc hs=>by
 obtain⟨_,g⟩:=hs.sat.kill i hi
 refine h F base E₀ w₀ (E.kill i) a w (hc.on g (Below.refl _ _)) ⟨hs.sat.Jk hi hσ,fun k q hq=>?_,hs.kf,hs.size⟩
 obtain⟨p,h1,h2⟩:=ht.get k q hq
 exact h2.rep hs.sat hi _ (hs.tmp k p h1)
theorem Hw{ops:Array Oper}{l:List Oper}{t t':b9}{K:St→Prop}(i:Nat){blk:db}(hi:σ[i]? =some (some blk))(hσ:CK i blk σ σ')(ht:yk i blk t t')(h:WR P N L ops l ⟨t',σ'⟩ K):WR P N L ops l ⟨t,σ⟩ K:=by
 intro F base E₀ w₀ E a w hc hs Q j hQ hl
 obtain⟨_,g⟩:=hs.sat.kill i hi
 refine h F base E₀ w₀ (E.kill i) a w (hc.on g (Below.refl _ _)) ⟨hs.sat.Jk hi hσ,fun k q hq=>?_,hs.kf,hs.size⟩ Q j hQ hl
 obtain⟨p,h1,h2⟩:=ht.get k q hq
 exact h2.rep hs.sat hi _ (hs.tmp k p h1)
end
end PW
end Go.Proofs.YtnegbdpggideiaaGreatDoor
namespace Go.Proofs.YtnegbdpggideiaaGreatDoor
namespace PW
open Go.RowKit cH Mem
def pD(l:List UInt8):Value:=.string ⟨l.toArray⟩
theorem bytes_beq(a b:List UInt8):((⟨a.toArray⟩:ByteArray)==⟨b.toArray⟩)=decide (a=b):=Bool.eq_iff_iff.2 (by
 rw[beq_toListBytes,beq_iff_eq,decide_eq_true_eq,ByteArray.toList_eq,ByteArray.toList_eq])
section
variable {P:Program} {kt:TypeId}
theorem FE(b:Bool)(n:Nat)(hu:P.underlying kt=some .string)(a:List UInt8)(w:World):(Instr.checkKey b (n+1) kt (pD a)).run P w= .ok () w:=by
 simp only[Instr.checkKey,Sem.run_bind,run_underlying hu,Result.andThen_ok,Sem.run_pure,pD]
theorem Hl(n:Nat)(hu:P.underlying kt=some .string)(a b:List UInt8)(w:World):(Op.equalIn (n+1) kt (pD a) (pD b)).run P w= .ok (decide (a=b)) w:=by
 have h:=run_equalIn_string w n kt ⟨a.toArray⟩ ⟨b.toArray⟩ hu
 rw[←beq_toListBytes,bytes_beq]at h
 exact h
theorem He(hu:P.underlying kt=some .string):ir P kt pD where
 nH:=fun b a w=>FE b 9999 hu a w
 eql:=fun a b w=>Hl _ hu a b w
 now:=⟨_,hu,.inl fun a b=>by simp only[Instr.sameNow,pD,bytes_beq]⟩
 bits:=fun a=>by
  show Instr.sameBits 10000 (.string ⟨a.toArray⟩) (.string ⟨a.toArray⟩)=true
  unfold Instr.sameBits
  show((⟨a.toArray⟩:ByteArray)==⟨a.toArray⟩)=true
  rw[bytes_beq]
  exact decide_eq_true rfl
variable {t:b9} {σ:cg} {o:Oper}
theorem Fo{x y:Operand}{ty tz:TypeId}(ho:o.op= .binOp .neq ty x y tz)(hk:ov P ty=true)(hx:aE t x=some (.raw (.pointer none)))(hy:aE t y=some (.raw (.pointer none))):bp P σ t o (.raw (.bool false)):=by
 refine vW ho hx hy fun w=>?_
 unfold ov at hk
 split at hk
 ·rename_i e hu
  have key:∀d,(Op.equalIn (d+1) ty (.pointer none) (.pointer none)).run P w= .ok true w:=fun d=>by
   simp only[Op.equalIn,Sem.run_bind,run_underlying hu,Result.andThen_ok,Sem.run_pure,Option.isNone_none]
  have:=key 9999
  simp only[Nat.reduceAdd]at this
  simp[eqGuard,binOp,Op.equal,Op.maxDepth,this]
 ·cases hk
theorem EV{x y:Operand}{ty tz:TypeId}{xs:List PV}{k:Nat}(ho:o.op= .binOp .neq ty x y tz)(hk:ov P ty=true)(hx:aE t x=some (.aX xs k))(hy:aE t y=some (.raw (.pointer none))):bp P σ t o (.raw (.bool true)):=by
 intro F base E ρ w hρ _ hT
 have h1:=az hρ hT hx
 have h2:=az hρ hT hy
 generalize hz:ρ x=z at h1
 generalize hz':ρ y=z' at h2
 cases h2
 cases h1 with
 |aX b o' _ cs _ hb hM hc hl hr=>
  simp only[execOp,ho,hz,hz',Sem.run_bind,eqGuard,binOp,lS hk,Result.andThen_ok,Sem.run_pure]
  exact br (.raw _)
end
end PW
end Go.Proofs.YtnegbdpggideiaaGreatDoor
namespace Go.Proofs.YtnegbdpggideiaaGreatDoor
namespace PW
open Go.RowKit cH Mem Net ft
section
variable {T:an} {k x:Int} {d:Nat} {st:Nat→Int} {p0:ia}
end
end PW
end Go.Proofs.YtnegbdpggideiaaGreatDoor
namespace Go.Proofs.YtnegbdpggideiaaGreatDoor
namespace PW
open Go.RowKit cH Mem Net ft
theorem sI{α:Type}[DecidableEq α]:∀(l m:List α),l.Nodup→(∀a∈l,a∈m)→l.length≤m.length
 | [],m,_,_=>Nat.zero_le _
 |a::l,m,hn,h=>by
  have ha:=h a (by simp)
  rw[List.nodup_cons]at hn
  have h2:=sI l (m.erase a) hn.2 (fun b hb=>(List.mem_erase_of_ne (fun e=>hn.1 (by rw[←e];exact hb))).2 (h b (by simp[hb])))
  rw[List.length_erase_of_mem ha]at h2
  have:=List.length_pos_of_mem ha
  simp only[List.length_cons]
  omega
section
variable {T:an} {k x:Int} {d:Nat} {st:Nat→Int} {p0:ia}
noncomputable def H6(T:an)(tb:Nat→eD)(p0:ia)(m a:Nat):Nat→Nat×List cq
 |0=>((bb T a).toNat,(cd T tb p0 m []).fu.stack)
 |j+1=>((bb T ((cd T tb p0 (H6 T tb p0 m a j).1 (H6 T tb p0 m a j).2).aR.getD 0 0).toNat).toNat,(cd T tb p0 (H6 T tb p0 m a j).1 (H6 T tb p0 m a j).2).fu.stack)
def Ip(T:an)(k x:Int)(d:Nat)(st:Nat→Int)(p0:ia)(late:Bool)(u n:Nat)(s:List cq):Prop:=
 (Open T k x d n s∧u=if late then T.nodes.toNat+lr T (bz T k x) d n else 2*T.nodes.toNat+lr T [] d n)∨
  ∃(q:List Int) (m a j:Nat),Di T k x d n s q∧u=q.length∧q.length<T.nodes.toNat∧(m:Int)<T.nodes∧a<2*T.ag.length∧j+q.length≤T.nodes.toNat∧H6 T (JL T (bz T k x) st) p0 m a j=(n,s)
theorem Ip.Ja{late:Bool}{u n:Nat}{s:List cq}(h:Ip T k x d st p0 late u n s):Way T k x d late n s u:=by
 rcases h with h|⟨q,_,_,_,h1,h2,h3,_⟩
 ·exact .inl h
 ·exact .inr ⟨q,h1,h2,h3⟩
end
end PW
end Go.Proofs.YtnegbdpggideiaaGreatDoor
namespace Go.Proofs.YtnegbdpggideiaaGreatDoor
namespace PW
open Go.RowKit cH Mem Net ft
abbrev D4:=List (Nat×Nat×List cq)
section
variable (T:an) (tb:Nat→eD) (p0:ia) (Φ:Nat→Nat→List cq→Prop)
def lE(op:D4)(n:Nat)(s:List cq)(v:PV):Prop:=(∃c,Good T tb p0 Φ v n s c)∨∃i,(i,n,s)∈op∧v= .ptr (i+8) 0
structure mV (op:D4) (kv:List (List UInt8×PV)) (L:List PV):Prop where
 B3:∀e∈kv,∃u n s,Φ u n s∧e.1=dV n s∧lE T tb p0 Φ op n s e.2
 nodup:(kv.map (·.1)).Nodup
 all:∀v∈L,∃n s,lE T tb p0 Φ op n s v
 len:L.length=kv.length
end
section
variable {T:an} {tb:Nat→eD} {p0:ia} {Φ:Nat→Nat→List cq→Prop}
theorem lE.more{op:D4}{x:Nat×Nat×List cq}{n:Nat}{s:List cq}{v:PV}(h:lE T tb p0 Φ op n s v):lE T tb p0 Φ (x::op) n s v:=by
 rcases h with h|⟨i,h,e⟩
 ·exact .inl h
 ·exact .inr ⟨i,List.mem_cons_of_mem _ h,e⟩
theorem mV.push{op:D4}{kv:List (List UInt8×PV)}{L:List PV}(h:mV T tb p0 Φ op kv L){u n i:Nat}{s:List cq}(hΦ:Φ u n s)(hno:dV n s∉kv.map (·.1)):
  mV T tb p0 Φ ((i,n,s)::op) (kv++[(dV n s,.ptr (i+8) 0)]) (L++[.ptr (i+8) 0]) where
 B3:=fun e he=>by
  rcases List.mem_append.1 he with he|he
  ·obtain⟨u,n,s,h1,h2,h3⟩:=h.B3 e he
   exact⟨u,n,s,h1,h2,h3.more⟩
  ·rw[List.mem_singleton]at he
   subst he
   exact⟨u,n,s,hΦ,rfl,.inr ⟨i,List.mem_cons_self,rfl⟩⟩
 nodup:=by
  rw[List.map_append,List.nodup_append]
  refine⟨h.nodup,by simp,fun a ha b hb e=>?_⟩
  subst e
  simp only[List.map_cons,List.map_nil,List.mem_singleton]at hb
  subst hb
  exact hno ha
 all:=fun v hv=>by
  rcases List.mem_append.1 hv with hv|hv
  ·obtain⟨n,s,h1⟩:=h.all v hv
   exact⟨n,s,h1.more⟩
  ·rw[List.mem_singleton]at hv
   subst hv
   exact⟨n,s,.inr ⟨i,List.mem_cons_self,rfl⟩⟩
 len:=by simp[h.len]
theorem vy{i:Nat}{blk:db}{Q Q':PV→Prop}(h:∀v,Q v→∃v',BI i blk v v'∧Q' v'):∀L:List PV,(∀v∈L,Q v)→∃L',kE i blk L L'∧∀v∈L',Q' v
 | [],_=>⟨[],.nil,fun v hv=>by cases hv⟩
 |v::L,hL=>by
  obtain⟨v',h1,h2⟩:=h v (hL v (by simp))
  obtain⟨L',h3,h4⟩:=vy h L (fun w hw=>hL w (by simp[hw]))
  exact⟨v'::L',.cons h1 h3,fun w hw=>by
   rcases List.mem_cons.1 hw with rfl|hw
   ·exact h2
   ·exact h4 w hw⟩
theorem Dn{i:Nat}{blk:db}{Q Q':List UInt8→PV→Prop}(h:∀k v,Q k v→∃v',BI i blk v v'∧Q' k v'):∀kv:List (List UInt8×PV),(∀e∈kv,Q e.1 e.2)→∃kv':List (List UInt8×PV),kv'.map (·.1)=kv.map (·.1)∧kE i blk (kv.map (·.2)) (kv'.map (·.2))∧∀e∈kv',Q' e.1 e.2
 | [],_=>⟨[],rfl,.nil,fun v hv=>by cases hv⟩
 |e::L,hL=>by
  obtain⟨v',h1,h2⟩:=h e.1 e.2 (hL e (by simp))
  obtain⟨L',h3,h4,h5⟩:=Dn h L (fun w hw=>hL w (by simp[hw]))
  exact⟨(e.1,v')::L',by simp[h3],.cons h1 h4,fun w hw=>by
   rcases List.mem_cons.1 hw with rfl|hw
   ·exact h2
   ·exact h5 w hw⟩
theorem mV.close{op:D4}{i n:Nat}{s:List cq}{kv:List (List UInt8×PV)}{L:List PV}(h:mV T tb p0 Φ ((i,n,s)::op) kv L){ty:TypeId}{xs:List PV}{c:Int}(hg:Good T tb p0 Φ (.aX xs 0) n s c):
  ∃kv' L',mV T tb p0 Φ op kv' L'∧kv'.map (·.1)=kv.map (·.1)∧kE (i+8) (.cells ty xs) (kv.map (·.2)) (kv'.map (·.2))∧kE (i+8) (.cells ty xs) L L':=by
 have key:∀n1 s1 v,lE T tb p0 Φ ((i,n,s)::op) n1 s1 v→∃v',BI (i+8) (.cells ty xs) v v'∧lE T tb p0 Φ op n1 s1 v':=fun n1 s1 v hv=>by
  rcases hv with hv|⟨i1,h1,rfl⟩
  ·exact⟨v,.same _,.inl hv⟩
  ·rcases List.mem_cons.1 h1 with h1|h1
   ·cases h1
    exact⟨_,.ptr 0,.inl ⟨c,hg⟩⟩
   ·exact⟨_,.same _,.inr ⟨i1,h1,rfl⟩⟩
 obtain⟨kv',k1,k2,k3⟩:=Dn (i:=i+8) (blk:=.cells ty xs) (Q:=fun k v=>∃u n1 s1,Φ u n1 s1∧k=dV n1 s1∧lE T tb p0 Φ ((i,n,s)::op) n1 s1 v) (Q':=fun k v=>∃u n1 s1,Φ u n1 s1∧k=dV n1 s1∧lE T tb p0 Φ op n1 s1 v) (fun k v ⟨u,n1,s1,h1,h2,h3⟩=>by
  obtain⟨v',h4,h5⟩:=key n1 s1 v h3
  exact⟨v',h4,u,n1,s1,h1,h2,h5⟩) kv h.B3
 obtain⟨L',l1,l2⟩:=vy (i:=i+8) (blk:=.cells ty xs) (Q:=fun v=>∃n1 s1,lE T tb p0 Φ ((i,n,s)::op) n1 s1 v) (Q':=fun v=>∃n1 s1,lE T tb p0 Φ op n1 s1 v) (fun v ⟨n1,s1,h3⟩=>by
  obtain⟨v',h4,h5⟩:=key n1 s1 v h3
  exact⟨v',h4,n1,s1,h5⟩) L h.all
 refine⟨kv',L',⟨k3,by rw[k1];exact h.nodup,l2,?_⟩,k1,k2,l1⟩
 have:=congrArg List.length k1
 simp only[List.length_map]at this
 rw[l1.1,h.len,this]
theorem mV.Jn(R:oW T tb p0 Φ)(h12:T.nodes≤12){U:List (Nat×List cq)}(hU:∀ {u n s},Φ u n s→(n,s)∈U){op:D4}{kv:List (List UInt8×PV)}{L:List PV}(h:mV T tb p0 Φ op kv L):kv.length≤U.length:=by
 have key:∀kv:List (List UInt8×PV),(∀e∈kv,∃u n s,Φ u n s∧e.1=dV n s)→∃sts:List (Nat×List cq),sts.map (fun x=>dV x.1 x.2)=kv.map (·.1)∧∀x∈sts,x∈U:=fun kv=>by
  induction kv with
  |nil=>intro _;exact⟨[],rfl,fun x hx=>by cases hx⟩
  |cons e kv ih=>
   intro he
   obtain⟨u,n,s,h1,h2⟩:=he e (by simp)
   obtain⟨sts,h3,h4⟩:=ih (fun e h=>he e (by simp[h]))
   exact⟨(n,s)::sts,by simp[h3,h2],fun x hx=>by
    rcases List.mem_cons.1 hx with rfl|hx
    ·exact hU h1
    ·exact h4 x hx⟩
 obtain⟨sts,h1,h2⟩:=key kv (fun e he=>by
  obtain⟨u,n,s,h1,h2,_⟩:=h.B3 e he
  exact⟨u,n,s,h1,h2⟩)
 have hn:=h.nodup
 rw[←h1]at hn
 have hnd:sts.Nodup:=by
  unfold List.Nodup at hn ⊢
  rw[List.pairwise_map]at hn
  exact hn.imp fun hab e=>hab (by rw[e])
 have:=sI sts U hnd h2
 have h3:=congrArg List.length h1
 simp only[List.length_map]at h3
 omega
theorem mV.Hi(R:oW T tb p0 Φ)(h12:T.nodes≤12){op:D4}{kv:List (List UInt8×PV)}{L:List PV}(h:mV T tb p0 Φ op kv L){u n:Nat}{s:List cq}(hΦ:Φ u n s)(hop:∀x∈op,FW T tb p0 x.2.1 x.2.2 n s){v:PV}(hv:dr (dV n s) kv=some v):∃c,Good T tb p0 Φ v n s c:=by
 obtain⟨u1,n1,s1,h1,h2,h3⟩:=h.B3 _ (iS hv)
 have a1:=R.node h1
 have a2:=R.node hΦ
 obtain⟨rfl,rfl⟩:=Dh (by omega) (by omega) (R.small hΦ).1 (R.small h1).1 h2
 rcases h3 with h3|⟨i,h4,_⟩
 ·exact h3
 ·exact(R.B6 (hop _ h4) h1).elim
theorem tf{κ:Type}[DecidableEq κ]{k:κ}:∀ {l:List (κ×PV)},dr k l=none→k∉l.map (·.1)
 | [],_=>by simp
 |(a,q)::l,h=>by
  simp only[dr]at h
  split at h
  ·cases h
  ·rename_i hne
   rw[List.map_cons,List.mem_cons]
   rintro(e|e)
   ·exact hne e
   ·exact tf h e
theorem nL{κ:Type}[DecidableEq κ]{k:κ}{p:PV}:∀ {l:List (κ×PV)},dr k l=none→iu k p l=l++[(k,p)]
 | [],_=>rfl
 |(a,q)::l,h=>by
  simp only[dr]at h
  split at h
  ·cases h
  ·rename_i hne
   simp only[iu]
   rw[if_neg hne,nL h]
   rfl
end
end PW
end Go.Proofs.YtnegbdpggideiaaGreatDoor
namespace Go.Proofs.YtnegbdpggideiaaGreatDoor
namespace PW
open Go.RowKit cH Mem Net ft
def Jd(P:Program)(ty:TypeId):Option (Nat×List Value):=match P.info? ty,P.underlying ty with
 |some it,some (.array _ e)=>match it.zero,P.info? e with
  |some z,some ie=>some (ie.size,z.cells.toList)
  |_,_=>none
 |_,_=>none
theorem xu{P:Program}{σ:cg}{t:b9}{o:Oper}{ty s:TypeId}{parts:Array (Nat×Operand)}{zero:List Value}{ps:List (Nat×List PV)}{xs:List PV}(ho:o.op= .build ty parts)(hk:Jd P ty=some (s,zero))(hp:ib t parts.toList=some ps)
  (hf:j7 (fun i=>some (i*s,s)) (zero.map .raw) ps=some xs):bp P σ t o (.agg xs):=by
 intro F base E ρ w hρ hS hT
 obtain⟨h1,h2⟩:=j8 hρ hT parts.toList ps hp
 have hz:aZ E w zero.toArray.toList (zero.map .raw):=⟨by simp,fun i x u k1 k2=>by
  simp only[List.getElem?_map,Option.map_eq_some_iff]at k2
  obtain⟨y,hy,rfl⟩:=k2
  simp only at k1
  rw[hy]at k1
  cases k1
  exact .raw _⟩
 obtain⟨cs,hc,hR⟩:=lI (fun i=>some (i*s,s)) _ ps zero.toArray _ xs hz h1 h2 hf
 have hb:P.built ty ((parts.map fun(i,x)=>(i,ρ x)).toList)=some cs:=by
  unfold Jd at hk
  split at hk
  ·rename_i it n e Hi hu
   split at hk
   ·rename_i z ie hz' hie
    cases hk
    simp only[Program.built,Hi,hu,hz',hie,Array.toList_map]
    simpa using hc
   ·cases hk
  ·cases hk
 have hrun:=run_build (P:=P) w ty (parts.map fun(i,x)=>(i,ρ x)) cs hb
 simp only[execOp,ho,Sem.run_bind,hrun,Result.andThen_ok,Sem.run_pure]
 exact br (.agg cs xs (by have:=hR.1;rw[Array.length_toList]at this;exact this) (fun i x u k1 k2=>hR.2 i x u (by simpa using k1) k2))
theorem ga.BK{n:Nat}{xs ys:List PV}(hl:ys.length=xs.length)(h:∀(i:Nat) x y,xs[i]? =some x→ys[i]? =some y→ga x y):ga (.slice n xs) (.slice n ys):=fun E w v hv=>by
 cases hv with
 |bO=>
  have:ys=[]:=List.eq_nil_of_length_eq_zero hl
  subst this
  exact .bO
 |empty a c hc=>
  have:ys=[]:=List.eq_nil_of_length_eq_zero hl
  subst this
  exact .empty a c hc
 |slice b off _ c cs _ h0 h1 h2 hb hM hc hl2 hr=>
  exact .slice b off n c cs ys h0 h1 h2 hb hM hc (hl2.trans hl.symm) (fun i x u k1 k2=>by
   have hi:i<xs.length:=by rw[←hl];exact(List.getElem?_eq_some_iff.1 k2).1
   exact h i xs[i] u (by simp[hi]) k2 E w x (hr i x _ k1 (by simp[hi])))
def tq(T:an)(n:Nat):eD:=⟨n,List.replicate T.nodes.toNat ⟨[],false,[]⟩,bC T n⟩
noncomputable def zj(T:an)(k x:Int)(n:Nat)(s:Int):eD:=if uO k x n=true then tq T n else vM T (bz T k x) s n
noncomputable def mI(T:an)(k x:Int)(l:List Int)(m:Nat):List eD:=(List.range m).map fun n=>zj T k x n (iz l n)
def xc(T:an)(k x:Int)(l:List Int):Int:=if((av T&&cc T k x)&&decide ((l.length:Int)=T.nodes))=true then(if gF T k x l=true then 0 else 7) else 1
noncomputable def zh(e:Int)(L:List eD):PV:=.tuple [fP (if e=0 then L else []),num e]
theorem wv{T:an}{k x:Int}{l:List Int}{m:Nat}:mI T k x l (m+1)=mI T k x l m++[zj T k x m (iz l m)]:=by simp[mI,List.range_succ]
theorem s4(n:Nat):(dc [.raw (.slice none 0 0),.raw (.bool false),.raw (.slice none 0 0)] n).length=(cV (List.replicate n ⟨[],false,[]⟩)).length∧∀(i:Nat) x y,(dc [.raw (.slice none 0 0),.raw (.bool false),.raw (.slice none 0 0)] n)[i]? =some x→(cV (List.replicate n ⟨[],false,[]⟩))[i]? =some y→ga x y:=by
 induction n with
 |zero=>exact⟨rfl,fun i x y h=>by simp[dc]at h⟩
 |succ n ih=>
  refine⟨by simp only[dc,List.replicate_succ,cV,List.flatMap_cons,List.length_append]at ih ⊢;rw[ih.1];rfl,fun i x y h1 h2=>?_⟩
  simp only[dc,List.replicate_succ,cV,List.flatMap_cons]at h1 h2
  match i,h1,h2 with
  |0,h1,h2=>simp[ki]at h1 h2;subst h1 h2;exact .bO
  |1,h1,h2=>simp[ki]at h1 h2;subst h1 h2;exact ga.refl _
  |2,h1,h2=>simp[ki]at h1 h2;subst h1 h2;exact .bO
  |i+3,h1,h2=>exact ih.2 i x y (by simpa using h1) (by simpa[cV,ki]using h2)
theorem Fm(T:an)(n:Int)(X:eD)(h:Can Tryz.prog 67 [aJ T,num n] (· = .tuple [dx X,num 0])):Can Tryz.prog 66 [num n,.aX (bn T) 0] (· = .tuple [dx X,num 0]):=by
 refine aF Tryz.func66 rfl Tryz.ntmps66 rfl<|aH<|aq 2 rfl<|aD [0,1,3] rfl ?_
 refine aH<|aq 2 rfl<|dJ rfl (h) rfl<|aq 4 rfl<|aD [3,4] rfl ?_
 exact ao<|⟨_,_,aA.of rfl,ax.pure (p:=.tuple [dx X,num 0]),rfl⟩
theorem FO(T:an)(k x n:Int)(X:eD)(h:Can Tryz.prog 55 [aJ T,bY k x,num n] (· = .tuple [dx X,num 0])):Can Tryz.prog 68 [num n,.aX (bn T) 0,.aX (cw k x) 0] (· = .tuple [dx X,num 0]):=by
 refine aF Tryz.func68 rfl Tryz.ntmps68 rfl<|aH<|aq 2 rfl<|aD [0,1,2,4] rfl ?_
 refine aH<|aq 3 rfl<|dJ rfl (h) rfl<|aq 4 rfl<|aD [4,5] rfl ?_
 exact ao<|⟨_,_,aA.of rfl,ax.pure (p:=.tuple [dx X,num 0]),rfl⟩
theorem Gh(T:an)(k x n:Int)(X:eD)(h:Can Tryz.prog 70 [aJ T,bY k x,num n] (· = .tuple [dx X,num 0])):Can Tryz.prog 69 [num n,.aX (bn T) 0,.aX (cw k x) 0] (· = .tuple [dx X,num 0]):=by
 refine aF Tryz.func69 rfl Tryz.ntmps69 rfl<|aH<|aq 2 rfl<|aD [0,1,2,4] rfl ?_
 refine aH<|aq 3 rfl<|dJ rfl (h) rfl<|aq 4 rfl<|aD [4,5] rfl ?_
 exact ao<|⟨_,_,aA.of rfl,ax.pure (p:=.tuple [dx X,num 0]),rfl⟩
theorem F7(T:an)(k x n:Int)(X:eD)(h:Can Tryz.prog 72 [aJ T,bY k x,num n] (· = .tuple [dx X,num 0])):Can Tryz.prog 71 [num n,.aX (bn T) 0,.aX (cw k x) 0] (· = .tuple [dx X,num 0]):=by
 refine aF Tryz.func71 rfl Tryz.ntmps71 rfl<|aH<|aq 2 rfl<|aD [0,1,2,4] rfl ?_
 refine aH<|aq 3 rfl<|dJ rfl (h) rfl<|aq 4 rfl<|aD [4,5] rfl ?_
 exact ao<|⟨_,_,aA.of rfl,ax.pure (p:=.tuple [dx X,num 0]),rfl⟩
theorem fR(x:eD):fY 0 x= .tuple [dx x,num 0]:=rfl
theorem G7(T:an)(k x:Int)(h12:T.nodes≤12)(hvc:(av T&&cc T k x)=true){i:Nat}(hi:(i:Int)<T.nodes){s:Int}(hs:rF s=true){FS:List PV}(hFS:[.func 66 [.aX (bn T) 0],.func 68 [.aX (bn T) 0,.aX (cw k x) 0],.func 69 [.aX (bn T) 0,.aX (cw k x) 0],.func 71 [.aX (bn T) 0,.aX (cw k x) 0]]=FS):
  ∃f cap,FS[s.toNat]? =some (.func f cap)∧enters Tryz.prog f=true∧Can Tryz.prog f ([num i]++cap) (· = .tuple [dx (vM T (bz T k x) s i),num 0])∧aL ([num i]++cap):=by
 have hv:=(Bool.and_eq_true_iff.1 hvc).1
 have hme:cQ T k x=0:=by unfold cQ;rw[if_pos hvc]
 have hn:aV T i=true:=by rw[aO];omega
 have htr:gA T k x i=0:=by unfold gA;rw[if_pos hme,if_pos hn]
 have hch:ca T [] [(i:Int)]=0:=by
  unfold ca
  rw[hv]
  simp[bL,hn]
 subst hFS
 obtain⟨h0,h3⟩:=Bool.and_eq_true_iff.1 hs
 have h0:=of_decide_eq_true h0
 have h3:=of_decide_eq_true h3
 have h1:=B4 T i
 rw[hch,fR,Int.toNat_natCast]at h1
 have h2:=A2 T k x i h12
 rw[if_pos hme,if_pos hn,fR,Int.toNat_natCast]at h2
 have h4:=DX T k x i h12
 rw[htr,fR,Int.toNat_natCast]at h4
 have h5:=DY T k x i
 rw[htr,fR,Int.toNat_natCast]at h5
 rcases(by omega:s=0∨s=1∨s=2∨s=3)with e|e|e|e
 ·subst e
  exact⟨_,_,rfl,by kernel_rfl,Fm T i _ h1,by infer_instance⟩
 ·subst e
  exact⟨_,_,rfl,by kernel_rfl,FO T k x i _ h2,by infer_instance⟩
 ·subst e
  exact⟨_,_,rfl,by kernel_rfl,Gh T k x i _ h4,by infer_instance⟩
 ·subst e
  exact⟨_,_,rfl,by kernel_rfl,F7 T k x i _ h5,by infer_instance⟩
theorem JK:Jd Tryz.prog 100=some (1,[.nilFunc,.nilFunc,.nilFunc,.nilFunc]):=by kernel_rfl
theorem lV{T:an}{k x:Int}{l:List Int}{m:Nat}:(mI T k x l m).length=m:=by simp[mI]
set_option maxHeartbeats 4000000 in
theorem rX(T:an)(k x:Int)(l:List Int)(hl:l.length≤1000)(h12:T.nodes≤12):Can Tryz.prog 20 [aJ T,bY k x,aw l] (· =zh (xc T k x l) (mI T k x l l.length)):=by
  obtain⟨q1,hq1⟩:∃q,(av T&&cc T k x)=q:=⟨_,rfl⟩
  obtain⟨q2,hq2⟩:∃q,decide ((l.length:Int)≠T.nodes)=q:=⟨_,rfl⟩
  obtain⟨q3,hq3⟩:∃q,gF T k x l=q:=⟨_,rfl⟩
  have hE:xc T k x l=if(q1&& !q2)=true then(if q3=true then 0 else 7) else 1:=by
    unfold xc
    rw[hq1,hq3,←hq2]
    simp
  rw[hE]
  refine aF Tryz.func20 rfl Tryz.ntmps20 rfl<|ab (.a 4 rfl<|.k [2,3,4] rfl)<|aj<|bx 23 (.raw (.bool (!q1 ||q2))) [2,3,4] rfl ?_ ?_
  · refine .a 2 rfl<|.c rfl (hq1▸yg T k x) rfl<|.a 2 rfl<|?_
    cases q1
    · exact .a 6 rfl<|.k [23,2,3,4] rfl
    · exact .a 4 rfl<|.v (b7 rfl (hq2)) rfl<|.a 1 rfl<|.k [23,2,3,4] rfl
  refine af rfl (fun hc=>?_) (fun hc=>?_)
  · have hno:(q1&& !q2)=false:=by cases q1<;>cases q2<;>simp_all
    exact ab (.a 2 rfl<|.k [6,7] rfl)<|ao<|⟨_,_,aA.of rfl,ax.ba (ai.cons ax.bO (ai.cons ax.pure ai.nil)),by rw[hno];rfl⟩
  · obtain ⟨h1, rfl⟩ := Bool.or_eq_false_iff.1 hc
    have h1:q1=true:=by simpa using h1
    subst h1
    have hln:(l.length:Int)=T.nodes:=by have:=ff hq2;simpa using this
    refine ak<|aj<|ab (.a 3 rfl<|.c rfl (hq3▸mf T k x l hl) rfl<|.a 1 rfl<|.k [2,3,4,28] rfl)<|af rfl (fun hc=>?_) (fun hc=>?_)
    · have h3:q3=false:=by simpa using hc
      subst h3
      exact ab (.a 2 rfl<|.k [6,7] rfl)<|ao<|⟨_,_,aA.of rfl,ax.ba (ai.cons ax.bO (ai.cons ax.pure ai.nil)),rfl⟩
    · have h3:q3=true:=by simpa using hc
      subst h3
      have hv:=(Bool.and_eq_true_iff.1 hq1).1
      have hll:=bJ hv
      have hP1:ek k x (fun n=>rF (iz l n)) l.length=true:=by
        have h:=hq3
        unfold gF at h
        split at h
        · exact(Bool.and_eq_true_iff.1 h).1
        · cases h
      refine ak<|aH<|aq 4 rfl<|bA (xu rfl JK rfl rfl) rfl<|aq 2 rfl<|aD [2,3,4,8] rfl ?_
      refine fT 8 0 0 rfl rfl ?_
      refine dy [] (.c 2<|.c 3<|.c 4<|.c 8<|.nil) .nil rfl rfl ?_
      obtain⟨FS,hFS⟩:∃z:List PV,[.func 66 [.aX (bn T) 0],.func 68 [.aX (bn T) 0,.aX (cw k x) 0],.func 69 [.aX (bn T) 0,.aX (cw k x) 0],.func 71 [.aX (bn T) 0,.aX (cw k x) 0]]=z:=⟨_,rfl⟩
      have hFp:aL FS:=by rw[←hFS];infer_instance
      rw[hFS]
      refine ab (.a 1 rfl<|.k [2,3,4,8,9] rfl)<|eo 9 56 3 rfl ?_
      refine aj<|ab (.a 3 rfl<|.k [3,4,8,9,34,35,36] rfl)<|au<|ee [3,4,8,9,34,35,36] rfl<|bf (fun r s=>∃i,i≤l.length∧r=l.length - i∧s=⟨[(3,.aX (bn T) 0),(4,.aX (cw k x) 0),(8,.aX FS 0),(9,.own 0),(34,aw l),(35,num l.length),(36,num i)],[some (.row 56 3 i (kP (mI T k x l i)))]⟩) l.length ⟨0,by omega,by omega,rfl⟩ ?_
      rintro r s ⟨i,hi,rfl,rfl⟩
      refine ab (.a 1 rfl<|.k [3,4,8,9,34,35,36,37] rfl)<|aj<|af rfl (fun hc=>?_) (fun hc=>?_)
      · have hlt:i<l.length:=by have:=tt hc;omega
        have hil:(i:Int)<T.nodes:=by omega
        obtain⟨N,hN⟩:∃N:Nat,T.nodes=(N:Int):=⟨T.nodes.toNat,by omega⟩
        obtain⟨s,hs⟩:∃s,iz l i=s:=⟨_,rfl⟩
        have hsl:l.getD i 0=s:=hs
        obtain⟨g,hg⟩:∃g,uO k x i=g:=⟨_,rfl⟩
        have hX:mI T k x l (i+1)=mI T k x l i++[zj T k x i s]:=by rw[wv,hs]
        have hXg:zj T k x i s=if g=true then tq T i else vM T (bz T k x) s i:=by unfold zj;rw[hg]
        have hmL:(mI T k x l i).length=i:=lV
        obtain⟨L,hL⟩:∃L,mI T k x l i=L:=⟨_,rfl⟩
        obtain⟨X,hXX⟩:∃X,zj T k x i s=X:=⟨_,rfl⟩
        rw[hL,hXX]at hX
        rw[hL]at hmL ⊢
        rw[hXX]at hXg
        refine ak<|aj<|au<|ab (.a 1 rfl<|.v (aI (i) rfl) rfl<|.v (aK rfl ((ay l i hlt).trans (by rw[hsl]))) rfl<|.a 2 rfl<|.k [3,4,8,9,10,11,34,35,36] rfl)<|aH<|aq 2 rfl<|bA (aK rfl ((show some (num T.nodes)=some (num (N:Int)) by rw[hN]))) rfl<|cf (cF rfl (bF.rk.get rfl) rfl rfl (rfl:(N:Int)=(N:Int)) (rfl:(N:Int)=(N:Int)) ⟨by unfold maxLen;omega,by omega⟩) rfl<|aq 3 rfl<|aD [3,4,8,9,10,11,12,34,35,36] rfl ?_
        refine rQ 1 (σ':=[some (.row 56 3 i (kP L)),none,some (.cells 56 [num i,.slice N (dc [.raw (.slice none 0 0),.raw (.bool false),.raw (.slice none 0 0)] N),.raw (.slice none 0 0)])]) (t':=[(3,.aX (bn T) 0),(4,.aX (cw k x) 0),(8,.aX FS 0),(9,.own 0),(10,num i),(11,num s),(12,.ptr 2 0),(34,aw l),(35,num l.length),(36,num i)]) (blk:=.row 76 3 N (dc [.raw (.slice none 0 0),.raw (.bool false),.raw (.slice none 0 0)] N)) rfl ⟨rfl,rfl,fun j hj=>by
          match j,hj with
          |0,_=>exact .inl rfl
          |1,h=>exact absurd rfl h
          |2,_=>exact .inr ⟨_,_,rfl,rfl,.cells (.cons (.same _)<|.cons .own<|.cons (.same _) .nil)⟩
          |_+3,_=>exact .inl rfl⟩ (.cons 3 rfl (.same _)<|.cons 4 rfl (.same _)<|.cons 8 rfl (.same _)<|.cons 9 rfl (.same _)<|.cons 10 rfl (.same _)<|.cons 11 rfl (.same _)<|.cons 12 rfl (.same _)<|.cons 34 rfl (.same _)<|.cons 35 rfl (.same _)<|.cons 36 rfl (.same _) .nil) ?_
        refine aj<|ab (.a 2 rfl<|.c rfl (hg▸sc k x i) rfl<|.k [3,4,8,9,10,11,12,34,35,36,48] rfl)<|af rfl (fun hc=>?_) (fun hc=>?_)
        · subst hc
          rw[if_pos rfl]at hXg
          have hle:ga (.agg [num i,.slice N (dc [.raw (.slice none 0 0),.raw (.bool false),.raw (.slice none 0 0)] N),aw (bC T i)]) (dx X):=by
            rw[hXg]
            have hz:=s4 N
            have hTN:T.nodes.toNat=N:=by omega
            refine ga.ew ⟨rfl,fun j a b h1 h2=>?_⟩
            match j,h1,h2 with
            |0,h1,h2=>cases h1;cases h2;exact ga.refl _
            |1,h1,h2=>
              cases h1;cases h2
              show ga (.slice N _) (.slice (List.replicate T.nodes.toNat (⟨[],false,[]⟩:ij)).length (cV (List.replicate T.nodes.toNat ⟨[],false,[]⟩)))
              rw[List.length_replicate,hTN]
              exact ga.BK hz.1.symm hz.2
            |2,h1,h2=>cases h1;cases h2;exact ga.refl _
            |j+3,h1,h2=>exact absurd h1 (by simp)
          refine bq<|aq 2 rfl<|dJ rfl (om T hll _) rfl<|aq 2 rfl<|aD [3,4,8,9,12,34,35,36] rfl ?_
          refine bq<|aq 1 rfl<|bA (pG (dt rfl (bF.tk.get rfl) rfl rfl rfl) hle) rfl<|aq 1 rfl<|cf (bu rfl (bF.rk.get rfl) rfl rfl rfl rfl (by unfold maxLen;omega)) rfl<|aq 1 rfl<|aD [3,4,8,9,34,35,36] rfl ?_
          refine dy [3] (.c 3<|.c 4<|.c 8<|.cons 9 rfl (.own (i:=0) (j:=3) rfl)<|.c 34<|.c 35<|.c 36<|.nil) (.kept rfl (.row aC.pure) .nil) rfl rfl ?_
          refine aB (.v (aP rfl) rfl<|.a 1 rfl<|.k [3,4,8,9,34,35,36] rfl) ?_
          exact⟨l.length - (i+1),by omega,i+1,by omega,rfl,by rw[hX,←nc];rfl⟩
        · subst hc
          have hle:ga (dx X) (dx X):=ga.refl _
          rw[if_neg (by decide)]at hXg
          have hos:rF s=true:=by
            rw[←hs]
            exact uP.1 hP1 i hlt hg
          obtain⟨f,cap,r1,r2,r3,r4⟩:=G7 T k x h12 hq1 hil hos hFS
          rw[←hXg]at r3
          obtain⟨hs0,hs3⟩:0≤s∧s<4:=by
            obtain⟨h0,h3⟩:=Bool.and_eq_true_iff.1 hos
            have h0:=of_decide_eq_true h0
            have h3:=of_decide_eq_true h3
            omega
          refine bq<|aq 1 rfl<|bA (mP rfl (bF.ar.get rfl) rfl rfl hs0 hs3 (j:=s.toNat) (Nat.mul_one _)) rfl<|bA (aK rfl ((show FS[0+s.toNat]? =_ by rw[Nat.zero_add];exact r1))) rfl<|aq 1 rfl<|bA (qh rfl r2 rfl rfl r3) rfl<|aq 4 rfl<|aD [3,4,8,9,12,34,35,36] rfl ?_
          refine bq<|aq 1 rfl<|bA (pG (dt rfl (bF.tk.get rfl) rfl rfl rfl) hle) rfl<|aq 1 rfl<|cf (bu rfl (bF.rk.get rfl) rfl rfl rfl rfl (by unfold maxLen;omega)) rfl<|aq 1 rfl<|aD [3,4,8,9,34,35,36] rfl ?_
          refine dy [3] (.c 3<|.c 4<|.c 8<|.cons 9 rfl (.own (i:=0) (j:=3) rfl)<|.c 34<|.c 35<|.c 36<|.nil) (.kept rfl (.row aC.pure) .nil) rfl rfl ?_
          refine aB (.v (aP rfl) rfl<|.a 1 rfl<|.k [3,4,8,9,34,35,36] rfl) ?_
          exact⟨l.length - (i+1),by omega,i+1,by omega,rfl,by rw[hX,←nc];rfl⟩
      · have hie:i=l.length:=by have:=ff hc;omega
        subst hie
        exact aY<|ab (.a 3 rfl<|.k [6,7] rfl)<|ao<|⟨_,_,aA.of rfl,ax.ba (ai.cons (ax.dX rfl ai.pure) (ai.cons ax.pure ai.nil)),by show PV.tuple [.slice l.length (kP (mI T k x l l.length)),num 0]= .tuple [fP (mI T k x l l.length),num 0];unfold fP;rw[lV]⟩
end PW
end Go.Proofs.YtnegbdpggideiaaGreatDoor
namespace Go.Proofs.YtnegbdpggideiaaGreatDoor
namespace PW
open Go.RowKit cH Mem
section
variable {P:Program} {σ:cg} {t:b9} {o:Oper}
def eh(l:List UInt8):List PV:=l.map fun b=>.raw (.int .u8 b.toNat)
instance (l:List UInt8):aL (eh l):=aL.map _ _ fun _=>inferInstance
instance (l:List UInt8):cu (eh l):=cu.map _ _ fun _=>inferInstance
theorem jI(a b:List UInt8):eh a++eh b=eh (a++b):=by simp[eh]
theorem nX{w:World}(base:Nat)(t u ty e:TypeId)(i:TypeInfo)(ht:P.underlying t=some (.slice e))(hu:P.underlying u=some .string)(hi:P.info? e=some i)(hz:i.zero=some (.int .u8 0))
  (hsize:i.size=1) (hby:i.bytes=1) (v:Value) (n:Nat) (xs:List Value) (hown:w.ownsRow base e 1 v n xs) (s:ByteArray)
  (h63:n+s.size≤maxLen) (hbytes:n+s.size≤140737488355328) (hbase:base≤w.heap.size):
  ∃v' w',(Builtin.append_ #[t,u] ty #[v,.string s]).run P w= .ok v' w'∧w'.ownsRow base e 1 v' (n+s.size) (xs++Lib.strCells s)∧w.grownBy w' v.ownBlock∧(v'.ownBlock=v.ownBlock∨v'.ownBlock=some w.heap.size):=by
 obtain⟨v',w',hr,h2,h3,h4⟩:=Lib.run_append_own_string (P:=P) w base t u ty e i ht hu hi hz hsize hby v n xs hown s h63 hbytes hbase
 refine⟨v',w',hr,h2,h3,?_⟩
 have hsmall:n+s.size≤9223372036854775807:=by simp only[maxLen]at h63;omega
 rcases hown.2 with⟨rfl,rfl⟩|⟨g,cap,cur,rfl,hbg,hg,hnc,hcm,hcs,htake⟩
 ·by_cases hm:s.size=0
  ·rw[h4.2 ⟨rfl,hm⟩];exact .inl rfl
  ·have hr':=run_append_nil_string (P:=P) w t u ty e i (.int .u8 0) ht hu hi hz s (by omega) (by omega) (by rw[hby];omega)
   rw[hr']at hr
   cases hr
   exact .inr rfl
 ·by_cases hroom:n+s.size≤cap
  ·have hr':=Lib.run_append_room_string (P:=P) w t u ty e i ht hu hi hsize g n cap cur hg s hroom (by rw[hcs];omega)
   rw[hr']at hr
   cases hr
   exact .inl rfl
  ·have holds:∀(j:Nat) u,xs[j]? =some u→w.cell? ((⟨g,0,none⟩:Addr).add j)=some u:=hown.cells (g:=g) rfl
   have hr':=Lib.run_append_grow_string (P:=P) w t u ty e i (.int .u8 0) ht hu hi hz ⟨g,0,none⟩ n cap xs (by rw[hsize];exact hown.1) holds s (by omega) (by omega) (growslice_fits (by omega) (by rw[hby];omega))
   rw[hr']at hr
   cases hr
   exact .inr rfl
def zI(P:Program)(ty sy:TypeId):Option TypeId:=
 match P.underlying ty,P.underlying sy with
 |some (.slice e),some .string=>match P.info? e with
  |some i=>match i.zero with
   |some (.int .u8 0)=>bif Nat.beq i.size 1&&Nat.beq i.bytes 1 then some e else none
   |_=>none
  |none=>none
 |_,_=>none
theorem yh{ty sy e:TypeId}(h:zI P ty sy=some e):P.underlying ty=some (.slice e)∧P.underlying sy=some .string∧∃i,P.info? e=some i∧i.zero=some (.int .u8 0)∧i.size=1∧i.bytes=1:=by
 unfold zI at h
 split at h
 ·rename_i e' h1 h2
  split at h
  ·rename_i i hi
   split at h
   ·rename_i hz
    rw[Bool.cond_eq_ite]at h
    split at h
    ·rename_i hb
     cases h
     obtain⟨b1,b2⟩:=Bool.and_eq_true_iff.1 hb
     exact⟨h1,h2,i,hi,hz,Nat.eq_of_beq_eq_true b1,Nat.eq_of_beq_eq_true b2⟩
    ·cases h
   ·cases h
  ·cases h
 ·cases h
theorem pn{ty sy e n i:Nat}{xs:List PV}{x y:Operand}{s:ByteArray}(ho:o.op= .call {callee:=.builtin .append,args:= #[x,y],argTypes:= #[ty,sy]})(hk:zI P ty sy=some e)(hx:aE t x=some (.own i))(hi:σ[i]? =some (some (.row e 1 n xs)))
  (hy:aE t y=some (.raw (.string s))) (hn:n+s.size≤140737488355328):
  cM P σ t o (.own σ.length) (σ.set i none++[some (.row e 1 (n+s.size) (xs++eh s.data.toList))]):=by
 intro F base E ρ w hρ hS hT
 have h1:=az hρ hT hx
 have h2:=az hρ hT hy
 generalize hz1:ρ x=v at h1
 generalize hz2:ρ y=u at h2
 cases h2
 obtain⟨hu,hu2,inf,hinf,hz,hs,hby⟩:=yh hk
 cases h1 with
 |own _ hiL _ hat hone=>
  obtain⟨cs,k1,k2⟩:=hS.blk i _ hi
  rw[hat]at k1
  have hob:bG (E.at_ i)=v.ownBlock:=by rw[hat];exact fW k1
  obtain⟨v',w',hrun,hown,hg,hw⟩:=nX (P:=P) (w:=w) base ty sy o.type e inf hu hu2 hinf hz hs hby v n cs k1 s (by unfold maxLen;omega) hn hS.bl
  have hr:(execOp ρ o).run P w= .ok (.value v') w':=by
   simp only[execOp,ho,resolve,invoke,builtin,Sem.run_bind,Sem.run_pure,Result.andThen_ok,List.map_toArray,List.map_cons,List.map_nil,hz1,hz2,hrun]
  have hnw:aZ E w (Lib.strCells s) (eh s.data.toList):=by
   refine⟨by simp[Lib.strCells,eh],fun j c u h1 h2=>?_⟩
   simp only[Lib.strCells,eh,List.getElem?_map,Option.map_eq_some_iff]at h1 h2
   obtain⟨b,hb,rfl⟩:=h1
   obtain⟨b',hb',rfl⟩:=h2
   rw[hb]at hb'
   cases hb'
   exact .raw _
  have hv':∀b,bG v'=some b→bG (E.at_ i)=some b∨w.heap.size≤b:=fun b hb=>by
   rw[fW hown]at hb
   rcases hw with h|h
   ·rw[hob,←h];exact .inl hb
   ·rw[h]at hb;cases hb;exact .inr (Nat.le_refl _)
  obtain⟨a1,a2⟩:=hS.swap (w':=w') (blk:=.row e 1 (n+s.size) (xs++eh s.data.toList)) hi hg.size (fun k hk hne=>hg.block k hk (by rw[←hob];exact Ne.symm hne)) hv' (fun E' g=>⟨cs++Lib.strCells s,hown,(k2.append hnw).goes g⟩)
  refine⟨v',w',_,.inl hr,a1,a2,⟨hg.os,hg.tape,hg.output,hg.size,fun k hk=>hg.block k (Nat.lt_of_lt_of_le hk hS.bl) (fun e=>?_)⟩,.own σ.length (by simp[Env.push,Env.kill,hS.len]) v' (by simp[Env.push,Env.kill,hS.len]) ?_⟩
  ·have:=(k1.lt k e.symm).1;omega
  ·rcases hown.2 with⟨rfl,_⟩|⟨g',cap,cur,rfl,_⟩<;>rfl
theorem Sat.drop{F:Nat→Prop}{base:Nat}{E:Env}{w w':World}(hS:Sat F base σ E w){j g:Nat}{bj:db}(hj:σ[j]? =some (some bj))(hb:bG (E.at_ j)=some g)(hs:w.heap.size≤w'.heap.size)(ho:∀k,k<w.heap.size→k≠g→w'.heap[k]? =w.heap[k]?):
  Sat F base (σ.set j none) (E.kill j) w'∧cZ E w (E.kill j) w':=by
 have hgM:E.M g:=(hS.mm g).2 (.inr ⟨j,bj,hj,hb⟩)
 obtain⟨k1,_⟩:=hS.kill j hj
 have g':cZ E w (E.kill j) w':=⟨Nat.le_refl _,fun _ _=>rfl,fun b _ hM h=>hM h.1,hs,fun k hk hM=>ho k hk (fun e=>hM (by rw[e];exact hgM))⟩
 refine⟨⟨Nat.le_trans hS.bl hs,fun b hb'=>⟨Nat.lt_of_lt_of_le (k1.fb b hb').1 hs,(k1.fb b hb').2⟩,k1.len,k1.mm,fun i bl hi=>?_,k1.inj,hS.gl.goes g'⟩,g'⟩
 obtain⟨hne,h3⟩:=hZ hi
 exact(hS.blk i bl h3).goes g' (fun k hk=>ho k ((hS.blk i bl h3).lt hk).2 (fun e=>hne (hS.inj i j bl bj g h3 hj (by rw[←e];exact hk) hb)))
theorem vR{ty:TypeId}{x:Operand}{s:ByteArray}(ho:o.op= .call {callee:=.builtin .len,args:= #[x],argTypes:= #[ty]})(hu:P.underlying ty=some .string)(hx:aE t x=some (.raw (.string s))):bp P σ t o (.raw (.int .i64 s.size)):=by
 intro F base E ρ w hρ _ hT
 have h1:=az hρ hT hx
 generalize hz:ρ x=z at h1
 cases h1
 simp[execOp,ho,resolve,invoke,builtin,Builtin.len_,hz,run_underlying hu,goInt]
 exact br (.raw _)
theorem wj{ty:TypeId}{x:Operand}{j e s n:Nat}{xs:List PV}(ho:o.op= .call {callee:=.builtin .unsafeSliceData,args:= #[x],argTypes:= #[ty]})(hx:aE t x=some (.own j))(hj:σ[j]? =some (some (.row e s n xs)))(hn:0<n):bp P σ t o (.ptr j 0):=by
 intro F base E ρ w hρ hS hT
 have h1:=az hρ hT hx
 generalize hz:ρ x=z at h1
 cases h1 with
 |own _ hi _ h hone=>
  obtain⟨cs,k1,_⟩:=hS.blk j _ hj
  rw[h]at k1
  rcases k1.2 with⟨_,h0⟩|⟨g,cap,cur,hv,_,_,hnc,_⟩
  ·omega
  ·subst hv
   have:=Lib.run_unsafeSliceData_row (P:=P) w #[ty] o.type ⟨g,0,none⟩ n cap (by omega)
   simp only[execOp,ho,resolve,invoke,builtin,Sem.run_bind,Sem.run_pure,Result.andThen_ok,List.map_toArray,List.map_cons,List.map_nil,hz,this]
   exact br (.ptr j 0 g hi (.inr ⟨n,cap,h⟩))
theorem vo{pt it:TypeId}{x y:Operand}{j e:Nat}{l:List UInt8}(ho:o.op= .call {callee:=.builtin .unsafeString,args:= #[x,y],argTypes:= #[pt,it]})(hp:P.underlying pt=some (.pointer e))(hc:P.cellsOf e=1)(hx:aE t x=some (.ptr j 0))(hy:aE t y=some (.raw (.int .i64 l.length)))(hj:σ[j]? =some (some (.row e 1 l.length (eh l))))(hl:0<l.length):
  cM P σ t o (.raw (.string ⟨l.toArray⟩)) (σ.set j none):=by
 intro F base E ρ w hρ hS hT
 have h1:=az hρ hT hx
 have h2:=az hρ hT hy
 generalize hz:ρ x=z at h1
 generalize hz':ρ y=z' at h2
 cases h2
 cases h1 with
 |ptr _ _ b hi h=>
  obtain⟨cs,k1,k2⟩:=hS.blk j _ hj
  have hcs:cs=Lib.byteCells l:=by
   apply List.ext_getElem?
   intro i
   by_cases hi':i<l.length
   ·have h3:=k2.2 i (cs[i]'(by rw[k2.1];simpa[eh]using hi')) (.raw (.int .u8 (l[i]).toNat)) (by simp) (by simp[eh,hi'])
    have h4:cs[i]'(by rw[k2.1];simpa[eh]using hi')= .int .u8 (l[i]).toNat:=by
     generalize cs[i]'(by rw[k2.1];simpa[eh]using hi')=q at h3
     cases h3;rfl
    rw[List.getElem?_eq_getElem (by rw[k2.1];simpa[eh]using hi'),h4]
    simp[Lib.byteCells,hi']
   ·rw[List.getElem?_eq_none (by rw[k2.1];simp[eh];omega),List.getElem?_eq_none (by simp[Lib.byteCells];omega)]
  subst hcs
  have k3:=k1
  rcases k1.2 with⟨hv,h0⟩|⟨g,cap,cur,hv,hbg,hg,hnc,hcm,hsz,htk⟩
  ·omega
  ·have hbeq:b=g:=by
    rcases h with h|⟨n,c,h⟩
    ·rw[hv]at h;cases h
    ·rw[hv]at h;cases h;rfl
   subst hbeq
   have hblk:bG (E.at_ j)=some b:=by rw[hv];rfl
   have hrun:=Lib.run_unsafeString_row (P:=P) w pt it o.type e hp hc b cur.size (by simp[World.shape?,hg]) l (by intro e';rw[e']at hl;simp at hl) (by omega) (by unfold maxLen at hcm;omega) (fun i x hx'=>k3.cells (g:=b) (by rw[hv];rfl) i (.int .u8 x.toNat) (by simp[Lib.byteCells,hx']))
   have hr:(execOp ρ o).run P w= .ok (.value (.string ⟨l.toArray⟩)) (w.freeze ⟨b,0,none⟩ l.length):=by
    simp only[execOp,ho,resolve,invoke,builtin,Sem.run_bind,Sem.run_pure,Result.andThen_ok,List.map_toArray,List.map_cons,List.map_nil,hz,hz',hrun]
   have hfz:∀k,k≠b→(w.freeze ⟨b,0,none⟩ l.length).heap[k]? =w.heap[k]? :=fun k hk=>by
    unfold World.freeze
    split
    ·rfl
    ·simp only[Array.getElem?_modify]
     rw[if_neg (Ne.symm hk)]
   have hsz':w.heap.size≤(w.freeze ⟨b,0,none⟩ l.length).heap.size:=by
    unfold World.freeze
    split<;>simp
   obtain⟨a1,a2⟩:=Sat.drop (w':=w.freeze ⟨b,0,none⟩ l.length) hS hj hblk hsz' (fun k _ hk=>hfz k hk)
   exact⟨_,_,_,.inl hr,a1,a2,Lib.below_freeze (Below.refl base w) (p:=⟨b,0,none⟩) hbg _,.raw _⟩
theorem CZ{x y:Operand}{ty tz:TypeId}(ho:o.op= .binOp .eql ty x y tz)(hk:ov P ty=true)(hx:aE t x=some (.raw (.pointer none)))(hy:aE t y=some (.raw (.pointer none))):bp P σ t o (.raw (.bool true)):=by
 refine vW ho hx hy fun w=>?_
 unfold ov at hk
 split at hk
 ·rename_i e hu
  have key:∀d,(Op.equalIn (d+1) ty (.pointer none) (.pointer none)).run P w= .ok true w:=fun d=>by
   simp only[Op.equalIn,Sem.run_bind,run_underlying hu,Result.andThen_ok,Sem.run_pure,Option.isNone_none]
  have:=key 9999
  simp only[Nat.reduceAdd]at this
  simp[eqGuard,binOp,Op.equal,Op.maxDepth,this]
 ·cases hk
theorem sC{x y:Operand}{ty te tz:TypeId}{i k:Nat}{ji:TypeInfo}(ho:o.op= .binOp .neq ty x y tz)(hp:P.underlying ty=some (.pointer te))(hte:P.info? te=some ji)(hx:aE t x=some (.ptr i k))(hy:aE t y=some (.ptr i k)):bp P σ t o (.raw (.bool false)):=by
 intro F base E ρ w hρ hS hT
 have h1:=az hρ hT hx
 have h2:=az hρ hT hy
 have he:ρ x=ρ y:=sN.Jf E w _ _ h1 h2
 generalize hz:ρ x=z at h1
 have hz':ρ y=z:=by rw[←he,hz]
 cases h1 with
 |ptr _ _ b hi h=>
  have hb:=Lib.run_neq_ptr_same (P:=P) w ⟨b,k,none⟩ hp hte
  have hr:(execOp ρ o).run P w= .ok (.value (.bool false)) w:=by
   simp only[execOp,ho,hz,hz',Sem.run_bind,Sem.run_pure]
   have hg:(eqGuard .neq ty x y (.pointer (some ⟨b,k,none⟩)) (.pointer (some ⟨b,k,none⟩))).run P w= .ok () w:=rfl
   rw[hg]
   simp only[Result.andThen_ok,hb]
  rw[hr]
  exact br (.raw _)
theorem xK{src dst te ty:TypeId}{x:Operand}{i:Nat}{ji:TypeInfo}{xs:List PV}(ho:o.op= .convert src dst x)(hs:P.underlying src=some (.pointer te))(hd:P.underlying dst=some .unsafePointer)(ht:P.info? te=some ji)(hj:ji.size≠0)(hx:aE t x=some (.ptr i 0))(hi:σ[i]? =some (some (.cells ty xs)))(hl:0<xs.length):bp P σ t o (.ptr i 0):=by
 intro F base E ρ w hρ hS hT
 have h1:=az hρ hT hx
 have h1':=h1
 generalize hz:ρ x=z at h1 h1'
 obtain⟨b,cs,k1,k2,k3,k4⟩:=hS.blk i _ hi
 cases h1 with
 |ptr _ _ b' hi' h=>
  have hb:b'=b:=by
   rcases h with h|⟨n,c,h⟩<;>rw[k1]at h<;>cases h
   rfl
  subst hb
  have:=Lib.run_to_unsafe (P:=P) w ⟨b',0,none⟩ hs hd ht hj (e:=ty) (cells:=cs.size) (by simp[World.shape?,k3]) (by have:=k4.1;simp at this ⊢;omega)
  simp only[execOp,ho,hz,Sem.run_bind,this,Result.andThen_ok,Sem.run_pure]
  exact br h1'
theorem uk{src dst u ty:TypeId}{x:Operand}{i:Nat}{ji:TypeInfo}{xs:List PV}(ho:o.op= .convert src dst x)(hs:P.underlying src=some .unsafePointer)(hd:P.underlying dst=some (.pointer u))(ht:P.info? u=some ji)(hx:aE t x=some (.ptr i 0))(hi:σ[i]? =some (some (.cells ty xs)))(hl:liesAt P P.depth ty (xs.length / P.cellsOf ty) 0 u 1=true):bp P σ t o (.ptr i 0):=by
 intro F base E ρ w hρ hS hT
 have h1:=az hρ hT hx
 have h1':=h1
 generalize hz:ρ x=z at h1 h1'
 obtain⟨b,cs,k1,k2,k3,k4⟩:=hS.blk i _ hi
 cases h1 with
 |ptr _ _ b' hi' h=>
  have hb:b'=b:=by
   rcases h with h|⟨n,c,h⟩<;>rw[k1]at h<;>cases h
   rfl
  subst hb
  have hsz:cs.size=xs.length:=by have:=k4.1;simpa using this
  have:=Lib.run_from_unsafe (P:=P) w ⟨b',0,none⟩ hs hd ht (e:=ty) (cells:=cs.size) (by simp[World.shape?,k3]) (by rw[hsz];exact hl)
  simp only[execOp,ho,hz,Sem.run_bind,this,Result.andThen_ok,Sem.run_pure]
  exact br h1'
theorem xw{f:FuncId}{x a:Operand}{ats:Array TypeId}{p:PV}(ho:o.op= .call {callee:=.value x,args:= #[a],argTypes:=ats})(hx:aE t x=some (.func f []))(ha:aE t a=some p)(hr:∀v w,(callFunc f #[v]).run P w= .ok (.value v) w):bp P σ t o p:=by
 intro F base E ρ w hρ hS hT
 have h1:=az hρ hT hx
 have h2:=az hρ hT ha
 generalize hz:ρ x=z at h1
 cases h1 with
 |func _ cs _ hl hr'=>
  have hcs:cs= #[]:=Array.eq_empty_of_size_eq_zero (by simpa using hl)
  subst hcs
  have h3:(execOp ρ o).run P w= .ok (.value (ρ a)) w:=by
   have:=hr (ρ a) w
   simp[execOp,ho,resolve,hz,Deferred.ofValue,invoke,this]
  rw[h3]
  exact br h2
end
end PW
end Go.Proofs.YtnegbdpggideiaaGreatDoor
namespace Go.Proofs
open Go.Shelf
open Go.RowKit in
open Go.RowKit in
open Go.RowKit in
open Go.RowKit in
open Go.RowKit in
open Go.RowKit in
open Go.RowKit in
open Go.RowKit in
open Go.RowKit in
open Go.Lib in
open Go.Lib in
open Go.Lib in
open Go.Lib in
open Go.RowKit Go.Sort Go.Lib in
def Tryz.FZ:Go.Shelf.Ren:=⟨fun|246=>220|283=>227|284=>228|285=>229|286=>230|129=>241|317=>242|318=>243|319=>244|320=>245|337=>252|338=>253|n=>n,fun|2=>2|3=>3|9=>9|4=>4|171=>248|0=>0|53=>249|37=>26|5=>5|173=>252|212=>264|51=>262|20=>20|213=>265|46=>247|232=>275|233=>276|n=>n,fun|17=>0|18=>1|19=>2|n=>n⟩
open Go.RowKit Go.Sort Go.Lib in
open Go.RowKit Go.Sort Go.Lib in
def Tryz.Fw:Go.Shelf.Ren:=⟨fun|243=>208|246=>220|283=>227|284=>228|285=>229|286=>230|129=>241|317=>242|318=>243|319=>244|320=>245|337=>252|338=>253|n=>n,fun|3=>3|9=>9|2=>2|4=>4|171=>248|0=>0|53=>249|37=>26|5=>5|173=>252|212=>264|51=>262|20=>20|213=>265|46=>247|232=>275|233=>276|n=>n,fun|17=>0|18=>1|19=>2|n=>n⟩
open Go.RowKit Go.Sort Go.Lib in
open Go.RowKit Go.Sort Go.Lib in
def Tryz.ES:Go.Shelf.Ren:=⟨fun|171=>187|243=>208|246=>220|283=>227|284=>228|285=>229|286=>230|129=>241|317=>242|318=>243|319=>244|320=>245|337=>252|338=>253|n=>n,fun|3=>3|9=>9|2=>2|4=>4|171=>248|0=>0|53=>249|37=>26|5=>5|173=>252|212=>264|51=>262|20=>20|213=>265|46=>247|232=>275|233=>276|n=>n,fun|17=>0|18=>1|19=>2|n=>n⟩
open Go.RowKit Go.Sort Go.Lib in
def Tryz.wH:Go.Shelf.Ren:=⟨fun|171=>187|243=>208|246=>220|283=>227|284=>228|285=>229|286=>230|129=>241|317=>242|318=>243|319=>244|320=>245|337=>252|338=>253|n=>n,fun|3=>3|9=>9|2=>2|4=>4|171=>248|0=>0|53=>249|37=>26|5=>5|173=>252|212=>264|51=>262|20=>20|213=>265|46=>247|232=>275|233=>276|n=>n,fun|17=>0|18=>1|19=>2|n=>n⟩
theorem Tryz.FG:Go.Proofs.Lays.n171 Tryz.prog Tryz.wH:= {
 mixed:=by kernel_rfl
 f129:=Tryz.func241.trans (congrArg some (by kernel_rfl))
 f171:=Tryz.func187.trans (congrArg some (by kernel_rfl))
 f243:=Tryz.func208.trans (congrArg some (by kernel_rfl))
 f246:=Tryz.func220.trans (congrArg some (by kernel_rfl))
 f283:=Tryz.func227.trans (congrArg some (by kernel_rfl))
 f284:=Tryz.func228.trans (congrArg some (by kernel_rfl))
 f285:=Tryz.func229.trans (congrArg some (by kernel_rfl))
 f286:=Tryz.func230.trans (congrArg some (by kernel_rfl))
 f317:=Tryz.func242.trans (congrArg some (by kernel_rfl))
 f318:=Tryz.func243.trans (congrArg some (by kernel_rfl))
 f319:=Tryz.func244.trans (congrArg some (by kernel_rfl))
 f320:=Tryz.func245.trans (congrArg some (by kernel_rfl))
 f337:=Tryz.func252.trans (congrArg some (by kernel_rfl))
 f338:=Tryz.func253.trans (congrArg some (by kernel_rfl))
 t0:=Tryz.underlying0
 a0:=Tryz.isAgg0
 z0:=Tryz.sizeOf0
 v0:=Tryz.zeroValue0
 t2:=Tryz.underlying2
 a2:=Tryz.isAgg2
 z2:=Tryz.sizeOf2
 v2:=Tryz.zeroValue2
 t3:=Tryz.underlying3
 a3:=Tryz.isAgg3
 z3:=Tryz.sizeOf3
 v3:=Tryz.zeroValue3
 t4:=Tryz.underlying4
 a4:=Tryz.isAgg4
 z4:=Tryz.sizeOf4
 v4:=Tryz.zeroValue4
 t5:=Tryz.underlying5
 a5:=Tryz.isAgg5
 z5:=Tryz.sizeOf5
 v5:=Tryz.zeroValue5
 t9:=Tryz.underlying9
 a9:=Tryz.isAgg9
 z9:=Tryz.sizeOf9
 v9:=Tryz.zeroValue9
 t20:=Tryz.underlying20
 a20:=Tryz.isAgg20
 z20:=Tryz.sizeOf20
 v20:=Tryz.zeroValue20
 t37:=Tryz.underlying26
 a37:=Tryz.isAgg26
 z37:=Tryz.sizeOf26
 v37:=Tryz.zeroValue26
 t46:=Tryz.underlying247
 a46:=Tryz.isAgg247
 z46:=Tryz.sizeOf247
 v46:=Tryz.zeroValue247
 t51:=Tryz.underlying262
 a51:=Tryz.isAgg262
 z51:=Tryz.sizeOf262
 v51:=Tryz.zeroValue262
 t53:=Tryz.underlying249
 a53:=Tryz.isAgg249
 z53:=Tryz.sizeOf249
 v53:=Tryz.zeroValue249
 t171:=Tryz.underlying248
 a171:=Tryz.isAgg248
 z171:=Tryz.sizeOf248
 v171:=Tryz.zeroValue248
 t173:=Tryz.underlying252
 a173:=Tryz.isAgg252
 z173:=Tryz.sizeOf252
 v173:=Tryz.zeroValue252
 t212:=Tryz.underlying264
 a212:=Tryz.isAgg264
 z212:=Tryz.sizeOf264
 v212:=Tryz.zeroValue264
 t213:=Tryz.underlying265
 a213:=Tryz.isAgg265
 z213:=Tryz.sizeOf265
 t232:=Tryz.underlying275
 a232:=Tryz.isAgg275
 z232:=Tryz.sizeOf275
 v232:=Tryz.zeroValue275
 t233:=Tryz.underlying276
 a233:=Tryz.isAgg276
 z233:=Tryz.sizeOf276
 v233:=Tryz.zeroValue276
 g17:=by kernel_rfl
 g18:=by kernel_rfl
 g19:=by kernel_rfl}
open Go.RowKit Go.Sort Go.Lib in
theorem Tryz.strconv_Itoa_small(i:Nat)(hi:i<100)(w:World):
  Calls Tryz.prog 187 #[.int .i64 i] w fun e w'=>e= .returned (.string ⟨(Lib.decDigits i).toArray⟩)∧w'=w:=Any.strconv_Itoa_small Tryz.FG i hi w
end Go.Proofs
namespace Go.Proofs.YtnegbdpggideiaaGreatDoor
namespace PW
open Go.RowKit cH Mem
def CH(j:Nat)(u:Bool)(l:List UInt8):cg:=some (.cells 214 [if u then .ptr 0 0 else .raw (.pointer none),.own j])::(List.replicate (j - 1) none++[some (.row 5 1 l.length (eh l))])
theorem vt:∃i,Tryz.prog.info? 214=some i∧i.size=2:=by
 have h:(Tryz.prog.info? 214).map (·.size)=some 2:=by kernel_rfl
 obtain⟨i,h1,h2⟩:=Option.map_eq_some_iff.1 h
 exact⟨i,h1,h2⟩
theorem uF(v:Value)(w:World):(callFunc 219 #[v]).run Tryz.prog w= .ok (.value v) w:=by
 rw[run_callFunc_extern Tryz.func219 (by kernel_rfl) (by kernel_rfl) (by kernel_rfl) (e:=Extern.AbiNoEscape.same) (by kernel_rfl),Lib.run_noEscape]
 rfl
theorem rm:zI Tryz.prog 26 9=some 5:=by kernel_rfl
theorem Fj(u:Bool)(l:List UInt8):bV Tryz.prog 207 [.ptr 0 0] (CH 1 u l) (fun _ σ'=>σ'=CH 1 true l):=by
 obtain⟨ji,hji,hjs⟩:=vt
 refine ct Tryz.func207 rfl Tryz.ntmps207 rfl ?_
 cases u
 ·refine aH<|bK (fw rfl rfl) rfl rfl rfl ?_
  refine bK (jn rfl rfl) rfl rfl rfl ?_
  refine bK (bI rfl) rfl rfl rfl ?_
  refine bK (dq rfl (bF.tk.get rfl) rfl rfl rfl) rfl rfl rfl ?_
  refine bK (CZ rfl (bF.pk.get rfl) rfl rfl) rfl rfl rfl (aU ?_)
  refine ET rfl ?_
  refine bq<|bK (fw rfl rfl) rfl rfl rfl ?_
  refine bK (fw rfl rfl) rfl rfl rfl ?_
  refine bK (xK rfl Tryz.underlying212 Tryz.underlying241 hji (by rw[hjs];decide) rfl rfl (by decide)) rfl rfl rfl ?_
  refine bK (xw rfl rfl rfl uF) rfl rfl rfl ?_
  refine bK (uk rfl Tryz.underlying241 Tryz.underlying212 hji rfl rfl (by kernel_rfl)) rfl rfl rfl ?_
  refine bK (jn rfl rfl) rfl rfl rfl ?_
  refine bK (bI rfl) rfl rfl rfl ?_
  refine bh (cI rfl (bF.tk.get rfl) rfl rfl rfl (Nat.le_of_ble_eq_true rfl)) rfl rfl (aU ?_)
  exact⟨_,.nil,rfl⟩
 ·refine aH<|bK (fw rfl rfl) rfl rfl rfl ?_
  refine bK (jn rfl rfl) rfl rfl rfl ?_
  refine bK (bI rfl) rfl rfl rfl ?_
  refine bK (dq rfl (bF.tk.get rfl) rfl rfl rfl) rfl rfl rfl ?_
  refine bK (qb rfl (bF.pk.get rfl) rfl rfl) rfl rfl rfl (aU ?_)
  refine pS rfl ?_
  refine aH<|bK (fw rfl rfl) rfl rfl rfl ?_
  refine bK (jn rfl rfl) rfl rfl rfl ?_
  refine bK (bI rfl) rfl rfl rfl ?_
  refine bK (dq rfl (bF.tk.get rfl) rfl rfl rfl) rfl rfl rfl ?_
  refine bK (fw rfl rfl) rfl rfl rfl ?_
  refine bK (sC rfl Tryz.underlying212 hji rfl rfl) rfl rfl rfl (aU ?_)
  refine pS rfl ?_
  exact ak ⟨_,.nil,rfl⟩
theorem H2(u:Bool)(l:List UInt8)(s:ByteArray)(hn:l.length+s.size≤1000000000):bV Tryz.prog 186 [.ptr 0 0,.raw (.string s)] (CH 1 u l) (fun _ σ'=>σ'=CH 2 true (l++s.data.toList)):=by
 refine ct Tryz.func186 rfl Tryz.ntmps186 rfl<|ab (.a 2 rfl<|.k [0,1] rfl)<|aH<|aq 1 rfl<|cP rfl rfl (bV.mono (Fj u l) (fun _ σ' h=>?_))
 subst h
 refine aD [0,1] rfl ?_
 refine aH<|aq 6 rfl<|cf (pn rfl rm rfl rfl rfl (by omega)) rfl<|aq 3 rfl<|aD [1] rfl ?_
 refine ab (.a 1 rfl<|.v (vR rfl Tryz.underlying9 rfl) rfl<|.a 2 rfl<|.k [4,5] rfl)<|ao<|⟨_,aA.of rfl,?_⟩
 have hl:(l++s.data.toList).length=l.length+s.size:=by simp
 unfold CH
 rw[hl,←jI]
 rfl
theorem Gk(u:Bool)(l:List UInt8)(hl:0<l.length):bV Tryz.prog 189 [.ptr 0 0] (CH 1 u l) (fun r _=>r= .raw (.string ⟨l.toArray⟩)):=by
 refine ct Tryz.func189 rfl Tryz.ntmps189 rfl ?_
 cases u
 all_goals
  refine ab (.a 1 rfl<|.k [0] rfl)<|lD 10 20 mixed (
   .val [0] rfl (bI rfl) rfl rfl<|
   .val [3] rfl (bI rfl) rfl rfl<|
   .val [4] rfl (bI rfl) rfl rfl<|
   .val [5] rfl (bI rfl) rfl rfl<|
   .val [6] rfl (wj rfl rfl rfl hl) rfl rfl<|
   .val [0] rfl (bI rfl) rfl rfl<|
   .val [8] rfl (bI rfl) rfl rfl<|
   .val [9] rfl (bI rfl) rfl rfl<|
   .val [10] rfl (bI rfl) rfl rfl<|
   .val [11] rfl (bI rfl) rfl rfl<|
   .nil) (by kernel_rfl) rfl rfl (bd (ks:=[7,12]) rfl) ?_
  refine cf (vo rfl Tryz.underlying233 (by kernel_rfl) rfl rfl rfl hl) rfl<|aq 1 rfl<|aD [2] rfl ?_
  exact ao<|⟨_,aA.of rfl,rfl⟩
def Ao(l:List UInt8):PV:=.raw (.string ⟨l.toArray⟩)
theorem mW(i:Nat)(hi:i<100):Can Tryz.prog 187 [num i] (· =Ao (Lib.decDigits i)):=fun F w vs _ _ hR=>by
 obtain⟨v,rfl,h1⟩:=Io hR
 cases dS h1
 refine(Tryz.strconv_Itoa_small i hi w).mono ?_
 rintro e w' ⟨rfl,rfl⟩
 exact⟨_,rfl,Ext.refl _,_,rfl,.raw _⟩
instance (l:List UInt8):IsPure (Ao l):=by unfold Ao;infer_instance
instance (l:List UInt8):eT (Ao l):=by unfold Ao;infer_instance
end PW
end Go.Proofs.YtnegbdpggideiaaGreatDoor
namespace Go.Proofs.YtnegbdpggideiaaGreatDoor
namespace PW
open Go.RowKit cH Mem Net
def Ar(l:List UInt8)(x:Option db):cg:=[some (.cells 214 [.ptr 0 0,.own 1]),some (.row 5 1 l.length (eh l)),x]
def AP(l:List UInt8)(x:Option db):cg:=[some (.cells 214 [.ptr 0 0,.own 3]),none,x,some (.row 5 1 l.length (eh l))]
theorem zf(l:List UInt8)(x:Option db):bV Tryz.prog 207 [.ptr 0 0] (Ar l x) (fun _ σ'=>σ'=Ar l x):=by
 obtain⟨ji,hji,hjs⟩:=vt
 refine ct Tryz.func207 rfl Tryz.ntmps207 rfl<|aH<|bK (fw rfl rfl) rfl rfl rfl ?_
 refine bK (jn rfl rfl) rfl rfl rfl ?_
 refine bK (bI rfl) rfl rfl rfl ?_
 refine bK (dq rfl (bF.tk.get rfl) rfl rfl rfl) rfl rfl rfl ?_
 refine bK (qb rfl (bF.pk.get rfl) rfl rfl) rfl rfl rfl (aU ?_)
 refine pS rfl ?_
 refine aH<|bK (fw rfl rfl) rfl rfl rfl ?_
 refine bK (jn rfl rfl) rfl rfl rfl ?_
 refine bK (bI rfl) rfl rfl rfl ?_
 refine bK (dq rfl (bF.tk.get rfl) rfl rfl rfl) rfl rfl rfl ?_
 refine bK (fw rfl rfl) rfl rfl rfl ?_
 refine bK (sC rfl Tryz.underlying212 hji rfl rfl) rfl rfl rfl (aU ?_)
 refine pS rfl ?_
 exact ak ⟨_,.nil,rfl⟩
theorem GF(l:List UInt8)(x:Option db)(s:ByteArray)(hn:l.length+s.size≤1000000000):bV Tryz.prog 186 [.ptr 0 0,.raw (.string s)] (Ar l x) (fun _ σ'=>σ'=AP (l++s.data.toList) x):=by
 refine ct Tryz.func186 rfl Tryz.ntmps186 rfl<|ab (.a 2 rfl<|.k [0,1] rfl)<|aH<|aq 1 rfl<|cP rfl rfl (bV.mono (zf l x) (fun _ σ' h=>?_))
 subst h
 refine aD [0,1] rfl ?_
 refine aH<|aq 6 rfl<|cf (pn rfl rm rfl rfl rfl (by omega)) rfl<|aq 3 rfl<|aD [1] rfl ?_
 refine ab (.a 1 rfl<|.v (vR rfl Tryz.underlying9 rfl) rfl<|.a 2 rfl<|.k [4,5] rfl)<|ao<|⟨_,aA.of rfl,?_⟩
 have hl:(l++s.data.toList).length=l.length+s.size:=by simp
 unfold AP
 rw[hl,←jI]
 rfl
theorem BQ(l:List UInt8)(x:Option db)(c:UInt8)(hn:l.length≤1000000000):bV Tryz.prog 188 [.ptr 0 0,.raw (.int .u8 c.toNat)] (Ar l x) (fun _ σ'=>σ'=AP (l++[c]) x):=by
 refine ct Tryz.func188 rfl Tryz.ntmps188 rfl<|ab (.a 1 rfl<|.k [0,1] rfl)<|aH<|aq 1 rfl<|cP rfl rfl (bV.mono (zf l x) (fun _ σ' h=>?_))
 subst h
 refine aD [0,1] rfl ?_
 refine aH<|aq 7 rfl<|cf (bu rfl (bF.rk.get rfl) rfl rfl rfl rfl (by unfold maxLen;omega)) rfl<|aq 3 rfl<|aD [] rfl ?_
 refine ab (.a 1 rfl<|.k [4] rfl)<|ao<|⟨_,aA.of rfl,?_⟩
 unfold AP
 rw[←jI]
 simp only[List.length_append,List.length_singleton]
 rfl
theorem HK{P:Program}{M:Nat}{c:Code}{t:b9}{Q:Exit→St→Prop}{l:List UInt8}{ty:TypeId}{xs:List PV}[aL xs](hT:mS [0,3,2] t t)(h:W P M 0 c ⟨t,Ar l (some (.cells ty xs))⟩ Q):W P M 0 c ⟨t,AP l (some (.cells ty xs))⟩ Q:=
 dy [0,3,2] hT (.kept rfl (.cells (aC.cons (Ren.ptr (i:=0) rfl)<|aC.cons (Ren.own (i:=1) rfl) aC.nil))<|.kept rfl (.row aC.pure)<|.kept rfl (.cells aC.pure)<|.nil) rfl rfl h
theorem IV{P:Program}{M:Nat}{c:Code}{t:b9}{Q:Exit→St→Prop}{l:List UInt8}{x:Option db}(hT:mS [0,3] t t)(h:W P M 0 c ⟨t,CH 1 true l⟩ Q):W P M 0 c ⟨t,AP l x⟩ Q:=
 dy [0,3] hT (.kept rfl (.cells (aC.cons (Ren.ptr (i:=0) rfl)<|aC.cons (Ren.own (i:=1) rfl) aC.nil))<|.kept rfl (.row aC.pure)<|.nil) rfl rfl h
theorem IY{P:Program}{M:Nat}{c:Code}{t:b9}{Q:Exit→St→Prop}{l:List UInt8}(hT:mS [0,2] t t)(h:W P M 0 c ⟨t,CH 1 true l⟩ Q):W P M 0 c ⟨t,CH 2 true l⟩ Q:=
 dy [0,2] hT (.kept rfl (.cells (aC.cons (Ren.ptr (i:=0) rfl)<|aC.cons (Ren.own (i:=1) rfl) aC.nil))<|.kept rfl (.row aC.pure)<|.nil) rfl rfl h
theorem AN(s:List cq)(i:Nat)(g:cq)(h:s[i]? =some g)(n:Nat):dV n (s.take (i+1))=(((dV n (s.take i)++[32])++Lib.decDigits g.kind.toNat)++[58])++Lib.decDigits g.num.toNat:=by
 unfold dV
 rw[List.take_add_one,h]
 simp[D9]
theorem yn{s:List cq}(h:i7 s)(i:Nat):i7 (s.take i):=fun g hg=>h g (List.mem_of_mem_take hg)
theorem Ae{n:Nat}{s:List cq}(hn:n<100)(h:i7 s):(dV n s).length≤2+s.length*6:=by
 have h1:=kJ hn
 have h2:=DI h
 unfold dV
 rw[List.length_append]
 omega
theorem DD(n:Nat)(s:List cq)(hn:n<100)(hs:i7 s)(hl:s.length≤1000):Can Tryz.prog 159 [num n,cC s] (· =Ao (dV n s)):=by
 refine aF Tryz.func159 rfl Tryz.ntmps159 rfl<|ab (.a 1 rfl<|.k [0,1] rfl)<|aH<|aq 1 rfl<|aD [0,1,5] rfl ?_
 refine bZ 0 1 5 1 rfl rfl ?_
 refine ei (σ':=CH 1 false []) rfl ?_
 refine aH<|aq 1 rfl<|dJ rfl (mW n hn) rfl<|cP rfl rfl (bV.mono (H2 false [] ⟨(Lib.decDigits n).toArray⟩ (show([]:List UInt8).length+(Lib.decDigits n).toArray.size≤1000000000 by have:=kJ hn;simp;omega)) (fun _ σ' h=>?_))
 subst h
 refine aD [1,5] rfl ?_
 refine IY (.cons 1 rfl Ren.pure<|.cons 5 rfl (Ren.ptr (i:=0) rfl)<|.nil) ?_
 refine aj<|ab (.a 3 rfl<|.k [5,11,12,13] rfl)<|au<|ee [5,11,12,13] rfl<|bf (fun r st=>∃i,i≤s.length∧r=s.length - i∧st=⟨[(5,.ptr 0 0),(11,cC s),(12,num s.length),(13,num i)],CH 1 true (dV n (s.take i))⟩) s.length ⟨0,by omega,by omega,by simp[dV]⟩ ?_
 rintro r st ⟨i,hi,rfl,rfl⟩
 refine ab (.a 1 rfl<|.k [5,11,12,13,14] rfl)<|aj<|af rfl (fun hc=>?_) (fun hc=>?_)
 ·have hlt:i<s.length:=by have:=of_decide_eq_true hc;omega
  obtain⟨g,hg,_⟩:=BD s i hlt
  obtain⟨a1,a2,a3,a4⟩:=hs g (List.mem_of_getElem? hg)
  have hst:=AN s i g hg n
  have hln:=Ae hn (yn hs i)
  rw[List.length_take]at hln
  obtain⟨gk,gn⟩:=g
  simp only at a1 a2 a3 a4 hst
  obtain⟨ka,rfl⟩:=Int.eq_ofNat_of_zero_le a1
  obtain⟨na,rfl⟩:=Int.eq_ofNat_of_zero_le a3
  have hk2:=kJ (n:=ka) (by omega)
  have hn2:=kJ (n:=na) (by omega)
  rw[Int.toNat_natCast,Int.toNat_natCast]at hst
  have hmin:min i s.length=i:=by omega
  rw[hmin]at hln
  generalize hl0:dV n (s.take i)=l0 at*
  refine ak<|aj<|au<|aH<|bA (aI ((i*2)) rfl) rfl<|bA (ku rfl (jN s i _ hg) rfl) rfl<|aq 2 rfl<|aD [5,7,11,12,13] rfl ?_
  refine ei (σ':=Ar l0 (some (.cells 103 (mL ⟨(ka:Int),(na:Int)⟩)))) rfl ?_
  refine aH<|cP rfl rfl (bV.mono (BQ l0 _ 32 (by omega)) (fun _ σ' h=>?_))
  subst h
  refine aD [5,7,11,12,13] rfl ?_
  refine HK (.cons 5 rfl (Ren.ptr (i:=0) rfl)<|.cons 7 rfl (Ren.ptr (i:=2) rfl)<|.cons 11 rfl Ren.pure<|.cons 12 rfl Ren.pure<|.cons 13 rfl Ren.pure<|.nil) ?_
  refine aH<|aq 1 rfl<|bA (aK rfl (rfl)) rfl<|dJ rfl (mW ka (by omega)) rfl<|cP rfl rfl (bV.mono (GF (l0++[32]) _ ⟨(Lib.decDigits ka).toArray⟩ (show(l0++[32]).length+(Lib.decDigits ka).toArray.size≤1000000000 by simp;omega)) (fun _ σ' h=>?_))
  subst h
  refine aD [5,7,11,12,13] rfl ?_
  refine HK (.cons 5 rfl (Ren.ptr (i:=0) rfl)<|.cons 7 rfl (Ren.ptr (i:=2) rfl)<|.cons 11 rfl Ren.pure<|.cons 12 rfl Ren.pure<|.cons 13 rfl Ren.pure<|.nil) ?_
  refine aH<|cP rfl rfl (bV.mono (BQ ((l0++[32])++Lib.decDigits ka) _ 58 (by simp;omega)) (fun _ σ' h=>?_))
  subst h
  refine aD [5,7,11,12,13] rfl ?_
  refine HK (.cons 5 rfl (Ren.ptr (i:=0) rfl)<|.cons 7 rfl (Ren.ptr (i:=2) rfl)<|.cons 11 rfl Ren.pure<|.cons 12 rfl Ren.pure<|.cons 13 rfl Ren.pure<|.nil) ?_
  refine bq<|aq 1 rfl<|bA (aK rfl (rfl)) rfl<|dJ rfl (mW na (by omega)) rfl<|cP rfl rfl (bV.mono (GF (((l0++[32])++Lib.decDigits ka)++[58]) _ ⟨(Lib.decDigits na).toArray⟩ (show(((l0++[32])++Lib.decDigits ka)++[58]).length+(Lib.decDigits na).toArray.size≤1000000000 by simp;omega)) (fun _ σ' h=>?_))
  subst h
  refine aD [5,11,12,13] rfl ?_
  refine IV (.cons 5 rfl (Ren.ptr (i:=0) rfl)<|.cons 11 rfl Ren.pure<|.cons 12 rfl Ren.pure<|.cons 13 rfl Ren.pure<|.nil) ?_
  refine aB (.v (aP rfl) rfl<|.a 1 rfl<|.k [5,11,12,13] rfl) ?_
  exact⟨s.length - (i+1),by omega,i+1,by omega,rfl,by rw[hst];rfl⟩
 ·have hie:i=s.length:=by have:=of_decide_eq_false hc;omega
  subst hie
  rw[List.take_length]
  refine aY<|aH<|cP rfl rfl (bV.mono (Gk true (dV n s) (by have:=kJ hn;unfold dV;simp;omega)) (fun _ σ' h=>?_))
  subst h
  refine aq 1 rfl<|aD [4] rfl ?_
  exact ao<|⟨_,_,aA.of rfl,ax.pure,rfl⟩
theorem xU(T:an)(L:List eD)(n:Int)(hv:av T=true)(hL:(L.length:Int)=T.nodes)(hok:∀(i:Nat) x,L[i]? =some x→x.node=(i:Int)∧eV T x=true)(hn:aV T n=true):Can Tryz.prog 157 [aJ T,fP L,num n] (· =num 0):=by
 have hN:=gw hv
 obtain⟨q1,hq1⟩:∃q,av T=q:=⟨_,rfl⟩
 obtain⟨q2,hq2⟩:∃q,decide ((L.length:Int)≠T.nodes)=q:=⟨_,rfl⟩
 refine aF Tryz.func157 rfl Tryz.ntmps157 rfl<|ab (.a 2 rfl<|.k [1,2,3] rfl)<|aj<|bx 18 (.raw (.bool (!q1 ||q2))) [1,2,3] rfl ?_ ?_
 ·refine .a 1 rfl<|.c rfl (hq1▸er T) rfl<|.a 2 rfl<|?_
  cases q1
  ·exact .a 6 rfl<|.k [18,1,2,3] rfl
  ·exact .a 3 rfl<|.v (aK rfl (rfl)) rfl<|.v (b7 rfl (hq2)) rfl<|.a 1 rfl<|.k [18,1,2,3] rfl
 refine af rfl (fun hc=>?_) (fun hc=>?_)
 ·rw[←hq1,hv,←hq2,decide_eq_false (by rw[hL];simp)]at hc
  cases hc
 ·refine ak<|aj<|ab (.a 3 rfl<|.k [2,3,19,20,21] rfl)<|au<|ee [2,3,19,20,21] rfl<|bf (fun r st=>∃i,i≤L.length∧r=L.length - i∧st=⟨[(2,num n),(3,.aX (bn T) 0),(19,fP L),(20,num L.length),(21,num i)],[]⟩) L.length ⟨0,by omega,by omega,rfl⟩ ?_
  rintro r st ⟨i,hi,rfl,rfl⟩
  refine ab (.a 1 rfl<|.k [2,3,19,20,21,22] rfl)<|aj<|af rfl (fun hc=>?_) (fun hc=>?_)
  ·have hlt:i<L.length:=by have:=of_decide_eq_true hc;omega
   obtain⟨x,hx⟩:∃x,L[i]? =some x:=⟨_,List.getElem?_eq_getElem hlt⟩
   obtain⟨h1,h2⟩:=hok i x hx
   obtain⟨q3,hq3⟩:∃q,decide (x.node≠(i:Int))=q:=⟨_,rfl⟩
   obtain⟨q4,hq4⟩:∃q,eV T x=q:=⟨_,rfl⟩
   refine ak<|aj<|au<|aH<|aq 1 rfl<|bA (aI ((i*3)) rfl) rfl<|bA (ku rfl (ml L i x hx) rfl) rfl<|aq 3 rfl<|aD [2,3,7,8,19,20,21] rfl ?_
   refine bx 35 (.raw (.bool (q3|| !q4))) [2,3,19,20,21] rfl ?_ ?_
   ·refine .a 1 rfl<|.v (aK rfl ((rfl:(fe x)[0]? =some (num x.node)))) rfl<|.a 1 rfl<|.v (b7 rfl (hq3)) rfl<|.a 1 rfl<|?_
    cases q3
    ·exact .a 1 rfl<|.v (ku rfl ((rfl:(fe x).take 3=fe x)) rfl) rfl<|.c rfl (hq4▸p8 T x) rfl<|.a 2 rfl<|.k [35,2,3,19,20,21] rfl
    ·exact .a 5 rfl<|.k [35,2,3,19,20,21] rfl
   refine af rfl (fun hc=>?_) (fun hc=>?_)
   ·rw[←hq3,←hq4,h2,decide_eq_false (by rw[h1];simp)]at hc
    cases hc
   ·refine ak<|dy [] (.c 2<|.c 3<|.c 19<|.c 20<|.c 21<|.nil) .nil rfl rfl ?_
    refine aB (.v (aP rfl) rfl<|.a 1 rfl<|.k [2,3,19,20,21] rfl) ?_
    exact⟨L.length - (i+1),by omega,i+1,by omega,rfl,rfl⟩
  ·have hie:i=L.length:=by have:=of_decide_eq_false hc;omega
   refine aY<|aj<|ab (.a 2 rfl<|.c rfl (hn▸dv T n) rfl<|.a 1 rfl<|.k [40] rfl)<|af rfl (fun hc=>?_) (fun hc=>?_)
   ·cases hc
   ·exact ak<|ab (.a 1 rfl<|.k [6] rfl)<|ao<|⟨_,_,aA.of rfl,ax.pure,rfl⟩
end PW
end Go.Proofs.YtnegbdpggideiaaGreatDoor
