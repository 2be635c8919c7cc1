/- MixtureRepair returns true for every input: a packet from a node in the state Repair with a listed entry has one path, which avoids the assumed component and begins with the arc of the entry. Package-level tables start as the program's text lays them. -/
import Derived.Test.YtnegbdpggideiaaGreatDoorCardMRB15
set_option linter.unusedVariables false
set_option linter.unusedSimpArgs false
set_option maxRecDepth 10000
set_option maxHeartbeats 1000000
namespace Go.Proofs.YtnegbdpggideiaaGreatDoor
namespace PW
open Go.RowKit cH Mem Net fw
noncomputable def Kz(T:an)(D:List Bool)(g:Int)(d n:Nat):Bool:= !((decide ((n:Int)≠g)&&decide (0≤dN T [] d n))&&decide (dN T D d n<0))
noncomputable def qV(T:an)(D:List Bool)(g:Int)(d m:Nat):Bool:=(List.range m).all (Kz T D g d)
noncomputable def su(T:an)(D:List Bool)(g d:Int):Bool:=(decide (cf T [] [d]=0)&&decide (cf T D [d]=0))&&qV T D g d.toNat T.nodes.toNat
theorem Ct(T:an)(D:List Bool)(g:Int)(d m:Nat):qV T D g d (m+1)=(qV T D g d m&&Kz T D g d m):=by simp[qV,List.range_succ]
theorem Cw(T:an)(D:List Bool)(g d:Int):Can Tryz.prog 86 [aN T,aQ D,num g,num d] (· =flag (su T D g d)):=by
 obtain⟨q1,hq1⟩:∃q,decide (cf T [] [d]≠0)=q:=⟨_,rfl⟩
 obtain⟨q2,hq2⟩:∃q,decide (cf T D [d]≠0)=q:=⟨_,rfl⟩
 have hE:su T D g d=(!(q1||q2)&&qV T D g d.toNat T.nodes.toNat):=by
  unfold su
  rw[←hq1,←hq2]
  by_cases h1:cf T [] [d]=0<;>by_cases h2:cf T D [d]=0<;>simp[h1,h2]
 have hA:=gU T [] d
 have hB:=gU T D d
 unfold dh at hA hB
 rw[hE]
 refine aE Tryz.func86 rfl Tryz.ntmps86 rfl<|ab (.a 2 rfl<|.k [1,2,3,4] rfl)<|ab (.a 2 rfl<|.v (sn rfl (aj.cons aB.pure<|aj.cons aB.bT<|aj.cons aB.pure aj.nil) (hA)) rfl<|.a 5 rfl<|.k [1,2,3,4,9,10] rfl)<|ab (.a 3 rfl<|.c rfl (hB) rfl<|.a 5 rfl<|.k [2,4,9,10,11,12] rfl)<|ah<|bu 32 (.raw (.bool (q1||q2))) [2,4,9,11] rfl ?_ ?_
 ·refine .a 1 rfl<|.v (b9 rfl (hq1)) rfl<|.a 1 rfl<|?_
  cases q1
  ·exact .a 1 rfl<|.v (b9 rfl (hq2)) rfl<|.a 1 rfl<|.k [32,2,4,9,11] rfl
  ·exact .a 3 rfl<|.k [32,2,4,9,11] rfl
 refine ag rfl (fun h1=>?_) (fun h1=>?_)
 ·rw[h1]
  exact ab (.a 1 rfl<|.k [8] rfl)<|aq<|⟨_,_,aA.of rfl,aB.pure,rfl⟩
 ·obtain⟨h2,h3⟩:=Bool.or_eq_false_iff.1 h1
  have e1:cf T [] [d]=0:=by rw[h2]at hq1;simpa using hq1
  have e2:cf T D [d]=0:=by rw[h3]at hq2;simpa using hq2
  obtain⟨hv,hf,hn⟩:=pG e2
  have hdn:=aT.1 (hn d (by simp))
  obtain⟨y,hy⟩:=Int.eq_ofNat_of_zero_le hdn.1
  subst hy
  rw[Int.toNat_natCast]
  have hdl:(y:Int)<T.nodes:=hdn.2
  obtain⟨ha1,_⟩:=cI (D:=[]) hv (dir:=false) hdl
  obtain⟨hb1,_⟩:=cI (D:=D) hv (dir:=false) hdl
  have hNl:=(aM hv).nodes
  obtain⟨N,hNN⟩:∃N:Nat,T.nodes=(N:Int):=⟨T.nodes.toNat,by omega⟩
  have hNt:T.nodes.toNat=N:=by omega
  rw[if_pos e1,if_pos e2,hNt,h1]
  have hst:∀m,qV T D g y (m+1)=(qV T D g y m&& !((decide ((m:Int)≠g)&&decide (0≤(bn T [] y false).getD m 0))&&decide ((bn T D y false).getD m 0<0))):=fun m=>Ct T D g y m
  have hlow:∀m,m<N→qV T D g y (m+1)=false→qV T D g y N=false:=fun m hm h=>mX h (by omega)
  generalize bn T [] y false=A at*
  generalize bn T D y false=B at*
  refine ai<|ah<|ab (.a 1 rfl<|.k [2,4,9,11,13] rfl)<|au<|eu [2,4,9,11,13] rfl<|bf (fun r s=>∃m,m≤N∧r=N - m∧qV T D g y m=true∧s=⟨[(2,num g),(4,.aY (bq T) 0),(9,aw A),(11,aw B),(13,num m)],[]⟩) N ⟨0,by omega,by omega,rfl,rfl⟩ ?_
  rintro r s ⟨m,hm,rfl,hw,rfl⟩
  refine ah<|ab (.a 2 rfl<|.v (aL rfl ((show some (num T.nodes)=some (num (N:Int)) by rw[hNN]))) rfl<|.a 1 rfl<|.k [2,4,9,11,13,36] rfl)<|ag rfl (fun h5=>?_) (fun h5=>?_)
  ·have hlt:m<N:=by have:=tt h5;omega
   obtain⟨q3,hq3⟩:∃q,decide ((m:Int)≠g)=q:=⟨_,rfl⟩
   obtain⟨q4,hq4⟩:∃q,decide (0≤A.getD m 0)=q:=⟨_,rfl⟩
   obtain⟨q5,hq5⟩:∃q,decide (B.getD m 0<0)=q:=⟨_,rfl⟩
   have hs:=hst m
   rw[hw,Bool.true_and,hq3,hq4,hq5]at hs
   refine ai<|ah<|au<|bu 55 (.raw (.bool ((q3&&q4)&&q5))) [2,4,9,11,13] rfl ?_ ?_
   ·refine .a 2 rfl<|.v (b9 rfl (hq3)) rfl<|.a 1 rfl<|?_
    cases q3
    ·exact .a 13 rfl<|.k [55,2,4,9,11,13] rfl
    ·refine .a 2 rfl<|.v (aJ (m) rfl) rfl<|.v (aL rfl (ax A m (by omega))) rfl<|.v (b9 rfl (hq4)) rfl<|.a 2 rfl<|?_
     cases q4
     ·exact .a 6 rfl<|.k [55,2,4,9,11,13] rfl
     ·exact .a 2 rfl<|.v (aJ (m) rfl) rfl<|.v (aL rfl (ax B m (by omega))) rfl<|.v (b9 rfl (hq5)) rfl<|.a 1 rfl<|.k [55,2,4,9,11,13] rfl
   refine ag rfl (fun h6=>?_) (fun h6=>?_)
   ·rw[h6]at hs
    exact ab (.a 1 rfl<|.k [8] rfl)<|aq<|⟨_,_,aA.of rfl,aB.pure,by rw[hlow m hlt hs];rfl⟩
   ·rw[h6]at hs
    refine ai<|az (.a 1 rfl<|.v (aS rfl) rfl<|.a 1 rfl<|.k [2,4,9,11,13] rfl) ?_
    exact⟨N - (m+1),by omega,m+1,by omega,rfl,hs,rfl⟩
  ·have hme:m=N:=by have:=ff h5;omega
   subst hme
   exact ba<|ab (.a 1 rfl<|.k [8] rfl)<|aq<|⟨_,_,aA.of rfl,aB.pure,by rw[hw];rfl⟩
theorem Eo{T:an}{D:List Bool}{g:Int}{d:Nat}(h:su T D g d=true){m:Nat}(hm:(m:Int)<T.nodes)(hg:(m:Int)≠g)(h0:0≤dN T [] d m):0≤dN T D d m:=by
 unfold su qV at h
 rw[Int.toNat_natCast]at h
 have h2:=List.all_eq_true.1 (Bool.and_eq_true_iff.1 h).2 m (List.mem_range.2 (by omega))
 unfold Kz at h2
 simp only[Bool.not_eq_true',Bool.and_eq_false_iff,decide_eq_false_iff_not]at h2
 omega
noncomputable def qb(T:an)(k x:Int):List Bool:=if da T k x=0 then aC T k x else []
def IM(k x:Int):Int:=if k=2 then x else -1
noncomputable def yD(c:uQ):Bool:= !nR c&&(((fI c.T c.k c.x c.S&& !pn c.k c.x c.n)&& !pn c.k c.x c.d)&&gh c.T (qb c.T c.k c.x) c.n c.d)
noncomputable def vu(c:uQ):Bool:=(yD c&&ts c.T c.k c.x)&&su c.T (qb c.T c.k c.x) (IM c.k c.x) c.d
def AH(c:uQ):Bool:=dL c.k c.x (fun n=>nO (ft c.S n)) c.S.length
theorem nJ(T:an)(k x:Int):Can Tryz.prog 32 [aN T,bW k x] (· = .tuple [aQ (qb T k x),num (da T k x)]):=mV T k x
theorem BJ(k x:Int):Can Tryz.prog 87 [bW k x] (· =num (IM k x)):=by
 obtain⟨q1,hq1⟩:∃q,decide (k=2)=q:=⟨_,rfl⟩
 refine aE Tryz.func87 rfl Tryz.ntmps87 rfl<|ab (.a 2 rfl<|.k [1] rfl)<|ah<|ab (.a 2 rfl<|.v (b9 rfl (hq1)) rfl<|.k [1,5] rfl)<|ag rfl (fun h1=>?_) (fun h1=>?_)
 ·have h1:k=2:=by rw[h1]at hq1;exact tt hq1
  exact ab (.a 3 rfl<|.k [2] rfl)<|aq<|⟨_,_,aA.of rfl,aB.pure,by unfold IM;rw[if_pos h1];rfl⟩
 ·have h1:¬k=2:=by rw[h1]at hq1;exact ff hq1
  exact ai<|ab (.a 1 rfl<|.k [2] rfl)<|aq<|⟨_,_,aA.of rfl,aB.pure,by unfold IM;rw[if_neg h1];rfl⟩
theorem vP(c:uQ)(hy:nR c=true):Can Tryz.prog 29 [qd c] (· =flag false):=by
 have hla:=pM c
 rw[hy]at hla
 refine aE Tryz.func29 rfl Tryz.ntmps29 rfl<|ab (.a 2 rfl<|.k [1] rfl)<|ah<|bu 30 (.raw (.bool (true))) [1] rfl ?_ ?_
 ·exact .a 1 rfl<|.c rfl (hla) rfl<|.a 24 rfl<|.k [30,1] rfl
 refine ag rfl (fun hc=>?_) (fun hc=>?_)
 ·exact ab (.a 1 rfl<|.k [2] rfl)<|aq<|⟨_,_,aA.of rfl,aB.pure,rfl⟩
 ·cases hc
theorem xU(c:uQ)(hy:nR c=false):Can Tryz.prog 29 [qd c] (· =flag (((fI c.T c.k c.x c.S&& !pn c.k c.x c.n)&& !pn c.k c.x c.d)&&gh c.T (qb c.T c.k c.x) c.n c.d)):=by
 obtain⟨s1,s2,s3⟩:=xt hy
 have hla:=pM c
 rw[hy]at hla
 have hpm:=Ca c.T c.k c.x c.S (by omega)
 have hg1:=kz c.k c.x c.n
 have hg2:=kz c.k c.x c.d
 obtain⟨q1,hq1⟩:∃q,fI c.T c.k c.x c.S=q:=⟨_,rfl⟩
 obtain⟨q2,hq2⟩:∃q,pn c.k c.x c.n=q:=⟨_,rfl⟩
 obtain⟨q3,hq3⟩:∃q,pn c.k c.x c.d=q:=⟨_,rfl⟩
 rw[hq1]at hpm
 rw[hq2]at hg1
 rw[hq3]at hg2
 rw[hq1,hq2,hq3]
 refine aE Tryz.func29 rfl Tryz.ntmps29 rfl<|ab (.a 2 rfl<|.k [1] rfl)<|ah<|bu 30 (.raw (.bool ((!q1 ||q2)||q3))) [1] rfl ?_ ?_
 ·refine .a 1 rfl<|.c rfl (hla) rfl<|.a 2 rfl<|.v (gO rfl (rfl) rfl) rfl<|.a 4 rfl<|.c rfl (hpm) rfl<|.a 3 rfl<|?_
  cases q1
  ·exact .a 13 rfl<|.k [30,1] rfl
  ·refine .a 4 rfl<|.c rfl (hg1) rfl<|.a 2 rfl<|?_
   cases q2
   ·exact .a 4 rfl<|.c rfl (hg2) rfl<|.a 1 rfl<|.k [30,1] rfl
   ·exact .a 6 rfl<|.k [30,1] rfl
 refine ag rfl (fun h1=>?_) (fun h1=>?_)
 ·skip
  exact ab (.a 1 rfl<|.k [2] rfl)<|aq<|⟨_,_,aA.of rfl,aB.pure,by cases q1<;>cases q2<;>cases q3<;>first|rfl|cases h1⟩
 ·have h2:((q1&& !q2)&& !q3)=true:=by cases q1<;>cases q2<;>cases q3<;>first|rfl|cases h1
  rw[h2]
  exact ai<|ab (.a 1 rfl<|.v (gO rfl (rfl) rfl) rfl<|.a 2 rfl<|.c rfl (nJ c.T c.k c.x) rfl<|.a 5 rfl<|.k [1,3] rfl)<|ab (.a 1 rfl<|.v (gO rfl (rfl) rfl) rfl<|.a 5 rfl<|.c rfl (kH c.T (qb c.T c.k c.x) c.n c.d) rfl<|.a 1 rfl<|.k [2] rfl)<|aq<|⟨_,_,aA.of rfl,aB.pure,by rw[Bool.true_and];rfl⟩
theorem xu(c:uQ):Can Tryz.prog 29 [qd c] (· =flag (yD c)):=by
 unfold yD
 cases hy:nR c with
 |true=>exact vP c hy
 |false=>exact xU c hy
theorem rS(c:uQ):Can Tryz.prog 31 [qd c] (· =flag (vu c)):=by
 have hpr:=xu c
 have hcv:=DB c.T c.k c.x
 have hsf:=Cw c.T (qb c.T c.k c.x) (IM c.k c.x) c.d
 unfold vu
 obtain⟨q1,hq1⟩:∃q,yD c=q:=⟨_,rfl⟩
 obtain⟨q2,hq2⟩:∃q,ts c.T c.k c.x=q:=⟨_,rfl⟩
 obtain⟨q3,hq3⟩:∃q,su c.T (qb c.T c.k c.x) (IM c.k c.x) c.d=q:=⟨_,rfl⟩
 rw[hq1]at hpr
 rw[hq2]at hcv
 rw[hq3]at hsf
 rw[hq1,hq2,hq3]
 refine aE Tryz.func31 rfl Tryz.ntmps31 rfl<|ab (.a 2 rfl<|.k [1] rfl)<|ab (.a 1 rfl<|.v (gO rfl (rfl) rfl) rfl<|.a 2 rfl<|.c rfl (nJ c.T c.k c.x) rfl<|.a 5 rfl<|.k [1,3] rfl)<|jA mixed (by kernel_rfl) 2 (.raw (.bool ((q1&&q2)&&q3))) [] rfl ?_ ?_
 ·refine .a 1 rfl<|.v [13] (dJ rfl (hpr)) rfl rfl<|.a 1 rfl<|?_
  cases q1
  ·exact .a 18 rfl<|.k [2] rfl
  ·refine .a 1 rfl<|.v [16] (gO rfl (rfl) rfl) rfl rfl<|.a 2 rfl<|.v [17,19] (dJ rfl (hcv)) rfl rfl<|.a 2 rfl<|?_
   cases q2
   ·exact .a 11 rfl<|.k [2] rfl
   ·exact .a 1 rfl<|.v [23] (gO rfl (rfl) rfl) rfl rfl<|.a 3 rfl<|.v [27] (dJ rfl (BJ c.k c.x)) rfl rfl<|.a 2 rfl<|.v [24,25,28,30] (dJ rfl (hsf)) rfl rfl<|.a 2 rfl<|.k [2] rfl
 exact aq<|⟨_,_,aA.of rfl,aB.pure,rfl⟩
theorem Cl(c:uQ)(hl:c.S.length≤1000):Can Tryz.prog 30 [qd c] (· =flag (AH c)):=by
 obtain⟨S,hS⟩:∃S,c.S=S:=⟨_,rfl⟩
 unfold AH
 rw[hS]at hl ⊢
 refine aE Tryz.func30 rfl Tryz.ntmps30 rfl<|ab (.a 2 rfl<|.k [1] rfl)<|ah<|ab (.a 1 rfl<|.v (aL rfl ((show some (aw c.S)=some (aw S) by rw[hS]))) rfl<|.a 2 rfl<|.k [1,6,7,8] rfl)<|au<|eu [1,6,7,8] rfl<|bf (fun r s=>∃m,m≤S.length∧r=S.length - m∧dL c.k c.x (fun n=>nO (ft S n)) m=true∧s=⟨[(1,.aY (BL c) 0),(6,aw S),(7,num S.length),(8,num m)],[]⟩) S.length ⟨0,by omega,by omega,rfl,rfl⟩ ?_
 rintro r s ⟨m,hm,rfl,hw,rfl⟩
 refine ab (.a 1 rfl<|.k [1,6,7,8,9] rfl)<|ah<|ag rfl (fun h1=>?_) (fun h1=>?_)
 ·have hlt:m<S.length:=by have:=tt h1;omega
  have hs:=gS c.k c.x (fun n=>nO (ft S n)) m
  rw[hw,Bool.true_and]at hs
  have hgn:=kz c.k c.x m
  obtain⟨v,hv⟩:∃v,ft S m=v:=⟨_,rfl⟩
  obtain⟨q1,hq1⟩:∃q,pn c.k c.x m=q:=⟨_,rfl⟩
  obtain⟨q2,hq2⟩:∃q,decide (v≠2)=q:=⟨_,rfl⟩
  obtain⟨q3,hq3⟩:∃q,decide (v≠3)=q:=⟨_,rfl⟩
  have hla:nO (ft S m)=(!q2 || !q3):=by
   rw[hv]
   unfold nO
   rw[←hq2,←hq3]
   by_cases e1:v=2<;>by_cases e2:v=3<;>simp[e1,e2]
  rw[hla,hq1]at hs
  rw[hq1]at hgn
  refine ai<|ah<|au<|ab (.a 1 rfl<|.v (aJ (m) rfl) rfl<|.v (aL rfl ((ax S m hlt).trans (by rw[show S.getD m 0=v from hv]))) rfl<|.a 2 rfl<|.k [1,3,4,6,7,8] rfl)<|bu 25 (.raw (.bool ((!q1 &&q2)&&q3))) [1,6,7,8] rfl ?_ ?_
  ·refine .a 3 rfl<|.c rfl (hgn) rfl<|.a 2 rfl<|?_
   cases q1
   ·refine .a 1 rfl<|.v (b9 rfl (hq2)) rfl<|.a 2 rfl<|?_
    cases q2
    ·exact .a 3 rfl<|.k [25,1,6,7,8] rfl
    ·exact .a 1 rfl<|.v (b9 rfl (hq3)) rfl<|.a 1 rfl<|.k [25,1,6,7,8] rfl
   ·exact .a 7 rfl<|.k [25,1,6,7,8] rfl
  refine ag rfl (fun h2=>?_) (fun h2=>?_)
  ·have hbad:dL c.k c.x (fun n=>nO (ft S n)) S.length=false:=by
    refine qX hlt (by rw[hq1];cases q1<;>first|rfl|cases h2) ?_
    show nO (ft S m)=false
    rw[hla]
    cases q1<;>cases q2<;>cases q3<;>first|rfl|cases h2
   exact ab (.a 1 rfl<|.k [2] rfl)<|aq<|⟨_,_,aA.of rfl,aB.pure,by rw[hbad];rfl⟩
  ·have hs2:dL c.k c.x (fun n=>nO (ft S n)) (m+1)=true:=by rw[hs];cases q1<;>cases q2<;>cases q3<;>first|rfl|cases h2
   refine ai<|az (.v (aS rfl) rfl<|.a 1 rfl<|.k [1,6,7,8] rfl) ?_
   exact⟨S.length - (m+1),by omega,m+1,by omega,rfl,hs2,rfl⟩
 ·have hme:m=S.length:=by have:=ff h1;omega
  subst hme
  exact ba<|ab (.a 1 rfl<|.k [2] rfl)<|aq<|⟨_,_,aA.of rfl,aB.pure,by rw[hw];rfl⟩
end PW
end Go.Proofs.YtnegbdpggideiaaGreatDoor
namespace Go.Proofs.YtnegbdpggideiaaGreatDoor
namespace PW
open Go.RowKit cH Mem Net fw
section
variable {T:an} {tb:Nat→ef} {p0:fu} {Φ Ψ:Nat→Nat→List ca→Prop}
theorem iJ.inter(R:iJ T tb p0 Φ)(S:iJ T tb p0 Ψ):iJ T tb p0 (fun u n s=>Φ u n s∧∃v,Ψ v n s) where
 node:=fun h=>R.node h.1
 small:=fun h=>R.small h.1
 step:=fun {u n s} ⟨h,v,g⟩=>by
  rcases R.step h with h1|⟨h1,h2,h3⟩
  ·exact .inl h1
  ·refine .inr ⟨h1,h2,fun a ha=>?_⟩
   obtain⟨b,m,e1,e2,e3,u',e4,e5⟩:=h3 a ha
   rcases S.step g with g1|⟨_,_,g3⟩
   ·rw[g1]at ha;cases ha
   ·obtain⟨b',m',f1,f2,f3,v',f4,f5⟩:=g3 a ha
    have hb:b'=b:=by omega
    subst hb
    have hm:m'=m:=by rw[e3]at f3;omega
    subst hm
    exact⟨b',m',f1,f2,f3,u',e4,e5,v',f5⟩
theorem Lone.inter(R:Lone T tb p0 Φ)(S:iJ T tb p0 Ψ):Lone T tb p0 (fun u n s=>Φ u n s∧∃v,Ψ v n s):=⟨R.runs.inter S,fun h=>R.one h.1,fun h=>R.del h.1⟩
end
section
variable {T:an} {k x:Int} {d:Nat} {st:Nat→Int} {p0:fu}
theorem zi.here{late:Bool}{u n:Nat}{s:List ca}(h:zi T k x d st p0 late u n s):¬Gn k x n:=by
 rcases h with⟨h,_⟩|⟨q,_,_,_,h,_⟩
 ·exact h.here
 ·exact h.here
def zI(T:an)(k x:Int)(d:Nat)(st:Nat→Int)(p0:fu)(n:Nat):Prop:=
 ∃(Φ:Nat→Nat→List ca→Prop) (u:Nat),Lone T (nm T (aC T k x) st) p0 Φ∧Φ u n []∧u≤1000∧∀ {u n s},Φ u n s→¬Gn k x n∧(n,s)∈BC T (nm T (aC T k x) st) p0
theorem Ez(hv:ao T=true)(h12:T.nodes≤12)(h16:T.ae.length≤16)(hd:(d:Int)<T.nodes){late:Bool}(hcv:late=false→ts T k x=true)(hsafe:late=false→∀m:Nat,(m:Int)<T.nodes→¬Gn k x m→0≤dN T [] d m→0≤dN T (aC T k x) d m)
  (hpm:Perm T k x late st) (hp0:p0.dst=(d:Int)) {n b m:Nat} {s':List ca} {q:List Int} (h:Open T k x d n [])
  (h0:dy T (nm T (aC T k x) st n) (de p0 [])=cj (de p0 []) s' [(b:Int)]) (hb:b<2*T.ae.length) (hm:aW T b=(m:Int)) (hl:fL T k x d m s' q) (hq:(q.length:Int)+1<T.nodes):zI T k x d st p0 n:=by
 have hW:=CA (st:=st) hv h12 h16 hd hcv hsafe hpm hp0
 have hL:=zO hv h12 h16 hd hp0 h.node h0 hb hm hl
 exact⟨_,q.length+1,hL.inter hW,⟨.inl ⟨rfl,rfl,rfl⟩,_,.inl ⟨h,rfl⟩⟩,by omega,fun⟨_,_,g⟩=>⟨g.here,g.mem⟩⟩
theorem Ft(hv:ao T=true)(h12:T.nodes≤12)(h16:T.ae.length≤16)(hd:(d:Int)<T.nodes)(hcv:ts T k x=true)(hsafe:∀m:Nat,(m:Int)<T.nodes→¬Gn k x m→0≤dN T [] d m→0≤dN T (aC T k x) d m)
  (hpm:Perm T k x false st) (hp0:p0.dst=(d:Int)) {n:Nat} (h:Open T k x d n []) (hne:n≠d) (h1:st n=1) {a0:Int} (xY:ev (dr T (aC T k x) n) (aX T [] n d)=some a0):zI T k x d st p0 n:=by
 obtain⟨h2,h3⟩:=iw xY
 obtain⟨c1,c2,c3⟩:=kG hv hcv h.node hd h.here h.reach h3
 have he:gN T (dr T (aC T k x) n) n d=i7 T (lr T (dr T (aC T k x) n) n d a0.toNat) n d:=by unfold gN;rw[xY]
 have ht:fy T (aC T k x) (st n) n=kV T (aC T k x) n:=by unfold fy;rw[h1,if_neg (by decide),if_pos rfl]
 obtain⟨b,m,s',q,e1,e2,e3,e4,e5⟩:=jo hv h12 hd h.node hne (ke (nZ T _ _) _) c1 c2 (kl (M:=aC T k x) hv h12 h.node) rfl (by rw[rD hd,he]) (p:=de p0 []) hp0 rfl rfl
 rw[←ht]at e3
 exact Ez hv h12 h16 hd (late:=false) (fun _=>hcv) (fun _=>hsafe) hpm hp0 h e3 e2.eU e2.head e4 e5
end
end PW
end Go.Proofs.YtnegbdpggideiaaGreatDoor
namespace Go.Proofs.YtnegbdpggideiaaGreatDoor
namespace PW
open Go.RowKit cH Mem Net fw
structure KN (T:an) (k x:Int) (S:List Int) (s d:Nat) (late:Bool):Prop where
 Kd:T.nodes≤12
 KB:T.ae.length≤16
 len:(S.length:Int)=T.nodes
 valid:ao T=true
 comp:(ao T&&bZ T k x)=true
 KP:qb T k x=aC T k x
 ok:BM T k x S=0
 perm:Perm T k x late (ft S)
 src:(s:Int)<T.nodes
 dst:(d:Int)<T.nodes
 reach:fM T (aC T k x) s d=0
 there:¬Gn k x d
 J8:Open T k x d s []
theorem Fl{T:an}{k x n d:Int}{S:List Int}(h:yD ⟨T,k,x,S,n,d⟩=true):∃s e:Nat,n=(s:Int)∧d=(e:Int)∧KN T k x S s e (AH ⟨T,k,x,S,n,d⟩):=by
 unfold yD at h
 simp only[Bool.and_eq_true,Bool.not_eq_true']at h
 obtain⟨h1,⟨⟨h2,h3⟩,h4⟩,h5⟩:=h
 obtain⟨s1,s2,_⟩:=xt h1
 obtain⟨hv,hc,hl,_,late,hpm,hla⟩:=FK h2
 have hvc:(ao T&&bZ T k x)=true:=by rw[hv,hc];rfl
 have hm:qb T k x=aC T k x:=by unfold qb da;rw[if_pos hvc,if_pos rfl]
 rw[hm]at h5
 have h5:=tt h5
 obtain⟨a,b,rfl,rfl,ha,hb,_⟩:=ku h5
 have h6:=h5
 rw[iv hv (db T k x) ha hb]at h6
 refine⟨a,b,rfl,rfl,⟨s1,s2,hl,hv,hvc,hm,?_,?_,ha,hb,h5,nD.1 h4,⟨rfl,ha,nD.1 h3,?_⟩⟩⟩
 ·unfold BM
  rw[hvc,decide_eq_true hl];simp[h2]
 ·rw[hla]at hpm;exact hpm
 ·split at h6
  ·cases h6
  ·omega
theorem ET{T:an}{k x n:Int}{S:List Int}{d:Nat}(h:vu ⟨T,k,x,S,n,(d:Int)⟩=true)(hm:qb T k x=aC T k x):ts T k x=true∧∀m:Nat,(m:Int)<T.nodes→¬Gn k x m→0≤dN T [] d m→0≤dN T (aC T k x) d m:=by
 unfold vu at h
 simp only[Bool.and_eq_true]at h
 obtain⟨⟨_,h2⟩,h3⟩:=h
 rw[hm]at h3
 refine⟨h2,fun m hml hg h0=>Eo h3 hml (fun e=>hg ?_) h0⟩
 unfold IM at e
 split at e
 ·rename_i hk
  exact⟨hk,e.symm⟩
 ·omega
theorem HQ{c:uQ}(h:vu c=true):yD c=true:=by
 unfold vu at h
 simp only[Bool.and_eq_true]at h
 exact h.1.1
theorem C5{T:an}{k x:Int}{S:List Int}{s d:Nat}{late:Bool}(hP:KN T k x S s d late)(h:zI T k x d (ft S) ⟨0,s,d,0,[],0⟩ s):Can Tryz.prog 33 [aN T,bW k x,aw S,num s,num d] (fun r=>∃q e,Br T (nm T (aC T k x) (ft S)) ⟨0,s,d,0,[],0⟩ s [] q e (-1)∧r= .tuple [aw q,num 0]):=by
 obtain⟨Φ,u,hL,hΦ,hu,hX⟩:=h
 have hc:∀u n s',Φ u n s'→sw T k x S n=nm T (aC T k x) (ft S) n:=fun u n s' g=>DZ (hX g).1
 refine Can.mono (sN hP.Kd hP.ok hP.src hP.dst (Lone.congr hc hL) (U:=BC T (nm T (aC T k x) (ft S)) ⟨0,s,d,0,[],0⟩) (fun g=>(hX g).2) ?_ hΦ hu) fun r ⟨q,e,hb,_,hr⟩=>⟨q,e,Br.congr hc hL.runs hb hΦ,hr⟩
 have:=DF (T:=T) (p0:=⟨0,s,d,0,[],0⟩) (nm T (aC T k x) (ft S)) hP.Kd hP.KB
 omega
end PW
end Go.Proofs.YtnegbdpggideiaaGreatDoor
namespace Go.Proofs.YtnegbdpggideiaaGreatDoor
namespace PW
open Go.RowKit cH Mem Net fw
theorem find_congr{α:Type}{p q:α→Bool}:∀(l:List α),(∀a∈l,p a=q a)→l.find? p=l.find? q
 | [],_=>rfl
 |a::l,h=>by
  simp only[List.find?_cons,h a (by simp)]
  rw[find_congr l (fun b hb=>h b (by simp[hb]))]
theorem Ev{T:an}{M:List Bool}{n d:Nat}(hv:ao T=true)(hn:(n:Int)<T.nodes):ev (dr T M n) (aX T [] n d)=(cr M (bG T n)).find? (fun a=>vI T [] (bn T [] d false) a.toNat d):=by
 rw[←pg T [] n d hv hn]
 unfold ev fE cr bG gw
 simp only[List.find?_map,List.filter_map,List.find?_filter]
 congr 1
 refine find_congr _ fun a ha=>?_
 have ha:=List.mem_range.1 ha
 have e:(Int.ofNat a).toNat=a:=rfl
 simp only[Function.comp_apply,e,lZ,decide_eq_true ha,Bool.true_and]
 by_cases h1:aZ T a=(n:Int)<;>cases aI M a<;>cases vI T [] (bn T [] d false) a d<;>simp[h1]
theorem Dw{T:an}{own:List Bool}{n d:Nat}{a:Int}(h:ev own (aX T [] n d)=some a):n≠d:=fun e=>by
 subst e
 have:aX T [] n n=[]:=by unfold aX;rw[if_pos (.inl rfl)]
 rw[this]at h
 cases h
theorem Fo{T:an}{own:List Bool}{n d:Nat}(h:(gN T own n d).rep=true):∃a,ev own (aX T [] n d)=some a:=by
 unfold gN at h
 cases hh:ev own (aX T [] n d)with
 |none=>rw[hh]at h;cases h
 |some a=>exact⟨a,rfl⟩
theorem vY(c:uQ)(h:vu c=false):Can Tryz.prog 9 [qd c] (· =flag true):=by
 have hsn:=rS c
 rw[h]at hsn
 refine aE Tryz.func9 rfl Tryz.ntmps9 rfl<|ab (.a 2 rfl<|.k [1] rfl)<|ah<|bu 36 (.raw (.bool (true))) [1] rfl ?_ ?_
 ·exact .c rfl (jN) rfl<|.a 3 rfl<|.c rfl (hsn) rfl<|.a 15 rfl<|.k [36,1] rfl
 refine ag rfl (fun hc=>?_) (fun hc=>?_)
 ·exact ab (.c rfl (jN) rfl<|.a 1 rfl<|.k [2] rfl)<|aq<|⟨_,_,aA.of rfl,aB.pure,rfl⟩
 ·cases hc
theorem vK(T:an)(k x:Int)(S:List Int)(n d:Int)(h:vu ⟨T,k,x,S,n,d⟩=true):Can Tryz.prog 9 [qd ⟨T,k,x,S,n,d⟩] (· =flag true):=by
  have hsn:=rS ⟨T,k,x,S,n,d⟩
  obtain⟨s,e,rfl,rfl,hP⟩:=Fl (HQ h)
  have hSl:=hP.len
  have h12:=hP.Kd
  have hsl:=hP.src
  have hel:=hP.dst
  have hv:=hP.valid
  have hla:=Cl ⟨T,k,x,S,(s:Int),(e:Int)⟩ (show S.length≤1000 by omega)
  obtain⟨hcv,hsafe⟩:=ET h hP.KP
  rw[h]at hsn
  obtain⟨w1,hw1⟩:∃q,AH ⟨T,k,x,S,(s:Int),(e:Int)⟩=q:=⟨_,rfl⟩
  obtain⟨v,hvv⟩:∃v,ft S s=v:=⟨_,rfl⟩
  obtain⟨w3,hw3⟩:∃q,decide (v≠1)=q:=⟨_,rfl⟩
  rw[hw1]at hla hP
  refine aE Tryz.func9 rfl Tryz.ntmps9 rfl<|ab (.a 2 rfl<|.k [1] rfl)<|ah<|bu 36 (.raw (.bool (w1||w3))) [1] rfl ?_ ?_
  · refine .c rfl (jN) rfl<|.a 3 rfl<|.c rfl (hsn) rfl<|.a 4 rfl<|.c rfl (hla) rfl<|.a 2 rfl<|?_
    cases w1
    · exact .a 1 rfl<|.v (aL rfl ((show some (aw S)=some (aw S) from rfl))) rfl<|.a 1 rfl<|.v (aL rfl ((show some (num (s:Int))=some (num (s:Int)) from rfl))) rfl<|.v (aJ (s) rfl) rfl<|.v (aL rfl ((ax S s (by omega)).trans (by rw[show S.getD s 0=v from hvv]))) rfl<|.v (b9 rfl (hw3)) rfl<|.a 1 rfl<|.k [36,1] rfl
    · exact .a 8 rfl<|.k [36,1] rfl
  refine ag rfl (fun hc=>?_) (fun hc=>?_)
  · skip
    exact ab (.c rfl (jN) rfl<|.a 1 rfl<|.k [2] rfl)<|aq<|⟨_,_,aA.of rfl,aB.pure,rfl⟩
  · obtain ⟨g1, g2⟩ := Bool.or_eq_false_iff.1 hc
    have h1:ft S s=1:=by rw[hvv];rw[g2]at hw3;simpa using hw3
    subst g1
    have hnb:bd T (s:Int)=true:=aT.2 ⟨by omega,by omega⟩
    have hm0:da T k x=0:=by unfold da;rw[if_pos hP.comp]
    have hA:=Cs T k x s h12
    rw[hm0,if_pos rfl,hnb,if_pos rfl,Int.toNat_natCast]at hA
    unfold iW at hA
    rw[if_pos rfl]at hA
    obtain⟨N,hNN⟩:∃N:Nat,T.nodes=(N:Int):=⟨T.nodes.toNat,by omega⟩
    have hNt:T.nodes.toNat=N:=by omega
    obtain⟨M,hM⟩:∃M,aC T k x=M:=⟨_,rfl⟩
    have hfd:=Ev (M:=M) (d:=e) hv hsl
    have hdlm:∀a∈cr M (bG T s),∃b:Nat,a=(b:Int)∧b<2*T.ae.length:=fun a ha=>by
      obtain⟨a0,a1⟩:=jz (List.mem_filter.1 ha).1
      exact⟨a.toNat,by omega,by omega⟩
    have hdll:(cr M (bG T s)).length≤1000:=by
      have:=bJ hv
      have h2:(cr M (bG T s)).length≤(bG T s).length:=List.length_filter_le _ _
      have h3:(bG T s).length≤2*T.ae.length:=by
        unfold bG gw
        rw[List.length_map]
        exact Nat.le_trans (List.length_filter_le _ _) (by simp)
      omega
    have hgA:(kV T M s).eO[e]? =some (gN T (dr T M s) s e):=by show(lT T (dr T M s) s T.nodes.toNat)[e]? =_;exact qN (by omega)
    have hlA:(kV T M s).eO.length=N:=by show(lT T (dr T M s) s T.nodes.toNat).length=N;rw[mb,hNt]
    have hdn:(kV T M s).down=cr M (bG T s):=rfl
    rw[hM]at hA
    have hfl:=fun hr=>Fo (T:=T) (own:=dr T M s) (n:=s) (d:=e) hr
    have hbr:∀a0,ev (dr T M s) (aX T [] s e)=some a0→Can Tryz.prog 33 [aN T,bW k x,aw S,num (s:Int),num (e:Int)] (fun r=>∃q:List Int,(q=bY T (aC T (cA T a0.toNat e).1 (cA T a0.toNat e).2) s e∧(gN T (dr T M s) s e).aK=[q.getD 0 0]∧0<q.length)∧r= .tuple [aw q,num 0]):=fun a0 ha0=>by
      subst hM
      refine Can.mono (C5 hP (Ft hv h12 hP.KB hel hcv hsafe hP.perm rfl hP.J8 (Dw ha0) h1 ha0)) fun r ⟨q,e',hb,hr⟩=>?_
      obtain⟨b1,_,_,b2,b3⟩:=IP hv h12 hel hcv rfl hb hP.J8 (Dw ha0) h1 ha0
      exact⟨q,⟨b1,b2,b3⟩,hr⟩
    have hasm:∀a0,ev (dr T M s) (aX T [] s e)=some a0→fM T (aC T (cA T a0.toNat e).1 (cA T a0.toNat e).2) (s:Int) (e:Int)=0:=fun a0 ha0=>by
      subst hM
      obtain⟨_,c2,c3⟩:=kG hv hcv hsl hel hP.J8.here hP.J8.reach (iw ha0).2
      rw[iv hv (db _ _ _) hsl hel,←qi hv hel c3,if_neg (by omega)]
    obtain⟨tA,htA⟩:∃t,kV T M s=t:=⟨_,rfl⟩
    rw[htA]at hA hgA hlA hdn
    obtain⟨E,hE⟩:∃E,gN T (dr T M s) s e=E:=⟨_,rfl⟩
    rw[hE]at hgA hfl
    simp only[hE]at hbr
    obtain⟨dl,hdl⟩:∃l,cr M (bG T s)=l:=⟨_,rfl⟩
    rw[hdl]at hfd hdlm hdll hdn
    have k0:(di tA.eO)[e*3]? =some (aw E.aK):=(oF _ e 0 _ hgA (by omega)).trans rfl
    have k1:(di tA.eO)[e*3+1]? =some (flag E.rep):=(oF _ e 1 _ hgA (by omega)).trans rfl
    obtain⟨rp,hrp⟩:∃q,E.rep=q:=⟨_,rfl⟩
    rw[hrp]at k1 hfl
    clear hc
    refine ai<|aP<|av 1 rfl<|bC (gO rfl (rfl) rfl) rfl<|av 4 rfl<|ec rfl (hA) rfl<|av 6 rfl<|aG [1,3,4] rfl ?_
    refine ah<|ab (.a 6 rfl<|.v (aL rfl ((show some (num (e:Int))=some (num (e:Int)) from rfl))) rfl<|.v (aJ ((e*3)) rfl) rfl<|.a 1 rfl<|.v (aL rfl (k1)) rfl<|.a 2 rfl<|.k [1,3,59] rfl)<|ag rfl (fun hc=>?_) (fun hc=>?_)
    · skip
      exact ab (.a 1 rfl<|.k [2] rfl)<|aq<|⟨_,_,aA.of rfl,aB.pure,rfl⟩
    · have hrt:rp=true:=by cases rp<;>first|rfl|cases hc
      obtain⟨a0,ha0⟩:=hfl hrt
      have hpt:=hbr a0 ha0
      have has:=hasm a0 ha0
      have hrp2:=mg T (aC T (cA T a0.toNat e).1 (cA T a0.toNat e).2) (s:Int) (e:Int)
      rw[has]at hrp2
      unfold dh at hrp2
      rw[if_pos rfl,Int.toNat_natCast,Int.toNat_natCast]at hrp2
      rw[ha0]at hfd
      have hec:cf T [] [(e:Int)]=0:=by
        unfold cf
        rw[hv,fU]
        simp[aT.2 (show 0≤(e:Int)∧(e:Int)<T.nodes by omega)]
      have hrd:=gU T [] (e:Int)
      rw[hec,Int.toNat_natCast]at hrd
      unfold dh at hrd
      rw[if_pos rfl]at hrd
      obtain⟨hb1,hb2⟩:=cI (D:=[]) hv (dir:=false) hel
      obtain⟨L,hL⟩:∃L,bn T [] e false=L:=⟨_,rfl⟩
      rw[hL]at hrd hb1 hb2
      simp only[hL]at hfd
      clear hc hfl hbr hasm
      refine ai<|aP<|av 1 rfl<|bC (gO rfl (rfl) rfl) rfl<|av 8 rfl<|cP rfl rfl (bS.mono (bS.xg hpt) (fun y σ' h=>?_))
      obtain⟨⟨P,⟨hP1,hP2,hP3⟩,rfl⟩,rfl⟩:=h
      refine av 5 rfl<|aG [1,3,5,6] rfl ?_
      refine ah ?_
      rw[hP2]at k0
      have hPn:decide ((P.length:Int)=0)=false:=decide_eq_false (by omega)
      obtain⟨p0,hp0⟩:∃v,P.getD 0 0=v:=⟨_,rfl⟩
      rw[hp0]at k0
      refine jA mixed (by kernel_rfl) 95 (.raw (.bool (false))) [1,3,5] rfl ?_ ?_
      · exact .a 5 rfl<|.v [78] (b9 rfl (hPn)) rfl rfl<|.a 3 rfl<|.v [82] (aJ (0) rfl) rfl rfl<|.v [83] (aL rfl ((ax P 0 hP3).trans (by rw[hp0]))) rfl rfl<|.a 3 rfl<|.v [87] (aL rfl ((show some (num (e:Int))=some (num (e:Int)) from rfl))) rfl rfl<|.v [86,88] (aJ ((e*3)) rfl) rfl rfl<|.a 1 rfl<|.v [90] (aL rfl (k0)) rfl rfl<|.v [91] (aJ (0) rfl (by omega) (by simp)) rfl rfl<|.v [92] (aL rfl ((show(aR [p0])[0]? =some (num p0) from rfl))) rfl rfl<|.v [84,93] (b9 rfl (show decide (p0≠p0)=false by simp)) rfl rfl<|.a 1 rfl<|.k [95,1,3,5] rfl
      refine ag rfl (fun hc=>?_) (fun hc=>?_)
      · cases hc
      · clear hc
        refine ai<|ab (.a 1 rfl<|.v (gO rfl (rfl) rfl) rfl<|.a 2 rfl<|.v (sn rfl (aj.cons aB.pure<|aj.cons aB.bT<|aj.cons aB.pure aj.nil) (hrd)) rfl<|.a 5 rfl<|.k [1,3,5,7] rfl)<|ah<|ab (.a 1 rfl<|.v (aL rfl ((show some (aw tA.down)=some (aw dl) by rw[hdn]))) rfl<|.a 2 rfl<|.k [1,5,7,105,106,107] rfl)<|au<|eu [1,5,7,105,106,107] rfl<|bf (fun r st=>∃i,i≤dl.length∧r=dl.length - i∧(dl.drop i).find? (fun a=>vI T [] L a.toNat e)=some a0∧st=⟨[(1,.aY (BL ⟨T,k,x,S,(s:Int),(e:Int)⟩) 0),(5,aw P),(7,aw L),(105,aw dl),(106,num dl.length),(107,num i)],[some (.cells 56 (fN tA))]⟩) dl.length ⟨0,by omega,by omega,hfd.symm,rfl⟩ ?_
        rintro r st ⟨i,hi,rfl,hfi,rfl⟩
        refine ab (.a 1 rfl<|.k [1,5,7,105,106,107,108] rfl)<|ah<|ag rfl (fun h2=>?_) (fun h2=>?_)
        · have hlt:i<dl.length:=by have:=tt h2;omega
          obtain⟨b,hb,hbl⟩:=hdlm _ (bO (d:=0) hlt)
          rw[drop_cons dl i hlt,List.find?_cons]at hfi
          rw[hb,Int.toNat_natCast]at hfi
          have hon:=uL T [] L b e hv (fU T) hb1 hb2 hbl
          obtain⟨q1,hq1⟩:∃q,vI T [] L b e=q:=⟨_,rfl⟩
          rw[hq1]at hon hfi
          refine ai<|ah<|au<|ab (.v (aJ (i) rfl) rfl<|.v (aL rfl ((ax dl i hlt).trans (by rw[hb]))) rfl<|.a 1 rfl<|.k [1,5,7,10,105,106,107] rfl)<|ah<|ab (.a 1 rfl<|.v (gO rfl (rfl) rfl) rfl<|.a 4 rfl<|.v (sn rfl (aj.cons aB.pure<|aj.cons aB.bT<|aj.cons aB.pure<|aj.cons aB.pure<|aj.cons aB.pure aj.nil) (hon)) rfl<|.a 1 rfl<|.k [1,5,7,10,105,106,107,118] rfl)<|ag rfl (fun h3=>?_) (fun h3=>?_)
          · have hqf:q1=false:=by cases q1<;>first|rfl|cases h3
            rw[hqf]at hfi
            refine ba<|az (.v (aS rfl) rfl<|.a 1 rfl<|.k [1,5,7,105,106,107] rfl) ?_
            exact⟨dl.length - (i+1),by omega,i+1,by omega,rfl,hfi,rfl⟩
          · have hqt:q1=true:=by cases q1<;>first|rfl|cases h3
            rw[hqt]at hfi
            have hab:a0=(b:Int):=by cases hfi;rfl
            subst hab
            rw[Int.toNat_natCast]at hP1 hrp2
            have hcp:=oT T b (e:Int) hv hbl ⟨by omega,by omega⟩
            have hcm:=nJ T (cA T b e).1 (cA T b e).2
            have hcc:(ao T&&bZ T (cA T b e).1 (cA T b e).2)=true:=by rw[hv,ow hv hbl];rfl
            unfold qb da at hcm
            rw[if_pos hcc,if_pos rfl]at hcm
            rw[←hP1]at hrp2
            obtain⟨ka,xa⟩:=cA T b e
            refine ai<|aP<|av 1 rfl<|bC (gO rfl (rfl) rfl) rfl<|av 3 rfl<|ec rfl (hcp) rfl<|av 6 rfl<|aG [1,5,11] rfl ?_
            exact ab (.a 1 rfl<|.v (gO rfl (rfl) rfl) rfl<|.a 1 rfl<|.c rfl (hcm) rfl<|.a 5 rfl<|.k [1,5,13] rfl)<|ab (.a 1 rfl<|.v (gO rfl (rfl) rfl) rfl<|.a 5 rfl<|.c rfl (hrp2) rfl<|.a 5 rfl<|.k [5,15,16] rfl)<|ab (.a 5 rfl<|.c rfl (sX P) rfl<|.a 2 rfl<|.k [2] rfl)<|aq<|⟨_,_,aA.of rfl,aB.pure,rfl⟩
        · have hie:i=dl.length:=by have:=ff h2;omega
          rw[hie,List.drop_length]at hfi
          exact absurd hfi (by simp)
theorem rZ(c:uQ):Can Tryz.prog 9 [qd c] (· =flag true):=by
 obtain⟨T,k,x,S,n,d⟩:=c
 cases h:vu ⟨T,k,x,S,n,d⟩with
 |false=>exact vY _ h
 |true=>exact vK T k x S n d h
end PW
end Go.Proofs.YtnegbdpggideiaaGreatDoor
namespace Go.Proofs.YtnegbdpggideiaaGreatDoor.mixtureRepair
open Go.ChangeShapes Go.WideShapes Go.ChangeAt Go.RowKit
open cH Mem PW
set_option maxRecDepth 100000 in
theorem lifted(os:Os)(started:os.Started)(H:Type)(enc:TypeId×Value→H):
  ReturnsInHanded {} Tryz.checked os 9 .any (fun w args=>(Rows.mixtureRepairSpec.pre enc Tryz.prog Tryz.f9 [] false w args∧laidMetH Tryz.prog Rows.mixtureRepairRow.laid w)∧sizedMet enc Tryz.prog Tryz.f9 (OpenSpec.ofChange Rows.mixtureRepairSpec) false w args)
   (Rows.mixtureRepairSpec.post enc Tryz.prog Tryz.f9 false true false false):=by
 refine returnsInHanded_of_change_and (C:=Tryz.checked) (X:=fun w _=>laidMetH Tryz.prog Rows.mixtureRepairRow.laid w) (fun _ _ _ hh h=>h.of_heap hh) own started (by kernel_rfl) Tryz.func9
  (ChangeSpec.witness_shaped (enc:=enc) (C:=Tryz.checked) (os:=os) (X:=fun w _=>laidMetH Tryz.prog Rows.mixtureRepairRow.laid w) false (World.doorLaid Tryz.prog 400 os) #[.agg #[.int .i64 0,.slice none 0 0,.slice none 0 0,.int .i64 0,.int .i64 0,.slice none 0 0,.int .i64 0,.int .i64 0]] 8 rfl (World.shaped_of_RefB (by kernel_rfl) (by kernel_rfl)) (by kernel_rfl) (by kernel_rfl) (by kernel_rfl) (laidMetH_of_parts3 (fuel:=8) (laidMet_of_run' 8 (by kernel_rfl) (by kernel_rfl)) (by kernel_rfl) (by kernel_rfl))) ?_
 intro W base args ds gs before hval0 hW _ _ hL _
 have hval:∀(j:Nat) t v,Tryz.f9.params[j]? =some t→args[j]? =some v→Value.okWide Tryz.prog W .any base t v:=hval0
 have hW':=hW
 obtain⟨p,q,hA0,hV,rfl,hfz,hnd⟩:=hW
 have hA:DataW.TrodAll enc Tryz.prog W 0 (fun _=>true) true Tryz.f9.params.toList args.toList ds p:=hA0
 rw[Tryz.params9]at hA hval
 obtain⟨v0,vs0,d0,ds0,p0,q0,hargs,rfl,rfl,h0,r0⟩:=trodAll_cons hA
 obtain⟨rfl,rfl,rfl⟩:=trodAll_nil r0
 obtain rfl:args= #[v0]:=by cases args;simp_all
 obtain⟨rfl,rfl⟩:=trodVars_none hV
 have lt0:=Jw h0
 obtain⟨c,R0⟩:=Iu (hval 0 50 v0 rfl rfl) h0
 clear hA0 hval0
 refine((rZ c) (fun _=>False) W #[v0] (fun _ h=>h.elim) (Cq hL) (bb.cons R0 (bb.nil _ _))).mono fun e W' ⟨x,he,bel,r,hr,hx⟩=>?_
 subst hr
 cases hx
 subst he
 exact⟨_,rfl,_,_,_,[],_,[],hW',trodAll_mk1 (shut_bool Tryz.underlying4 _),(trodAll_cons_mk (Below.trod laidOut (by kernel_rfl) (of_decide_eq_true (by kernel_rfl)) h0 bel lt0) trodAll_mk0),rfl,bel.frame _,fun h=>by cases h⟩
set_option maxRecDepth 100000 in
theorem K8:(Rows.mixtureRepairRow.inPlace==Tryz.prog.inPlace 9)=true:=by kernel_rfl
set_option maxRecDepth 100000 in
theorem K3:(Rows.mixtureRepairRow.unfollowed==Tryz.prog.unfollowed 9)=true:=by kernel_rfl
set_option maxRecDepth 100000 in
theorem KS:(Rows.mixtureRepairRow.recurses==Tryz.prog.recurses 9)=true:=by kernel_rfl
set_option maxRecDepth 100000 in
theorem K9:(Rows.mixtureRepairRow.named==Tryz.prog.varsNamed 9)=true:=by kernel_rfl
set_option maxRecDepth 100000 in
theorem closed:joinedFacts Tryz.prog 9 Tryz.f9 Rows.mixtureRepairSpec Rows.mixtureRepairRow=true:=by
 unfold joinedFacts
 rw[K8,K3,KS,K9]
 kernel_rfl
theorem over:Rows.mixtureRepairRow.holds Tryz.pinned (OpenSpec.ofChange Rows.mixtureRepairSpec):=
 OpenClaim.holds_of_wide 9 Tryz.f9 rfl rfl rfl rfl rfl rfl rfl ⟨rfl,rfl,rfl,rfl,rfl⟩ rfl rfl rfl rfl rfl (by kernel_rfl) Tryz.func9 closed
  (of_decide_eq_true (by kernel_rfl)) (by unfold Func.isWrapper;first|(rw[if_pos (by decide+kernel)];kernel_rfl)|(rw[if_neg (by decide+kernel)];exact⟨rfl,rfl⟩))
  (fun os started H enc _=>lifted os started H enc)
theorem proved:Rows.MixtureRepairCardSaid:=
 Claim7.holds_tied_plain_at .later [] [.data,.data,.data] true (true,"3eedc3262a1e22f25a0699067de5cf2e4c3ca5fe316ddc4ea68067e33fe38499") false
  over (fun _ h=>by cases h) (by kernel_rfl) (fun _ h=>by cases h) mixtureRepair_row_tie rfl ⟨rfl,rfl⟩ (by kernel_rfl) rfl
  (fun f fn hf hfn=>by
   obtain rfl:f=9:=Option.some.inj ((show Tryz.prog.funcNamed "waypoint/waypointlaw31.MixtureRepair" =some 9 by kernel_rfl).symm.trans hf) |>.symm
   obtain rfl:fn=Tryz.f9:=(Option.some.inj (Tryz.func9.symm.trans hfn)).symm
   exact⟨by kernel_rfl,fun j t ht=>by
    rw[Tryz.params9]at ht
    have hm:t∈[50]:=by simpa using Array.mem_of_getElem? ht
    have hall:([50].all fun u=> !Tryz.prog.wantsStandIn u)=true:=by kernel_rfl
    exact(show Tryz.prog.wantsStandIn t=false by simpa using List.all_eq_true.1 hall t hm)⟩)
  (by kernel_rfl)
end Go.Proofs.YtnegbdpggideiaaGreatDoor.mixtureRepair
