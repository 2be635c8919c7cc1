/- MixtureMoving returns true for every input: while nodes go on to further states, a packet to a safe destination of a covered component arrives after at most three times as many steps as there are nodes. Package-level tables start as the program's text lays them. -/
import Derived.Test.YtnegbdpggideiaaGreatDoorCardMMB14
set_option linter.unusedVariables false
set_option linter.unusedSimpArgs false
set_option maxRecDepth 10000
set_option maxHeartbeats 1000000
namespace Go.Proofs.YtnegbdpggideiaaGreatDoor
namespace PW
open Go.RowKit cB Mem Net eW
noncomputable def Ju(T:ai)(D:List Bool)(g:Int)(d n:Nat):Bool:= !((decide ((n:Int)≠g)&&decide (0≤dN T [] d n))&&decide (dN T D d n<0))
noncomputable def qW(T:ai)(D:List Bool)(g:Int)(d m:Nat):Bool:=(List.range m).all (Ju T D g d)
noncomputable def qa(T:ai)(D:List Bool)(g d:Int):Bool:=(decide (cw T [] [d]=0)&&decide (cw T D [d]=0))&&qW T D g d.toNat T.nodes.toNat
theorem BJ(T:ai)(D:List Bool)(g:Int)(d m:Nat):qW T D g d (m+1)=(qW T D g d m&&Ju T D g d m):=by simp[qW,List.range_succ]
theorem zZ(T:ai)(D:List Bool)(g d:Int):Can Tryz.prog 86 [aP T,aY D,num g,num d] (· =flag (qa T D g d)):=by
 obtain⟨q1,hq1⟩:∃q,decide (cw T [] [d]≠0)=q:=⟨_,rfl⟩
 obtain⟨q2,hq2⟩:∃q,decide (cw T D [d]≠0)=q:=⟨_,rfl⟩
 have hE:qa T D g d=(!(q1||q2)&&qW T D g d.toNat T.nodes.toNat):=by
  unfold qa
  rw[←hq1,←hq2]
  by_cases h1:cw T [] [d]=0<;>by_cases h2:cw T D [d]=0<;>simp[h1,h2]
 have hA:=ob T [] d
 have hB:=ob T D d
 unfold dx at hA hB
 rw[hE]
 refine aE Tryz.func86 rfl Tryz.ntmps86 rfl<|ab (.a 2 rfl<|.k [1,2,3,4] rfl)<|ab (.a 2 rfl<|.v (Dy rfl (an.cons aB.pure<|an.cons aB.bZ<|an.cons aB.pure an.nil) (hA)) rfl<|.a 5 rfl<|.k [1,2,3,4,9,10] rfl)<|ab (.a 3 rfl<|.c rfl (hB) rfl<|.a 5 rfl<|.k [2,4,9,10,11,12] rfl)<|aj<|bp 32 (.raw (.bool (q1||q2))) [2,4,9,11] rfl ?_ ?_
 ·refine .a 1 rfl<|.v (cb rfl (hq1)) rfl<|.a 1 rfl<|?_
  cases q1
  ·exact .a 1 rfl<|.v (cb rfl (hq2)) rfl<|.a 1 rfl<|.k [32,2,4,9,11] rfl
  ·exact .a 3 rfl<|.k [32,2,4,9,11] rfl
 refine ah rfl (fun h1=>?_) (fun h1=>?_)
 ·rw[h1]
  exact ab (.a 1 rfl<|.k [8] rfl)<|aq<|⟨_,_,ay.of rfl,aB.pure,rfl⟩
 ·obtain⟨h2,h3⟩:=Bool.or_eq_false_iff.1 h1
  have e1:cw T [] [d]=0:=by rw[h2]at hq1;simpa using hq1
  have e2:cw T D [d]=0:=by rw[h3]at hq2;simpa using hq2
  obtain⟨hv,hf,hn⟩:=tf e2
  have hdn:=aV.1 (hn d (by simp))
  obtain⟨y,hy⟩:=Int.eq_ofNat_of_zero_le hdn.1
  subst hy
  rw[Int.toNat_natCast]
  have hdl:(y:Int)<T.nodes:=hdn.2
  obtain⟨ha1,_⟩:=dq (D:=[]) hv (dir:=false) hdl
  obtain⟨hb1,_⟩:=dq (D:=D) hv (dir:=false) hdl
  have hNl:=(aK hv).nodes
  obtain⟨N,hNN⟩:∃N:Nat,T.nodes=(N:Int):=⟨T.nodes.toNat,by omega⟩
  have hNt:T.nodes.toNat=N:=by omega
  rw[if_pos e1,if_pos e2,hNt,h1]
  have hst:∀m,qW T D g y (m+1)=(qW T D g y m&& !((decide ((m:Int)≠g)&&decide (0≤(bu T [] y false).getD m 0))&&decide ((bu T D y false).getD m 0<0))):=fun m=>BJ T D g y m
  have hlow:∀m,m<N→qW T D g y (m+1)=false→qW T D g y N=false:=fun m hm h=>lS h (by omega)
  generalize bu T [] y false=A at*
  generalize bu T D y false=B at*
  refine ak<|aj<|ab (.a 1 rfl<|.k [2,4,9,11,13] rfl)<|av<|ft [2,4,9,11,13] rfl<|br (fun r s=>∃m,m≤N∧r=N - m∧qW T D g y m=true∧s=⟨[(2,num g),(4,.aX (bx T) 0),(9,aw A),(11,aw B),(13,num m)],[]⟩) N ⟨0,by omega,by omega,rfl,rfl⟩ ?_
  rintro r s ⟨m,hm,rfl,hw,rfl⟩
  refine aj<|ab (.a 2 rfl<|.v (aN rfl ((show some (num T.nodes)=some (num (N:Int)) by rw[hNN]))) rfl<|.a 1 rfl<|.k [2,4,9,11,13,36] rfl)<|ah rfl (fun h5=>?_) (fun h5=>?_)
  ·have hlt:m<N:=by have:=tt h5;omega
   obtain⟨q3,hq3⟩:∃q,decide ((m:Int)≠g)=q:=⟨_,rfl⟩
   obtain⟨q4,hq4⟩:∃q,decide (0≤A.getD m 0)=q:=⟨_,rfl⟩
   obtain⟨q5,hq5⟩:∃q,decide (B.getD m 0<0)=q:=⟨_,rfl⟩
   have hs:=hst m
   rw[hw,Bool.true_and,hq3,hq4,hq5]at hs
   refine ak<|aj<|av<|bp 55 (.raw (.bool ((q3&&q4)&&q5))) [2,4,9,11,13] rfl ?_ ?_
   ·refine .a 2 rfl<|.v (cb rfl (hq3)) rfl<|.a 1 rfl<|?_
    cases q3
    ·exact .a 13 rfl<|.k [55,2,4,9,11,13] rfl
    ·refine .a 2 rfl<|.v (aL (m) rfl) rfl<|.v (aN rfl (aA A m (by omega))) rfl<|.v (cb rfl (hq4)) rfl<|.a 2 rfl<|?_
     cases q4
     ·exact .a 6 rfl<|.k [55,2,4,9,11,13] rfl
     ·exact .a 2 rfl<|.v (aL (m) rfl) rfl<|.v (aN rfl (aA B m (by omega))) rfl<|.v (cb rfl (hq5)) rfl<|.a 1 rfl<|.k [55,2,4,9,11,13] rfl
   refine ah rfl (fun h6=>?_) (fun h6=>?_)
   ·rw[h6]at hs
    exact ab (.a 1 rfl<|.k [8] rfl)<|aq<|⟨_,_,ay.of rfl,aB.pure,by rw[hlow m hlt hs];rfl⟩
   ·rw[h6]at hs
    refine ak<|az (.a 1 rfl<|.v (aS rfl) rfl<|.a 1 rfl<|.k [2,4,9,11,13] rfl) ?_
    exact⟨N - (m+1),by omega,m+1,by omega,rfl,hs,rfl⟩
  ·have hme:m=N:=by have:=ff h5;omega
   subst hme
   exact bg<|ab (.a 1 rfl<|.k [8] rfl)<|aq<|⟨_,_,ay.of rfl,aB.pure,by rw[hw];rfl⟩
theorem CJ{T:ai}{D:List Bool}{g:Int}{d:Nat}(h:qa T D g d=true){m:Nat}(hm:(m:Int)<T.nodes)(hg:(m:Int)≠g)(h0:0≤dN T [] d m):0≤dN T D d m:=by
 unfold qa qW at h
 rw[Int.toNat_natCast]at h
 have h2:=List.all_eq_true.1 (Bool.and_eq_true_iff.1 h).2 m (List.mem_range.2 (by omega))
 unfold Ju at h2
 simp only[Bool.not_eq_true',Bool.and_eq_false_iff,decide_eq_false_iff_not]at h2
 omega
noncomputable def rr(T:ai)(k x:Int):List Bool:=if dL T k x=0 then aG T k x else []
def HS(k x:Int):Int:=if k=2 then x else -1
noncomputable def yc(c:rQ):Bool:= !nK c&&(((dT c.T c.k c.x c.S&& !nU c.k c.x c.n)&& !nU c.k c.x c.d)&&gg c.T (rr c.T c.k c.x) c.n c.d)
noncomputable def tS(c:rQ):Bool:=(yc c&&xa c.T c.k c.x)&&qa c.T (rr c.T c.k c.x) (HS c.k c.x) c.d
def IB(c:rQ):Bool:=dF c.k c.x (fun n=>nZ (eZ c.S n)) c.S.length
theorem rn(T:ai)(k x:Int):Can Tryz.prog 32 [aP T,bU k x] (· = .tuple [aY (rr T k x),num (dL T k x)]):=lL T k x
theorem zW(k x:Int):Can Tryz.prog 87 [bU k x] (· =num (HS k x)):=by
 obtain⟨q1,hq1⟩:∃q,decide (k=2)=q:=⟨_,rfl⟩
 refine aE Tryz.func87 rfl Tryz.ntmps87 rfl<|ab (.a 2 rfl<|.k [1] rfl)<|aj<|ab (.a 2 rfl<|.v (cb rfl (hq1)) rfl<|.k [1,5] rfl)<|ah rfl (fun h1=>?_) (fun h1=>?_)
 ·have h1:k=2:=by rw[h1]at hq1;exact tt hq1
  exact ab (.a 3 rfl<|.k [2] rfl)<|aq<|⟨_,_,ay.of rfl,aB.pure,by unfold HS;rw[if_pos h1];rfl⟩
 ·have h1:¬k=2:=by rw[h1]at hq1;exact ff hq1
  exact ak<|ab (.a 1 rfl<|.k [2] rfl)<|aq<|⟨_,_,ay.of rfl,aB.pure,by unfold HS;rw[if_neg h1];rfl⟩
theorem wi(c:rQ)(hy:nK c=true):Can Tryz.prog 29 [nw c] (· =flag false):=by
 have hla:=px c
 rw[hy]at hla
 refine aE Tryz.func29 rfl Tryz.ntmps29 rfl<|ab (.a 2 rfl<|.k [1] rfl)<|aj<|bp 30 (.raw (.bool (true))) [1] rfl ?_ ?_
 ·exact .a 1 rfl<|.c rfl (hla) rfl<|.a 24 rfl<|.k [30,1] rfl
 refine ah rfl (fun hc=>?_) (fun hc=>?_)
 ·exact ab (.a 1 rfl<|.k [2] rfl)<|aq<|⟨_,_,ay.of rfl,aB.pure,rfl⟩
 ·cases hc
theorem vZ(c:rQ)(hy:nK c=false):Can Tryz.prog 29 [nw c] (· =flag (((dT c.T c.k c.x c.S&& !nU c.k c.x c.n)&& !nU c.k c.x c.d)&&gg c.T (rr c.T c.k c.x) c.n c.d)):=by
 obtain⟨s1,s2,s3⟩:=vB hy
 have hla:=px c
 rw[hy]at hla
 have hpm:=oF c.T c.k c.x c.S (by omega)
 have hg1:=jI c.k c.x c.n
 have hg2:=jI c.k c.x c.d
 obtain⟨q1,hq1⟩:∃q,dT c.T c.k c.x c.S=q:=⟨_,rfl⟩
 obtain⟨q2,hq2⟩:∃q,nU c.k c.x c.n=q:=⟨_,rfl⟩
 obtain⟨q3,hq3⟩:∃q,nU c.k c.x c.d=q:=⟨_,rfl⟩
 rw[hq1]at hpm
 rw[hq2]at hg1
 rw[hq3]at hg2
 rw[hq1,hq2,hq3]
 refine aE Tryz.func29 rfl Tryz.ntmps29 rfl<|ab (.a 2 rfl<|.k [1] rfl)<|aj<|bp 30 (.raw (.bool ((!q1 ||q2)||q3))) [1] rfl ?_ ?_
 ·refine .a 1 rfl<|.c rfl (hla) rfl<|.a 2 rfl<|.v (fU rfl (rfl) rfl) rfl<|.a 4 rfl<|.c rfl (hpm) rfl<|.a 3 rfl<|?_
  cases q1
  ·exact .a 13 rfl<|.k [30,1] rfl
  ·refine .a 4 rfl<|.c rfl (hg1) rfl<|.a 2 rfl<|?_
   cases q2
   ·exact .a 4 rfl<|.c rfl (hg2) rfl<|.a 1 rfl<|.k [30,1] rfl
   ·exact .a 6 rfl<|.k [30,1] rfl
 refine ah rfl (fun h1=>?_) (fun h1=>?_)
 ·skip
  exact ab (.a 1 rfl<|.k [2] rfl)<|aq<|⟨_,_,ay.of rfl,aB.pure,by cases q1<;>cases q2<;>cases q3<;>first|rfl|cases h1⟩
 ·have h2:((q1&& !q2)&& !q3)=true:=by cases q1<;>cases q2<;>cases q3<;>first|rfl|cases h1
  rw[h2]
  exact ak<|ab (.a 1 rfl<|.v (fU rfl (rfl) rfl) rfl<|.a 2 rfl<|.c rfl (rn c.T c.k c.x) rfl<|.a 5 rfl<|.k [1,3] rfl)<|ab (.a 1 rfl<|.v (fU rfl (rfl) rfl) rfl<|.a 5 rfl<|.c rfl (mG c.T (rr c.T c.k c.x) c.n c.d) rfl<|.a 1 rfl<|.k [2] rfl)<|aq<|⟨_,_,ay.of rfl,aB.pure,by rw[Bool.true_and];rfl⟩
theorem wL(c:rQ):Can Tryz.prog 29 [nw c] (· =flag (yc c)):=by
 unfold yc
 cases hy:nK c with
 |true=>exact wi c hy
 |false=>exact vZ c hy
theorem qx(c:rQ):Can Tryz.prog 31 [nw c] (· =flag (tS c)):=by
 have hpr:=wL c
 have hcv:=Cb c.T c.k c.x
 have hsf:=zZ c.T (rr c.T c.k c.x) (HS c.k c.x) c.d
 unfold tS
 obtain⟨q1,hq1⟩:∃q,yc c=q:=⟨_,rfl⟩
 obtain⟨q2,hq2⟩:∃q,xa c.T c.k c.x=q:=⟨_,rfl⟩
 obtain⟨q3,hq3⟩:∃q,qa c.T (rr c.T c.k c.x) (HS c.k c.x) c.d=q:=⟨_,rfl⟩
 rw[hq1]at hpr
 rw[hq2]at hcv
 rw[hq3]at hsf
 rw[hq1,hq2,hq3]
 refine aE Tryz.func31 rfl Tryz.ntmps31 rfl<|ab (.a 2 rfl<|.k [1] rfl)<|ab (.a 1 rfl<|.v (fU rfl (rfl) rfl) rfl<|.a 2 rfl<|.c rfl (rn c.T c.k c.x) rfl<|.a 5 rfl<|.k [1,3] rfl)<|mE mixed (by kernel_rfl) 2 (.raw (.bool ((q1&&q2)&&q3))) [] rfl ?_ ?_
 ·refine .a 1 rfl<|.v [13] (dR rfl (hpr)) rfl rfl<|.a 1 rfl<|?_
  cases q1
  ·exact .a 18 rfl<|.k [2] rfl
  ·refine .a 1 rfl<|.v [16] (fU rfl (rfl) rfl) rfl rfl<|.a 2 rfl<|.v [17,19] (dR rfl (hcv)) rfl rfl<|.a 2 rfl<|?_
   cases q2
   ·exact .a 11 rfl<|.k [2] rfl
   ·exact .a 1 rfl<|.v [23] (fU rfl (rfl) rfl) rfl rfl<|.a 3 rfl<|.v [27] (dR rfl (zW c.k c.x)) rfl rfl<|.a 2 rfl<|.v [24,25,28,30] (dR rfl (hsf)) rfl rfl<|.a 2 rfl<|.k [2] rfl
 exact aq<|⟨_,_,ay.of rfl,aB.pure,rfl⟩
end PW
end Go.Proofs.YtnegbdpggideiaaGreatDoor
namespace Go.Proofs.YtnegbdpggideiaaGreatDoor
namespace PW
open Go.RowKit cB Mem Net eW
section
variable {T:ai} {tb:Nat→ee} {p0:eC} {Φ Ψ:Nat→Nat→List b7→Prop}
end
section
variable {T:ai} {k x:Int} {d:Nat} {st:Nat→Int} {p0:eC}
end
end PW
end Go.Proofs.YtnegbdpggideiaaGreatDoor
namespace Go.Proofs.YtnegbdpggideiaaGreatDoor
namespace PW
open Go.RowKit cB Mem Net eW
structure Kv (T:ai) (k x:Int) (S:List Int) (s d:Nat) (late:Bool):Prop where
 Km:T.nodes≤12
 Kw:T.af.length≤16
 len:(S.length:Int)=T.nodes
 valid:ao T=true
 comp:(ao T&&bV T k x)=true
 Kc:rr T k x=aG T k x
 ok:xz T k x S=0
 perm:Perm T k x late (eZ S)
 src:(s:Int)<T.nodes
 dst:(d:Int)<T.nodes
 reach:gv T (aG T k x) s d=0
 there:¬Gn k x d
 Ki:Open T k x d s []
theorem D6{T:ai}{k x n d:Int}{S:List Int}(h:yc ⟨T,k,x,S,n,d⟩=true):∃s e:Nat,n=(s:Int)∧d=(e:Int)∧Kv T k x S s e (IB ⟨T,k,x,S,n,d⟩):=by
 unfold yc at h
 simp only[Bool.and_eq_true,Bool.not_eq_true']at h
 obtain⟨h1,⟨⟨h2,h3⟩,h4⟩,h5⟩:=h
 obtain⟨s1,s2,_⟩:=vB h1
 obtain⟨hv,hc,hl,_,late,hpm,hla⟩:=pN h2
 have hvc:(ao T&&bV T k x)=true:=by rw[hv,hc];rfl
 have hm:rr T k x=aG T k x:=by unfold rr dL;rw[if_pos hvc,if_pos rfl]
 rw[hm]at h5
 have h5:=tt h5
 obtain⟨a,b,rfl,rfl,ha,hb,_⟩:=lN h5
 have h6:=h5
 rw[jO hv (di T k x) ha hb]at h6
 refine⟨a,b,rfl,rfl,⟨s1,s2,hl,hv,hvc,hm,?_,?_,ha,hb,h5,mJ.1 h4,⟨rfl,ha,mJ.1 h3,?_⟩⟩⟩
 ·unfold xz
  rw[hvc,decide_eq_true hl];simp[h2]
 ·rw[hla]at hpm;exact hpm
 ·split at h6
  ·cases h6
  ·omega
theorem CZ{T:ai}{k x n:Int}{S:List Int}{d:Nat}(h:tS ⟨T,k,x,S,n,(d:Int)⟩=true)(hm:rr T k x=aG T k x):xa T k x=true∧∀m:Nat,(m:Int)<T.nodes→¬Gn k x m→0≤dN T [] d m→0≤dN T (aG T k x) d m:=by
 unfold tS at h
 simp only[Bool.and_eq_true]at h
 obtain⟨⟨_,h2⟩,h3⟩:=h
 rw[hm]at h3
 refine⟨h2,fun m hml hg h0=>CJ h3 hml (fun e=>hg ?_) h0⟩
 unfold HS at e
 split at e
 ·rename_i hk
  exact⟨hk,e.symm⟩
 ·omega
theorem Gl{c:rQ}(h:tS c=true):yc c=true:=by
 unfold tS at h
 simp only[Bool.and_eq_true]at h
 exact h.1.1
end PW
end Go.Proofs.YtnegbdpggideiaaGreatDoor
namespace Go.Proofs.YtnegbdpggideiaaGreatDoor
namespace PW
open Go.RowKit cB Mem Net eW
def B9(s:Int):Int:=if s=2 then 3 else 2
def ou(T:ai)(k x:Int)(S:List Int)(n:Nat):List Int:=
 if n<S.length then(if(nU k x n||decide (eZ S n=3))=true then S else if dT T k x (S.set n (B9 (eZ S n)))=true then S.set n (B9 (eZ S n)) else S) else S
theorem ot(T:ai)(k x:Int)(S:List Int)(n:Nat):ou T k x S n=S∨(n<S.length∧ou T k x S n=S.set n (B9 (eZ S n))∧dT T k x (ou T k x S n)=true):=by
 unfold ou
 split
 ·rename_i hn
  split
  ·exact .inl rfl
  ·split
   ·rename_i h;exact .inr ⟨hn,rfl,h⟩
   ·exact .inl rfl
 ·exact .inl rfl
theorem EM(T:ai)(k x:Int)(S:List Int)(n:Nat):(ou T k x S n).length=S.length:=by
 rcases ot T k x S n with h|⟨_,h,_⟩
 ·rw[h]
 ·rw[h,List.length_set]
theorem Ef{T:ai}{k x:Int}{S:List Int}{n:Nat}(h:dT T k x S=true):dT T k x (ou T k x S n)=true:=by
 rcases ot T k x S n with e|⟨_,_,e⟩
 ·rw[e];exact h
 ·exact e
theorem CX{T:ai}{k x:Int}{S:List Int}{n:Nat}(h:dF k x (fun m=>nZ (eZ S m)) S.length=true):dF k x (fun m=>nZ (eZ (ou T k x S n) m)) (ou T k x S n).length=true:=by
 rw[EM]
 rcases ot T k x S n with e|⟨hn,e,_⟩
 ·rw[e];exact h
 ·rw[e]
  refine gR.2 fun m hm hg=>?_
  have h1:=gR.1 h m hm hg
  unfold eZ at h1 ⊢
  rw[List.getD_eq_getElem?_getD,List.getElem?_set]
  split
  ·show nZ (B9 _)=true
   unfold B9 nZ
   split<;>rfl
  ·rw[←List.getD_eq_getElem?_getD];exact h1
theorem Ee(c:rQ)(S:List Int)(n:Nat)(hS:S.length≤1000)(hn:S.length≤n):Can Tryz.prog 46 [nw c,aw S,num n] (· =aw S):=by
 refine aE Tryz.func46 rfl Tryz.ntmps46 rfl<|ab (.a 2 rfl<|.k [1,2,3] rfl)<|aQ<|cn (gb rfl (bI.sl.get rfl)) rfl<|au 1 rfl<|cn (bA rfl (bI.rk.get rfl) rfl rfl rfl (show(aO S).length=S.length*1 by simp[aO]) (by unfold maxLen;omega)) rfl<|au 1 rfl<|aH [1,2,3,7] rfl ?_
 refine cZ [1] (.c 1<|.c 2<|.c 3<|.c 7<|.nil) (.kept rfl (.row aD.pure) .nil) rfl rfl ?_
 refine ej (σ':=[some (.row 3 1 S.length (aO S))]) (by rw[Nat.zero_add];rfl) ?_
 refine aj<|bp 27 (.raw (.bool (true))) [1,2,3,7] rfl ?_ ?_
 ·exact .a 3 rfl<|.v (cb rfl (show decide ((S.length:Int)≤(n:Int))=true from decide_eq_true (by omega))) rfl<|.a 13 rfl<|.k [27,1,2,3,7] rfl
 refine ah rfl (fun hc=>?_) (fun hc=>?_)
 ·exact ab (.a 2 rfl<|.k [6] rfl)<|aq<|⟨_,_,ay.of rfl,aB.ew rfl an.pure,rfl⟩
 ·cases hc
theorem CB(c:rQ)(S:List Int)(n:Nat)(hS:S.length≤1000)(hn:n<S.length):Can Tryz.prog 46 [nw c,aw S,num n] (· =aw (if(nU c.k c.x n||decide (eZ S n=3))=true then S else if dT c.T c.k c.x (S.set n (B9 (eZ S n)))=true then S.set n (B9 (eZ S n)) else S)):=by
 have hgn:=jI c.k c.x n
 obtain⟨q1,hq1⟩:∃q,nU c.k c.x n=q:=⟨_,rfl⟩
 obtain⟨v,hv⟩:∃v,eZ S n=v:=⟨_,rfl⟩
 obtain⟨q2,hq2⟩:∃q,decide (v=3)=q:=⟨_,rfl⟩
 obtain⟨q3,hq3⟩:∃q,decide (v=2)=q:=⟨_,rfl⟩
 have hgv:(aO S)[n]? =some (num v):=(aA S n hn).trans (by rw[show S.getD n 0=v from hv])
 rw[hq1]at hgn
 rw[hq1,hv,hq2]
 refine aE Tryz.func46 rfl Tryz.ntmps46 rfl<|ab (.a 2 rfl<|.k [1,2,3] rfl)<|aQ<|cn (gb rfl (bI.sl.get rfl)) rfl<|au 1 rfl<|cn (bA rfl (bI.rk.get rfl) rfl rfl rfl (show(aO S).length=S.length*1 by simp[aO]) (by unfold maxLen;omega)) rfl<|au 1 rfl<|aH [1,2,3,7] rfl ?_
 refine cZ [1] (.c 1<|.c 2<|.c 3<|.c 7<|.nil) (.kept rfl (.row aD.pure) .nil) rfl rfl ?_
 refine ej (σ':=[some (.row 3 1 S.length (aO S))]) (by rw[Nat.zero_add];rfl) ?_
 refine aj<|bp 27 (.raw (.bool (q1||q2))) [1,2,3,7] rfl ?_ ?_
 ·refine .a 3 rfl<|.v (cb rfl (show decide ((S.length:Int)≤(n:Int))=false from decide_eq_false (by omega))) rfl<|.a 4 rfl<|.c rfl (hgn) rfl<|.a 2 rfl<|?_
  cases q1
  ·exact .a 2 rfl<|.v (aL (n) rfl) rfl<|.v (aN rfl (hgv)) rfl<|.v (cb rfl (hq2)) rfl<|.a 1 rfl<|.k [27,1,2,3,7] rfl
  ·exact .a 6 rfl<|.k [27,1,2,3,7] rfl
 refine ah rfl (fun h1=>?_) (fun h1=>?_)
 ·rw[if_pos h1]
  exact ab (.a 2 rfl<|.k [6] rfl)<|aq<|⟨_,_,ay.of rfl,aB.ew rfl an.pure,rfl⟩
 ·rw[if_neg (by rw[h1];simp)]
  refine ak<|aj<|ab (.a 2 rfl<|.v (aL (n) rfl) rfl<|.v (aN rfl (hgv)) rfl<|.v (cb rfl (hq3)) rfl<|.k [1,2,3,7,33] rfl)<|ah rfl (fun h2=>?_) (fun h2=>?_)
  ·have hnx:B9 v=3:=by rw[h2]at hq3;unfold B9;rw[if_pos (tt hq3)]
   refine bF<|au 2 rfl<|bE (aL (n) rfl) rfl<|bc (bC rfl (bI.tk.get rfl) rfl rfl rfl hn) rfl rfl<|aH [1,3,7] rfl ?_
   rw[hnx]
   have hpm:=oF c.T c.k c.x (S.set n 3) (by rw[List.length_set];omega)
   have hzl:(S.set n 3).length=S.length:=List.length_set
   obtain⟨z,hz⟩:∃z,S.set n 3=z:=⟨_,rfl⟩
   rw[hz]at hpm hzl ⊢
   rw[←hzl]
   obtain⟨q4,hq4⟩:∃q,dT c.T c.k c.x z=q:=⟨_,rfl⟩
   rw[hq4]at hpm ⊢
   refine aj<|ab (.a 1 rfl<|.v (fU rfl (rfl) rfl) rfl<|.a 3 rfl<|.v (Dd rfl (an.cons aB.pure<|an.cons aB.pure<|an.cons (aB.ew rfl an.pure) an.nil) (hpm)) rfl<|.a 1 rfl<|.k [1,7,46] rfl)<|ah rfl (fun h3=>?_) (fun h3=>?_)
   ·have h4:q4=false:=by cases q4<;>first|rfl|cases h3
    rw[h4]
    exact ab (.a 2 rfl<|.k [6] rfl)<|aq<|⟨_,_,ay.of rfl,aB.pure,rfl⟩
   ·have h4:q4=true:=by cases q4<;>first|rfl|cases h3
    rw[h4]
    exact ak<|ab (.a 2 rfl<|.k [6] rfl)<|aq<|⟨_,_,ay.of rfl,aB.ew rfl an.pure,rfl⟩
  ·have hnx:B9 v=2:=by rw[h2]at hq3;unfold B9;rw[if_neg (ff hq3)]
   refine bF<|au 2 rfl<|bE (aL (n) rfl) rfl<|bc (bC rfl (bI.tk.get rfl) rfl rfl rfl hn) rfl rfl<|aH [1,3,7] rfl ?_
   rw[hnx]
   have hpm:=oF c.T c.k c.x (S.set n 2) (by rw[List.length_set];omega)
   have hzl:(S.set n 2).length=S.length:=List.length_set
   obtain⟨z,hz⟩:∃z,S.set n 2=z:=⟨_,rfl⟩
   rw[hz]at hpm hzl ⊢
   rw[←hzl]
   obtain⟨q4,hq4⟩:∃q,dT c.T c.k c.x z=q:=⟨_,rfl⟩
   rw[hq4]at hpm ⊢
   refine aj<|ab (.a 1 rfl<|.v (fU rfl (rfl) rfl) rfl<|.a 3 rfl<|.v (Dd rfl (an.cons aB.pure<|an.cons aB.pure<|an.cons (aB.ew rfl an.pure) an.nil) (hpm)) rfl<|.a 1 rfl<|.k [1,7,46] rfl)<|ah rfl (fun h3=>?_) (fun h3=>?_)
   ·have h4:q4=false:=by cases q4<;>first|rfl|cases h3
    rw[h4]
    exact ab (.a 2 rfl<|.k [6] rfl)<|aq<|⟨_,_,ay.of rfl,aB.pure,rfl⟩
   ·have h4:q4=true:=by cases q4<;>first|rfl|cases h3
    rw[h4]
    exact ak<|ab (.a 2 rfl<|.k [6] rfl)<|aq<|⟨_,_,ay.of rfl,aB.ew rfl an.pure,rfl⟩
theorem GZ(c:rQ)(S:List Int)(n:Nat)(hS:S.length≤1000):Can Tryz.prog 46 [nw c,aw S,num n] (· =aw (ou c.T c.k c.x S n)):=by
 unfold ou
 by_cases hn:n<S.length
 ·rw[if_pos hn];exact CB c S n hS hn
 ·rw[if_neg hn];exact Ee c S n hS (by omega)
end PW
end Go.Proofs.YtnegbdpggideiaaGreatDoor
namespace Go.Proofs.YtnegbdpggideiaaGreatDoor
namespace PW
open Go.RowKit cB Mem Net eW
section
variable {T:ai} {x:ee} {h:Int}
def yO(h:Int)(p:eC):eC:=⟨p.id,p.src,p.dst,p.pC,p.stack,p.db+h⟩
def ED(h:Int)(o:Out):Out:=⟨o.aI,yO h o.eQ,o.dt⟩
theorem tL(p:eC)(r:Int):fY (yO h p) r=ED h (fY p r):=rfl
theorem wM(p:eC)(s:List b7)(l:List Int):cH (yO h p) s l=ED h (cH p s l):=by
 simp only[cH,ED,yO,Out.mk.injEq,eC.mk.injEq,true_and,and_true]
 omega
theorem Cu(p:eC)(s:List b7)(e:iC):gE (yO h p) s e=ED h (gE p s e):=by
 unfold gE
 simp only[tL,wM]
 split
 ·split<;>rfl
 ·rfl
theorem Hf(p:eC)(s:List b7)(v:Int)(K:Out):Ff T x (yO h p) s v (ED h K)=ED h (Ff T x p s v K):=by
 unfold Ff
 split
 ·exact Cu p s _
 ·rfl
theorem wu(p:eC)(h0:p.db=0)(hh:0≤h∧h<255)(s:List b7)(K:Out):eE T x (yO h p) s (ED h K)=ED h (eE T x p s K):=by
 have e1:(decide (255≤(yO h p).db)||decide ((yO h p).db<0))=false:=by
  show(decide (255≤p.db+h)||decide (p.db+h<0))=false
  rw[Bool.or_eq_false_iff]
  exact⟨decide_eq_false (by omega),decide_eq_false (by omega)⟩
 have e2:(decide (255≤p.db)||decide (p.db<0))=false:=by rw[h0];rfl
 have e3:(yO h p).dst=p.dst:=rfl
 unfold eE
 rw[e1,e2,e3]
 split
 ·rfl
 ·rw[if_neg (by simp),if_neg (by simp)]
  split
  ·rw[tL];exact Hf p _ _ _
  ·split
   ·exact Hf p _ _ _
   ·split
    ·split
     ·rfl
     ·split
      ·rfl
      ·exact wM p _ _
    ·rfl
theorem Gp(p:eC)(h0:p.db=0)(hh:0≤h∧h<255):cC T x (yO h p)=ED h (cC T x p):=by
 unfold cC
 rw[show(yO h p).dst=p.dst from rfl,show(yO h p).stack=p.stack from rfl]
 split
 ·rfl
 ·split
  ·rfl
  ·rw[tL,wu p h0 hh,wu p h0 hh]
end
section
variable {T:ai} {k x:Int} {d:Nat}
theorem Way.here{late:Bool}{n:Nat}{s:List b7}{u:Nat}(h:Way T k x d late n s u):¬Gn k x n∧(n:Int)<T.nodes:=by
 rcases h with⟨h,_⟩|⟨q,h,_⟩
 ·exact⟨h.here,h.node⟩
 ·exact⟨h.here,h.node⟩
theorem Ez(hv:ao T=true)(h12:T.nodes≤12)(hd:(d:Int)<T.nodes){late:Bool}(hcv:late=false→xa T k x=true)(hsafe:late=false→∀m:Nat,(m:Int)<T.nodes→¬Gn k x m→0≤dN T [] d m→0≤dN T (aG T k x) d m)
    {st:Nat→Int} (hp:Perm T k x late st) {n:Nat} {p:eC} {u:Nat} (h:Way T k x d late n p.stack u) (hpd:p.dst=(d:Int)) (hh:0≤p.db∧p.db<255):
    (n=d∧(cC T (eX T (aG T k x) (st n) n) p).dt= -1)∨
    ((cC T (eX T (aG T k x) (st n) n) p).dt = 0 ∧ (cC T (eX T (aG T k x) (st n) n) p).aI ≠ [] ∧ (cC T (eX T (aG T k x) (st n) n) p).eQ.dst = (d : Int) ∧ (cC T (eX T (aG T k x) (st n) n) p).eQ.db = p.db + 1 ∧
      ∀a∈(cC T (eX T (aG T k x) (st n) n) p).aI,∃b m:Nat,qj T k x n a b m∧∃u',u'<u∧Way T k x d late m (cC T (eX T (aG T k x) (st n) n) p).eQ.stack u'):=by
  have e:p=yO p.db (fh p p.stack):=by
    unfold yO fh
    cases p
    simp
  have hst:cC T (eX T (aG T k x) (st n) n) p=ED p.db (cC T (eX T (aG T k x) (st n) n) (fh p p.stack)):=by
    have:=Gp (T:=T) (x:=eX T (aG T k x) (st n) n) (fh p p.stack) rfl hh
    rwa [←e]at this
  rw[hst]
  rcases Ej hv h12 hd hcv hsafe hp h (p:=fh p p.stack) hpd rfl rfl with⟨e1,_,e3⟩|⟨aI,s',e1,e2,e3⟩
  · exact .inl ⟨e1,e3⟩
  · rw[e1]
    refine .inr ⟨rfl,e2,hpd,?_,e3⟩
    show(0:Int)+1+p.db=p.db+1
    omega
end
end PW
end Go.Proofs.YtnegbdpggideiaaGreatDoor
namespace Go.Proofs.YtnegbdpggideiaaGreatDoor
namespace PW
open Go.RowKit cB Mem Net
def ye(a:Nat):PV:=.raw (.int .u8 (a:Int))
def jZ(l:List Nat):List PV:=l.map ye
def oW(A B:List Nat):List PV:=[.slice A.length (jZ A),.slice B.length (jZ B)]
def ov(A B:List Nat):PV:=.agg (oW A B)
instance (a:Nat):IsPure (ye a):=by unfold ye;infer_instance
instance (l:List Nat):aJ (jZ l):=aJ.map _ _ fun _=>by unfold ye;infer_instance
instance (A B:List Nat):aJ (oW A B):=by unfold oW;infer_instance
instance (A B:List Nat):IsPure (ov A B):=by unfold ov;infer_instance
theorem zD(l:List Nat)(i:Nat)(h:i<l.length):(jZ l)[i]? =some (ye (l.getD i 0)):=by
 unfold jZ
 rw[List.getElem?_map,List.getD_eq_getElem?_getD,List.getElem?_eq_getElem h]
 rfl
section
variable {P:Program} {σ:cd} {t:bY} {o:Oper}
theorem Ie{ty:TypeId}(a:Nat)(w:World):(binOp .rem ty (.int .u8 (a:Int)) (.int .u8 16)).run P w= .ok (.int .u8 ((a % 16:Nat):Int)) w:=by
 have:(a:Int).tmod 16=((a % 16:Nat):Int):=by rw[Int.tmod_eq_emod_of_nonneg (by omega)];omega
 simp[binOp,Op.intDiv,this]
theorem wrap_small{a:Nat}(h:a<256):IntKind.i64.wrap (a:Int)=(a:Int):=by
 have h1:(a:Int) % 18446744073709551616=(a:Int):=by omega
 have h2:¬(9223372036854775808≤(a:Int)):=by omega
 show(if(true&&decide ((a:Int) % 18446744073709551616≥9223372036854775808))=true then(a:Int) % 18446744073709551616 - 18446744073709551616 else(a:Int) % 18446744073709551616)=a
 rw[h1,Bool.true_and,if_neg (by rw[decide_eq_true_eq];exact h2)]
end
end PW
end Go.Proofs.YtnegbdpggideiaaGreatDoor
namespace Go.Proofs.YtnegbdpggideiaaGreatDoor
namespace PW
open Go.RowKit cB Mem Net eW
def Is(k x:Int)(S:List Int):Bool:=dF k x (fun m=>nZ (eZ S m)) S.length
structure jR (T:ai) (k x:Int) (e n:Nat) (S:List Int) (p:eC) (i:Nat):Prop where
 perm:dT T k x S=true
 FC:∃u,Way T k x e (Is k x S) n p.stack u∧u+i<3*T.nodes.toNat
 dst:p.dst=(e:Int)
 db:p.db=(i:Int)
section
variable {T:ai} {k x:Int} {e n i:Nat} {S:List Int} {p:eC}
theorem jR.J7(h:jR T k x e n S p i)(j:Nat):jR T k x e n (ou T k x S j) p i:=by
 refine⟨Ef h.perm,?_,h.dst,h.db⟩
 obtain⟨u,hw,hu⟩:=h.FC
 have hl:=CX (T:=T) (k:=k) (x:=x) (S:=S) (n:=j)
 cases h1:Is k x S with
 |true=>
  rw[h1]at hw
  have:Is k x (ou T k x S j)=true:=hl h1
  rw[this]
  exact⟨u,hw,hu⟩
 |false=>
  rw[h1]at hw
  cases h2:Is k x (ou T k x S j)with
  |false=>exact⟨u,hw,hu⟩
  |true=>
   obtain⟨u',hu',hw'⟩:=hw.on
   exact⟨u',hw',by omega⟩
theorem jR.len(h:jR T k x e n S p i):p.stack.length≤1000:=by
 obtain⟨u,hw,_⟩:=h.FC
 rcases hw with⟨h,_⟩|⟨q,h,_⟩
 ·rw[h.nil];simp
 ·have:=h.len;omega
theorem jR.size(h:jR T k x e n S p i):(S.length:Int)=T.nodes:=(pN h.perm).2.2.1
theorem jR.node(h:jR T k x e n S p i):(n:Int)<T.nodes:=by
 obtain⟨u,hw,_⟩:=h.FC
 exact hw.here.2
theorem jR.bound(h:jR T k x e n S p i):i<3*T.nodes.toNat:=by
 obtain⟨u,_,hu⟩:=h.FC
 omega
theorem jR.JM(h:jR T k x e n S p i):xz T k x S=0:=by
 obtain⟨hv,hc,hl,_⟩:=pN h.perm
 unfold xz
 rw[hv,hc,decide_eq_true hl]
 simp[h.perm]
theorem jR.step(hv:ao T=true)(h12:T.nodes≤12)(he:(e:Int)<T.nodes)(hcv:xa T k x=true)(hsafe:∀m:Nat,(m:Int)<T.nodes→¬Gn k x m→0≤dN T [] e m→0≤dN T (aG T k x) e m)(h:jR T k x e n S p i):
  (n=e∧(cC T (nc T k x S n) p).dt= -1)∨
  ((cC T (nc T k x S n) p).dt=0∧(cC T (nc T k x S n) p).aI≠[]∧∀a∈(cC T (nc T k x S n) p).aI,∃b m:Nat,a=(b:Int)∧b<2*T.af.length∧aT T b=(m:Int)∧jR T k x e m S (cC T (nc T k x S n) p).eQ (i+1)):=by
 obtain⟨u,hw,hu⟩:=h.FC
 obtain⟨hg,hn⟩:=hw.here
 have hb:=h.bound
 obtain⟨_,_,_,_,late,hpm,hla⟩:=pN h.perm
 have hla':late=Is k x S:=hla
 subst hla'
 rw[DJ hg]
 rcases Ez hv h12 he (fun _=>hcv) (fun _=>hsafe) hpm hw h.dst (by rw[h.db];omega)with h1|⟨h1,h2,h3,h4,h5⟩
 ·exact .inl h1
 ·refine .inr ⟨h1,h2,fun a ha=>?_⟩
  obtain⟨b,m,g,u',hu',hw'⟩:=h5 a ha
  exact⟨b,m,g.eq,g.fx,g.head,h.perm,⟨u',hw',by omega⟩,h3,by have h4':(cC T (Jn T (aG T k x) (fun n=>eZ S n) n) p).eQ.db=p.db+1:=h4;rw[h4',h.db];omega⟩
end
theorem vC(c:rQ)(A B:List Nat)(h:tS c=false):Can Tryz.prog 10 [nw c,ov A B] (· =flag true):=by
 have hsn:=qx c
 rw[h]at hsn
 refine aE Tryz.func10 rfl Tryz.ntmps10 rfl<|ab (.a 3 rfl<|.k [2,3] rfl)<|aj<|bp 35 (.raw (.bool (true))) [2,3] rfl ?_ ?_
 ·exact .c rfl (jv) rfl<|.a 3 rfl<|.c rfl (hsn) rfl<|.a 14 rfl<|.k [35,2,3] rfl
 refine ah rfl (fun hc=>?_) (fun hc=>?_)
 ·exact ab (.c rfl (jv) rfl<|.a 1 rfl<|.k [4] rfl)<|aq<|⟨_,_,ay.of rfl,aB.pure,rfl⟩
 ·cases hc
set_option maxHeartbeats 2000000 in
theorem wq(T:ai)(k x:Int)(S:List Int)(n d:Int)(A B:List Nat)(hB:∀b∈B,b<256)(h:tS ⟨T,k,x,S,n,d⟩=true):Can Tryz.prog 10 [nw ⟨T,k,x,S,n,d⟩,ov A B] (· =flag true):=by
  have hsn:=qx ⟨T,k,x,S,n,d⟩
  obtain⟨s,e,rfl,rfl,hP⟩:=D6 (Gl h)
  have h12:=hP.Km
  have hsl:=hP.src
  have hel:=hP.dst
  have hv:=hP.valid
  have hNl:=(aK hv).nodes
  obtain⟨hcv,hsafe⟩:=CZ h hP.Kc
  obtain⟨N,hNN⟩:∃N:Nat,T.nodes=(N:Int):=⟨T.nodes.toNat,by omega⟩
  have hNt:T.nodes.toNat=N:=by omega
  have hI0:jR T k x e s S ⟨0,s,e,0,[],0⟩ 0:=by
    obtain⟨u,hu⟩:∃u,u=(if Is k x S then T.nodes.toNat+jl T (aG T k x) e s else 2*T.nodes.toNat+jl T [] e s):=⟨_,rfl⟩
    have hw:Way T k x e (Is k x S) s [] u:=.inl ⟨hP.Ki,hu⟩
    have:=hw.bound (by omega)
    exact⟨(wQ hP.ok).2.2,⟨u,hw,by omega⟩,rfl,rfl⟩
  have hadv:=fun(S':List Int) (j:Nat) (hl:S'.length≤1000)=>GZ ⟨T,k,x,S,(s:Int),(e:Int)⟩ S' j hl
  have hstep:=fun(n:Nat) (S':List Int) (p:eC) (i:Nat) (hI:jR T k x e n S' p i)=>hI.step hv h12 hel hcv hsafe
  obtain⟨w1,hw1⟩:∃q,decide ((60:Int)<A.length)=q:=⟨_,rfl⟩
  obtain⟨w2,hw2⟩:∃q,decide ((60:Int)<B.length)=q:=⟨_,rfl⟩
  rw[h]at hsn
  refine aE Tryz.func10 rfl Tryz.ntmps10 rfl<|ab (.a 3 rfl<|.k [2,3] rfl)<|aj<|bp 35 (.raw (.bool (w1||w2))) [2,3] rfl ?_ ?_
  · refine .c rfl (jv) rfl<|.a 3 rfl<|.c rfl (hsn) rfl<|.a 3 rfl<|.v (aL (0) rfl) rfl<|.v (aN rfl ((show some (PV.slice A.length (jZ A))=some (.slice A.length (jZ A)) from rfl))) rfl<|.a 1 rfl<|.v (cb rfl (hw1)) rfl<|.a 2 rfl<|?_
    cases w1
    · exact .v (aL (1) rfl) rfl<|.v (aN rfl ((show some (PV.slice B.length (jZ B))=some (.slice B.length (jZ B)) from rfl))) rfl<|.a 1 rfl<|.v (cb rfl (hw2)) rfl<|.a 1 rfl<|.k [35,2,3] rfl
    · exact .a 5 rfl<|.k [35,2,3] rfl
  refine ah rfl (fun hc=>?_) (fun hc=>?_)
  · skip
    exact ab (.c rfl (jv) rfl<|.a 1 rfl<|.k [4] rfl)<|aq<|⟨_,_,ay.of rfl,aB.pure,rfl⟩
  · obtain ⟨g1, g2⟩ := Bool.or_eq_false_iff.1 hc
    rw[g1]at hw1
    rw[g2]at hw2
    have hA60:=ff hw1
    have hB60:=ff hw2
    clear hc
    refine ak<|aQ<|au 1 rfl<|bE (aN rfl ((show some (num (s:Int))=some (num (s:Int)) from rfl))) rfl<|au 1 rfl<|bE (aN rfl ((show some (num (e:Int))=some (num (e:Int)) from rfl))) rfl<|bE (CP (gM (xs:=[_,_,_,_,_,_]) rfl (bI.st.get rfl) rfl rfl) (jg.iH (.cons (jg.refl _)<|.cons (jg.refl _)<|.cons (jg.refl _)<|.cons (jg.refl _)<|.cons jg.bZ<|.cons (jg.refl _) .nil))) rfl<|au 2 rfl<|aH [2,3,5] rfl ?_
    refine ei mixed (by kernel_rfl) (.a 1 rfl<|.v [42] (aN rfl ((show some (num (s:Int))=some (num (s:Int)) from rfl))) rfl rfl<|.a 1 rfl<|.v [44] (aN rfl ((show some (aw S)=some (aw S) from rfl))) rfl rfl<|.a 3 rfl<|.k [2,3,5,6,7,8] rfl) ?_
    refine aj<|ab (.a 1 rfl<|.k [2,3,5,6,7,8,9] rfl)<|av<|ft [2,3,5,6,7,8,9] rfl<|br (fun r st=>∃(i n:Nat) (S':List Int) (ud:Nat) (p:eC),jR T k x e n S' p i∧ud≤A.length∧r=3*N - i∧st=⟨[(2,.aX (AP ⟨T,k,x,S,(s:Int),(e:Int)⟩) 0),(3,.aX (oW A B) 0),(5,.ptr 0 0),(6,num n),(7,aw S'),(8,num ud),(9,num i)],[some (.cells 66 (cX p))]⟩) (3*N) ⟨0,s,S,0,⟨0,s,e,0,[],0⟩,hI0,by omega,by omega,rfl⟩ ?_
    rintro r st ⟨i,n,S',ud,p,hI,hud,rfl,rfl⟩
    refine aj<|ab (.a 3 rfl<|.v (aN rfl ((show some (num T.nodes)=some (num (N:Int)) by rw[hNN]))) rfl<|.v (aS rfl) rfl<|.a 1 rfl<|.k [2,3,5,6,7,8,9,51] rfl)<|ah rfl (fun h1=>?_) (fun h1=>?_)
    · clear h1
      have hib:=hI.bound
      refine ak<|aj<|av<|aj<|ab (.a 1 rfl<|.k [2,3,5,6,7,8,9,10] rfl)<|av<|ft [2,3,5,6,7,8,9,10] rfl<|br (fun r st=>∃(j:Nat) (S2:List Int) (ue:Nat),jR T k x e n S2 p i∧ue≤A.length∧j≤3∧r=3 - j∧st=⟨[(2,.aX (AP ⟨T,k,x,S,(s:Int),(e:Int)⟩) 0),(3,.aX (oW A B) 0),(5,.ptr 0 0),(6,num n),(7,aw S2),(8,num ue),(9,num i),(10,num j)],[some (.cells 66 (cX p))]⟩) 3 ⟨0,S',ud,hI,hud,by omega,by omega,rfl⟩ ?_
      rintro r st ⟨j,S2,ue,hI2,hue,hj,rfl,rfl⟩
      obtain⟨g1,hg1⟩:∃q,decide ((j:Int)<3)=q:=⟨_,rfl⟩
      obtain⟨g2,hg2⟩:∃q,decide ((ue:Int)<A.length)=q:=⟨_,rfl⟩
      refine aj<|bp 62 (.raw (.bool (g1&&g2))) [2,3,5,6,7,8,9,10] rfl ?_ ?_
      · refine .a 1 rfl<|.v (cb rfl (hg1)) rfl<|.a 1 rfl<|?_
        cases g1
        · exact .a 6 rfl<|.k [62,2,3,5,6,7,8,9,10] rfl
        · exact .a 1 rfl<|.v (aL (0) rfl) rfl<|.v (aN rfl ((show some (PV.slice A.length (jZ A))=some (.slice A.length (jZ A)) from rfl))) rfl<|.a 1 rfl<|.v (cb rfl (hg2)) rfl<|.a 1 rfl<|.k [62,2,3,5,6,7,8,9,10] rfl
      refine ah rfl (fun h2=>?_) (fun h2=>?_)
      · obtain⟨e1,e2⟩:=Bool.and_eq_true_iff.1 h2
        rw[e1]at hg1
        rw[e2]at hg2
        have hj3:=tt hg1
        have hul:=tt hg2
        have hue2:ue<A.length:=by omega
        have hsz:=hI2.size
        obtain⟨a,ha⟩:∃a,A.getD ue 0=a:=⟨_,rfl⟩
        have hga:=(zD A ue hue2).trans (by rw[ha])
        have hac:=hadv S2 (a % 16) (by omega)
        refine ak<|aj<|av<|ei mixed (by kernel_rfl) (.a 2 rfl<|.v [3] (aL (0) rfl) rfl rfl<|.v [67] (aN rfl ((show some (PV.slice A.length (jZ A))=some (.slice A.length (jZ A)) from rfl))) rfl rfl<|.a 1 rfl<|.v [68,69] (aL (ue) rfl) rfl rfl<|.v [70] (aN rfl (hga)) rfl rfl<|.v [71] (jW rfl rfl rfl (fun w=>Ie a w)) rfl rfl<|.v [72] (qR rfl (show Tryz.prog.underlying 5=some (.int .u8) by kernel_rfl) (show Tryz.prog.underlying 3=some (.int .i64) by kernel_rfl) rfl (wrap_small (by omega))) rfl rfl<|.v [65,66,73] (dR rfl (hac)) rfl rfl<|.a 1 rfl<|.k [2,3,5,6,7,8,9,10] rfl) ?_
        refine az (.a 1 rfl<|.v (aS rfl) rfl<|.a 1 rfl<|.k [2,3,5,6,7,8,9,10] rfl) ?_
        refine az (.a 1 rfl<|.v (aS rfl) rfl<|.a 1 rfl<|.k [2,3,5,6,7,8,9,10] rfl) ?_
        exact⟨3 - (j+1),by omega,j+1,_,ue+1,hI2.J7 (a % 16),by omega,by omega,rfl,rfl⟩
      · clear h2 hg1 hg2
        refine bg ?_
        have hsz:=hI2.size
        have hmt:=sf T k x S2 (by omega) h12
        rw[hI2.JM]at hmt
        unfold Du at hmt
        rw[if_pos rfl]at hmt
        have hnd:=hI2.node
        have hge:=zC (T:=T) (k:=k) (x:=x) (l:=S2) (show n<S2.length by omega)
        have hLl:(pB T k x S2 S2.length).length=N:=by rw[pO];omega
        have hst:=wm T (nc T k x S2 n) p hI2.len
        have hcase:=hstep n S2 p i hI2
        obtain⟨L,hL⟩:∃L,pB T k x S2 S2.length=L:=⟨_,rfl⟩
        rw[hL]at hmt hge hLl
        obtain⟨o,ho⟩:∃o,cC T (nc T k x S2 n) p=o:=⟨_,rfl⟩
        rw[ho]at hcase hst
        obtain⟨aI,pk,dt⟩:=o
        dsimp only at hcase
        have hst:Can Tryz.prog 47 [aP T,fN (nc T k x S2 n),eI p] (· = .tuple [aw aI,eI pk,num dt]):=hst
        obtain⟨g3,hg3⟩:∃q,decide (dt= -1)=q:=⟨_,rfl⟩
        refine ab (.a 1 rfl<|.v (fU rfl (rfl) rfl) rfl<|.a 3 rfl<|.c rfl (hmt) rfl<|.a 5 rfl<|.k [2,3,5,6,7,8,9,11,12] rfl)<|aj<|bp 95 (.raw (.bool (false))) [2,3,5,6,7,8,9,11] rfl ?_ ?_
        · exact .a 7 rfl<|.v (aN rfl ((show some (num T.nodes)=some (num (N:Int)) by rw[hNN]))) rfl<|.v (cb rfl (show decide (((L.length:Nat):Int)≠(N:Int))=false by rw[hLl];simp)) rfl<|.a 1 rfl<|.k [95,2,3,5,6,7,8,9,11] rfl
        refine ah rfl (fun hc=>?_) (fun hc=>?_)
        · cases hc
        · clear hc
          refine ak<|Ce 20 2 ([some (.cells 66 (cX p))]::[some (.cells 66 (cX p)),some (.cells 66 [num 0,num 0,num 0,num 0,.raw (.slice none 0 0),num 0])]::[some (.cells 66 (cX p)),some (.cells 66 (cX pk))]::[]) (⟨_,none,0,1⟩::⟨_,none,0,1⟩::⟨_,none,0,1⟩::⟨_,none,0,1⟩::⟨_,none,0,1⟩::⟨_,none,0,1⟩::⟨_,none,0,1⟩::⟨_,none,0,1⟩::⟨_,none,0,1⟩::⟨_,none,0,1⟩::⟨_,none,0,1⟩::⟨_,none,0,2⟩::⟨.ptr 1 0,some 0,0,0⟩::⟨_,none,1,1⟩::⟨_,some 1,0,0⟩::⟨_,none,2,2⟩::[]) _ mixed ?grd1 rfl rfl rfl rfl (.cons (.val [2] rfl rfl (yz (cW (bw rfl) (cW (bw rfl) dZ))) rfl rfl)<|.cons (.val [97] rfl rfl (yz (cW (fU rfl (rfl) rfl) (cW (fU rfl (rfl) rfl) dZ))) rfl rfl)<|.cons (.val [11] rfl rfl (yz (cW (bw rfl) (cW (bw rfl) dZ))) rfl rfl)<|.cons (.val [6] rfl rfl (yz (cW (bw rfl) (cW (bw rfl) dZ))) rfl rfl)<|.cons (.val [99,100] rfl rfl (yz (cW (aL ((n*3)) rfl (by omega) (by omega)) (cW (aL ((n*3)) rfl (by omega) (by omega)) dZ))) rfl rfl)<|.cons (.val [101] rfl rfl (yz (cW (fU rfl (ma L n _ hge) rfl) (cW (fU rfl (ma L n _ hge) rfl) dZ))) rfl rfl)<|.cons (.val [5] rfl rfl (yz (cW (bw rfl) (cW (bw rfl) dZ))) rfl rfl)<|.cons (.val [98,102,103] rfl rfl (yz (cW (dR rfl (hst)) (cW (dR rfl (hst)) dZ))) rfl rfl)<|.cons (.val [104] rfl rfl (yz (cW (bw rfl) (cW (bw rfl) dZ))) rfl rfl)<|.cons (.val [96] rfl rfl (yz (cW (bw rfl) (cW (bw rfl) dZ))) rfl rfl)<|.cons (.val [96] rfl rfl (yz (cW (bw rfl) (cW (bw rfl) dZ))) rfl rfl)<|.cons (.val [96] rfl rfl (yz (cW (bw rfl) (cW (bw rfl) (cW (bw rfl) dZ)))) rfl rfl)<|.cons (.Ep [] rfl rfl rfl rfl (dI rfl) rfl rfl)<|.cons (.val [105] rfl rfl (yz (cW (bw rfl) dZ)) rfl rfl)<|.cons (.lh [14,106] rfl rfl rfl rfl (dI rfl) rfl)<|.cons (.val [107] rfl rfl (yz (cW (bw rfl) dZ)) rfl rfl) .nil) (bd (ks:=[2,3,5,6,7,8,9,13,14,15]) rfl) ?_
          case grd1=>kernel_rfl
          refine aj<|ab (.a 1 rfl<|.v (cb rfl (hg3)) rfl<|.k [2,3,5,6,7,8,9,13,14,15,109] rfl)<|ah rfl (fun h3=>?_) (fun h3=>?_)
          · have hne:n=e:=by
              rcases hcase with h5|⟨h5,_⟩
              · exact h5.1
              · rw[h3]at hg3;have:=tt hg3;omega
            exact ab (.a 5 rfl<|.k [4] rfl)<|aq<|⟨_,_,ay.of rfl,aB.pure,by rw[hne];simp;rfl⟩
          · obtain⟨hw0,hne,hnx⟩:dt=0∧aI≠[]∧_:=by
              rcases hcase with h5|h5
              · rw[h3]at hg3;exact absurd h5.2 (ff hg3)
              · exact h5
            subst hw0
            have hal:0<aI.length:=Nat.pos_of_ne_zero (fun h=>hne (List.eq_nil_of_length_eq_zero h))
            obtain⟨g4,hg4⟩:∃q,decide ((i:Int)<B.length)=q:=⟨_,rfl⟩
            refine ak<|aj<|bp 120 (.raw (.bool (false))) [2,3,5,7,8,9,13,14] rfl ?_ ?_
            · exact .a 5 rfl<|.v (cb rfl (show decide (((aI.length:Nat):Int)=0)=false from decide_eq_false (by omega))) rfl<|.a 1 rfl<|.k [120,2,3,5,7,8,9,13,14] rfl
            refine ah rfl (fun hc=>?_) (fun hc=>?_)
            · cases hc
            · clear hc
              refine ak<|ab (.a 1 rfl<|.k [2,3,5,7,8,9,13,14,16] rfl)<|aj<|ab (.a 1 rfl<|.v (aL (1) rfl) rfl<|.v (aN rfl ((show some (PV.slice B.length (jZ B))=some (.slice B.length (jZ B)) from rfl))) rfl<|.a 1 rfl<|.v (cb rfl (hg4)) rfl<|.k [2,3,5,7,8,9,13,14,16,125] rfl)<|ah rfl (fun h4=>?_) (fun h4=>?_)
              · have hiB:i<B.length:=by rw[h4]at hg4;have:=tt hg4;omega
                obtain⟨b0,hb0⟩:∃a,B.getD i 0=a:=⟨_,rfl⟩
                have hgb:=(zD B i hiB).trans (by rw[hb0])
                have hb256:b0<256:=by rw[←hb0];exact hB _ (by rw[List.getD_eq_getElem?_getD,List.getElem?_eq_getElem hiB];exact List.getElem_mem hiB)
                obtain⟨jj,hj⟩:∃j,b0 % aI.length=j:=⟨_,rfl⟩
                have hjl:jj<aI.length:=by rw[←hj];exact Nat.mod_lt _ hal
                have hrm:(b0:Int).tmod (aI.length:Int)=(jj:Int):=by rw[Int.tmod_eq_emod_of_nonneg (by omega),←hj];rfl
                obtain⟨b,m,hb,hbl,hbm,hI3⟩:=hnx _ (bX (d:=0) hjl)
                have hhd:=gJ T hv b hbl
                rw[hbm]at hhd
                refine az (.v (aL (1) rfl) rfl<|.v (aN rfl ((show some (PV.slice B.length (jZ B))=some (.slice B.length (jZ B)) from rfl))) rfl<|.a 1 rfl<|.v (aL (i) rfl) rfl<|.v (aN rfl (hgb)) rfl<|.v (qR rfl (show Tryz.prog.underlying 5=some (.int .u8) by kernel_rfl) (show Tryz.prog.underlying 3=some (.int .i64) by kernel_rfl) rfl (wrap_small hb256)) rfl<|.a 2 rfl<|.v (qM rfl rfl rfl (by omega) hrm) rfl<|.a 1 rfl<|.k [2,3,5,7,8,9,13,14,16] rfl) ?_
                refine qw 20 1 ([some (.cells 66 (cX p)),some (.cells 66 (cX pk))]::[some (.cells 66 (cX pk)),some (.cells 66 (cX pk))]::[]) (⟨_,none,0,0⟩::⟨_,none,0,0⟩::⟨_,none,0,0⟩::⟨_,none,0,0⟩::⟨_,none,0,0⟩::⟨_,none,0,0⟩::⟨_,none,0,0⟩::⟨_,none,0,0⟩::⟨_,none,0,0⟩::⟨_,some 0,0,0⟩::[]) _ mixed ?grd2 rfl rfl rfl rfl (.cons (.val [2] rfl rfl (yz (cW (bw rfl) dZ)) rfl rfl)<|.cons (.val [135] rfl rfl (yz (cW (fU rfl (rfl) rfl) dZ)) rfl rfl)<|.cons (.val [13] rfl rfl (yz (cW (bw rfl) dZ)) rfl rfl)<|.cons (.val [16] rfl rfl (yz (cW (bw rfl) dZ)) rfl rfl)<|.cons (.val [137,138] rfl rfl (yz (cW (aL (jj) rfl (by omega) (by omega)) dZ)) rfl rfl)<|.cons (.val [139] rfl rfl (yz (cW (aN rfl ((aA aI jj hjl).trans (by rw[hb]))) dZ)) rfl rfl)<|.cons (.val [136,140] rfl rfl (yz (cW (dR rfl (hhd)) dZ)) rfl rfl)<|.cons (.val [14] rfl rfl (yz (cW (bw rfl) dZ)) rfl rfl)<|.cons (.val [141] rfl rfl (yz (cW (bw rfl) dZ)) rfl rfl)<|.cons (.lh [5,142] rfl rfl rfl rfl (dI rfl) rfl) .nil) (bd (ks:=[2,3,5,6,7,8,9]) rfl) ?_
                case grd2=>kernel_rfl
                refine cZ [0] (.c 2<|.c 3<|.c 5<|.c 6<|.c 7<|.c 8<|.c 9<|.nil) (.kept rfl (.cells aD.pure) .nil) rfl rfl ?_
                refine az (.a 1 rfl<|.v (aS rfl) rfl<|.a 1 rfl<|.k [2,3,5,6,7,8,9] rfl) ?_
                exact⟨3*N - (i+1),by have:=hI.bound;omega,i+1,m,S2,ue,pk,hI3,hue,rfl,rfl⟩
              · obtain⟨jj,hj⟩:∃j:Nat,0=j:=⟨_,rfl⟩
                have hjl:jj<aI.length:=by omega
                obtain⟨b,m,hb,hbl,hbm,hI3⟩:=hnx _ (bX (d:=0) hjl)
                have hhd:=gJ T hv b hbl
                rw[hbm]at hhd
                refine ak<|qw 20 1 ([some (.cells 66 (cX p)),some (.cells 66 (cX pk))]::[some (.cells 66 (cX pk)),some (.cells 66 (cX pk))]::[]) (⟨_,none,0,0⟩::⟨_,none,0,0⟩::⟨_,none,0,0⟩::⟨_,none,0,0⟩::⟨_,none,0,0⟩::⟨_,none,0,0⟩::⟨_,none,0,0⟩::⟨_,none,0,0⟩::⟨_,none,0,0⟩::⟨_,some 0,0,0⟩::[]) _ mixed ?grd3 rfl rfl rfl rfl (.cons (.val [2] rfl rfl (yz (cW (bw rfl) dZ)) rfl rfl)<|.cons (.val [135] rfl rfl (yz (cW (fU rfl (rfl) rfl) dZ)) rfl rfl)<|.cons (.val [13] rfl rfl (yz (cW (bw rfl) dZ)) rfl rfl)<|.cons (.val [16] rfl rfl (yz (cW (bw rfl) dZ)) rfl rfl)<|.cons (.val [137,138] rfl rfl (yz (cW (aL (jj) rfl (by omega) (by omega)) dZ)) rfl rfl)<|.cons (.val [139] rfl rfl (yz (cW (aN rfl ((aA aI jj hjl).trans (by rw[hb]))) dZ)) rfl rfl)<|.cons (.val [136,140] rfl rfl (yz (cW (dR rfl (hhd)) dZ)) rfl rfl)<|.cons (.val [14] rfl rfl (yz (cW (bw rfl) dZ)) rfl rfl)<|.cons (.val [141] rfl rfl (yz (cW (bw rfl) dZ)) rfl rfl)<|.cons (.lh [5,142] rfl rfl rfl rfl (dI rfl) rfl) .nil) (bd (ks:=[2,3,5,6,7,8,9]) rfl) ?_
                case grd3=>kernel_rfl
                refine cZ [0] (.c 2<|.c 3<|.c 5<|.c 6<|.c 7<|.c 8<|.c 9<|.nil) (.kept rfl (.cells aD.pure) .nil) rfl rfl ?_
                refine az (.a 1 rfl<|.v (aS rfl) rfl<|.a 1 rfl<|.k [2,3,5,6,7,8,9] rfl) ?_
                exact⟨3*N - (i+1),by have:=hI.bound;omega,i+1,m,S2,ue,pk,hI3,hue,rfl,rfl⟩
    · have hb:=hI.bound
      have:=ff h1
      exact absurd this (by omega)
theorem rD(c:rQ)(A B:List Nat)(hB:∀b∈B,b<256):Can Tryz.prog 10 [nw c,ov A B] (· =flag true):=by
 obtain⟨T,k,x,S,n,d⟩:=c
 cases h:tS ⟨T,k,x,S,n,d⟩with
 |false=>exact vC _ A B h
 |true=>exact wq T k x S n d A B hB h
end PW
end Go.Proofs.YtnegbdpggideiaaGreatDoor
namespace Go.Proofs.YtnegbdpggideiaaGreatDoor
namespace PW
open Go.RowKit cB Mem Net Go.WideShapes Go.ChangeShapes
theorem BM{P:Program}{w:World}{base:Nat}{t e:TypeId}{n:Nat}{v:Value}(ht:P.underlying t=some (.array n e))(h:Value.okWide P w .any base t v):∃cs,v= .agg cs∧cs.size=P.cellsOf t:=by
 simp only[Value.okWide,ht]at h
 obtain⟨cs,h1,h2,_⟩:=h
 exact⟨cs,h1,h2⟩
section
variable {H:Type} {enc:TypeId×Value→H} {W:World}
theorem vT{n:Nat}{v:Value}{y:DataW H×List MemPlace}(h:DataW.trod enc Tryz.prog W 0 (fun _=>true) true n 26 [v]=some y):∃L:List Nat,(∀b∈L,b<256)∧cD EN W v (.slice L.length (jZ L)):=by
 obtain⟨L,hL⟩:=nY (f:=fun a: {b:Nat // b<256}=>[ye a.1]) (s:=1) Tryz.underlying26 (by kernel_rfl) (by omega) (fun n cs y hy _=>by
  obtain⟨a,rfl,_,hwf⟩:=DataW.trod_int Tryz.underlying5 hy
  have hb:0≤a∧a<256:=by
   simp[Lit.wf,IntKind.min,IntKind.max,IntKind.signed,IntKind.bits]at hwf
   omega
  obtain⟨b,rfl⟩:=Int.eq_ofNat_of_zero_le hb.1
  exact⟨⟨b,by omega⟩,aU.one (.raw _)⟩) h
 refine⟨L.map Subtype.val,fun b hb=>?_,?_⟩
 ·obtain⟨a,_,rfl⟩:=List.mem_map.1 hb
  exact a.2
 ·rw[kR]at hL
  rw[List.length_map,show jZ (L.map Subtype.val)=L.map (fun a=>ye a.1) by unfold jZ;rw[List.map_map];rfl]
  exact hL
end
end PW
end Go.Proofs.YtnegbdpggideiaaGreatDoor
namespace Go.Proofs.YtnegbdpggideiaaGreatDoor
namespace PW
open Go.RowKit cB Mem Net Go.WideShapes
structure J8 where
 A:List Nat
 B:List Nat
 hB:∀b∈B,b<256
section
variable {H:Type} {enc:TypeId×Value→H} {W:World}
theorem BY{base:Nat}{v:Value}{d:DataW H}{p:List MemPlace}(hv:Value.okWide Tryz.prog W .any base 80 v)(h:DataW.Trod enc Tryz.prog W 0 (fun _=>true) true 80 v d p):∃c:J8,cD EN W v (ov c.A c.B):=by
 have hC:Tryz.prog.cellsOf 80=2:=by kernel_rfl
 have hc1:Tryz.prog.cellsOf 26=1:=by kernel_rfl
 obtain⟨cs,rfl,hsz⟩:=BM Tryz.underlying80 hv
 rw[hC]at hsz
 obtain⟨fuel,hf⟩:=h
 obtain⟨cl⟩:=cs
 match cl,hsz with
 | [c0,c1],_=>
  obtain⟨zs,m2,_,_,_,hz,hg⟩:=DataW.trod_array Tryz.underlying80 hf
  match zs,hz with
  | [z0,z1],_=>
   have g0:=hg 0 (by omega)
   have g1:=hg 1 (by omega)
   rw[hc1]at g0 g1
   obtain⟨A,_,hA⟩:=vT (v:=c0) (y:=z0) g0
   obtain⟨B,hB,hB'⟩:=vT (v:=c1) (y:=z1) g1
   have hall:aU EN W [c0,c1] (oW A B):=aU.cons hA<|aU.cons hB'<|aU.nil _ _
   exact⟨⟨A,B,hB⟩,.agg _ _ (by simpa using hall.1) (fun i x u h1 h2=>hall.2 i x u (by simpa using h1) h2)⟩
end
end PW
end Go.Proofs.YtnegbdpggideiaaGreatDoor
namespace Go.Proofs.YtnegbdpggideiaaGreatDoor.mixtureMoving
open Go.ChangeShapes Go.WideShapes Go.ChangeAt Go.RowKit
open cB Mem PW
set_option maxRecDepth 100000 in
theorem lifted(os:Os)(started:os.Started)(H:Type)(enc:TypeId×Value→H):
  ReturnsInHanded {} Tryz.checked os 10 .any (fun w args=>(Rows.mixtureMovingSpec.pre enc Tryz.prog Tryz.f10 [] false w args∧laidMetH Tryz.prog Rows.mixtureMovingRow.laid w)∧sizedMet enc Tryz.prog Tryz.f10 (OpenSpec.ofChange Rows.mixtureMovingSpec) false w args)
   (Rows.mixtureMovingSpec.post enc Tryz.prog Tryz.f10 false true false false):=by
 refine returnsInHanded_of_change_and (C:=Tryz.checked) (X:=fun w _=>laidMetH Tryz.prog Rows.mixtureMovingRow.laid w) (fun _ _ _ hh h=>h.of_heap hh) own started (by kernel_rfl) Tryz.func10
  (ChangeSpec.witness_shaped (enc:=enc) (C:=Tryz.checked) (os:=os) (X:=fun w _=>laidMetH Tryz.prog Rows.mixtureMovingRow.laid w) false (World.doorLaid Tryz.prog 400 os) #[.agg #[.int .i64 0,.slice none 0 0,.slice none 0 0,.int .i64 0,.int .i64 0,.slice none 0 0,.int .i64 0,.int .i64 0],.agg #[.slice none 0 0,.slice none 0 0]] 8 rfl (World.shaped_of_RefB (by kernel_rfl) (by kernel_rfl)) (by kernel_rfl) (by kernel_rfl) (by kernel_rfl) (laidMetH_of_parts3 (fuel:=8) (laidMet_of_run' 8 (by kernel_rfl) (by kernel_rfl)) (by kernel_rfl) (by kernel_rfl))) ?_
 intro W base args ds gs before hval0 hW _ _ hL _
 have hval:∀(j:Nat) t v,Tryz.f10.params[j]? =some t→args[j]? =some v→Value.okWide Tryz.prog W .any base t v:=hval0
 have hW':=hW
 obtain⟨p,q,hA0,hV,rfl,hfz,hnd⟩:=hW
 have hA:DataW.TrodAll enc Tryz.prog W 0 (fun _=>true) true Tryz.f10.params.toList args.toList ds p:=hA0
 rw[Tryz.params10]at hA hval
 obtain⟨v0,vs0,d0,ds0,p0,q0,hargs,rfl,rfl,h0,r0⟩:=trodAll_cons hA
 obtain⟨v1,vs1,d1,ds1,p1,q1,rfl,rfl,rfl,h1,r1⟩:=trodAll_cons r0
 obtain⟨rfl,rfl,rfl⟩:=trodAll_nil r1
 obtain rfl:args= #[v0,v1]:=by cases args;simp_all
 obtain⟨rfl,rfl⟩:=trodVars_none hV
 have lt0:=Hx h0
 obtain⟨c,R0⟩:=HA (hval 0 50 v0 rfl rfl) h0
 have lt1:=Hx h1
 obtain⟨ps,R1⟩:=BY (hval 1 80 v1 rfl rfl) h1
 clear hA0 hval0
 refine((rD c ps.A ps.B ps.hB) (fun _=>False) W #[v0,v1] (fun _ h=>h.elim) (Bf hL) (aU.cons R0 (aU.cons R1 (aU.nil _ _)))).mono fun e W' ⟨x,he,bel,r,hr,hx⟩=>?_
 subst hr
 cases hx
 subst he
 exact⟨_,rfl,_,_,_,[],_,[],hW',trodAll_mk1 (shut_bool Tryz.underlying4 _),(trodAll_cons_mk (Below.trod laidOut (by kernel_rfl) (of_decide_eq_true (by kernel_rfl)) h0 bel lt0) (trodAll_cons_mk (Below.trod laidOut (by kernel_rfl) (of_decide_eq_true (by kernel_rfl)) h1 bel lt1) trodAll_mk0)),rfl,bel.frame _,fun h=>by cases h⟩
set_option maxRecDepth 100000 in
theorem Kb:(Rows.mixtureMovingRow.inPlace==Tryz.prog.inPlace 10)=true:=by kernel_rfl
set_option maxRecDepth 100000 in
theorem Kj:(Rows.mixtureMovingRow.unfollowed==Tryz.prog.unfollowed 10)=true:=by kernel_rfl
set_option maxRecDepth 100000 in
theorem J5:(Rows.mixtureMovingRow.recurses==Tryz.prog.recurses 10)=true:=by kernel_rfl
set_option maxRecDepth 100000 in
theorem Ka:(Rows.mixtureMovingRow.named==Tryz.prog.varsNamed 10)=true:=by kernel_rfl
set_option maxRecDepth 100000 in
theorem closed:joinedFacts Tryz.prog 10 Tryz.f10 Rows.mixtureMovingSpec Rows.mixtureMovingRow=true:=by
 unfold joinedFacts
 rw[Kb,Kj,J5,Ka]
 kernel_rfl
theorem over:Rows.mixtureMovingRow.holds Tryz.pinned (OpenSpec.ofChange Rows.mixtureMovingSpec):=
 OpenClaim.holds_of_wide 10 Tryz.f10 rfl rfl rfl rfl rfl rfl rfl ⟨rfl,rfl,rfl,rfl,rfl⟩ rfl rfl rfl rfl rfl (by kernel_rfl) Tryz.func10 closed
  (of_decide_eq_true (by kernel_rfl)) (by unfold Func.isWrapper;first|(rw[if_pos (by decide+kernel)];kernel_rfl)|(rw[if_neg (by decide+kernel)];exact⟨rfl,rfl⟩))
  (fun os started H enc _=>lifted os started H enc)
theorem proved:Rows.MixtureMovingCardSaid:=
 Claim7.holds_tied_plain_at .later [] [.data,.data,.data] true (true,"3eedc3262a1e22f25a0699067de5cf2e4c3ca5fe316ddc4ea68067e33fe38499") false
  over (fun _ h=>by cases h) (by kernel_rfl) (fun _ h=>by cases h) mixtureMoving_row_tie rfl ⟨rfl,rfl⟩ (by kernel_rfl) rfl
  (fun f fn hf hfn=>by
   obtain rfl:f=10:=Option.some.inj ((show Tryz.prog.funcNamed "waypoint/waypointlaw31.MixtureMoving" =some 10 by kernel_rfl).symm.trans hf) |>.symm
   obtain rfl:fn=Tryz.f10:=(Option.some.inj (Tryz.func10.symm.trans hfn)).symm
   exact⟨by kernel_rfl,fun j t ht=>by
    rw[Tryz.params10]at ht
    have hm:t∈[50,80]:=by simpa using Array.mem_of_getElem? ht
    have hall:([50,80].all fun u=> !Tryz.prog.wantsStandIn u)=true:=by kernel_rfl
    exact(show Tryz.prog.wantsStandIn t=false by simpa using List.all_eq_true.1 hall t hm)⟩)
  (by kernel_rfl)
end Go.Proofs.YtnegbdpggideiaaGreatDoor.mixtureMoving
