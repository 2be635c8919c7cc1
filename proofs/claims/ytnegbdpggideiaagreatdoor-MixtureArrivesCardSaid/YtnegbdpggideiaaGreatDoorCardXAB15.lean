/- Texts of the proof, part 15. -/
import Derived.Test.YtnegbdpggideiaaGreatDoorCardXAB14
set_option linter.unusedVariables false
set_option linter.unusedSimpArgs false
set_option maxRecDepth 10000
set_option maxHeartbeats 1000000
namespace Go.Proofs.YtnegbdpggideiaaGreatDoor
namespace PW
section
open Go.RowKit cE Mem Net eX
noncomputable def KR(T:an)(D:List Bool)(g:Int)(d n:Nat):Bool:= !((decide ((n:Int)≠g)&&decide (0≤dN T [] d n))&&decide (dN T D d n<0))
noncomputable def rj(T:an)(D:List Bool)(g:Int)(d m:Nat):Bool:=(List.range m).all (KR T D g d)
noncomputable def rb(T:an)(D:List Bool)(g d:Int):Bool:=(decide (cD T [] [d]=0)&&decide (cD T D [d]=0))&&rj T D g d.toNat T.nodes.toNat
theorem Cw(T:an)(D:List Bool)(g:Int)(d m:Nat):rj T D g d (m+1)=(rj T D g d m&&KR T D g d m):=by simp[rj,List.range_succ]
theorem Co(T:an)(D:List Bool)(g d:Int):Can Tryz.prog 86 [aN T,bg D,num g,num d] (· =flag (rb T D g d)):=by
 obtain⟨q1,hq1⟩:∃q,decide (cD T [] [d]≠0)=q:=⟨_,rfl⟩
 obtain⟨q2,hq2⟩:∃q,decide (cD T D [d]≠0)=q:=⟨_,rfl⟩
 have hE:rb T D g d=(!(q1||q2)&&rj T D g d.toNat T.nodes.toNat):=by
  unfold rb
  rw[←hq1,←hq2]
  by_cases h1:cD T [] [d]=0<;>by_cases h2:cD T D [d]=0<;>simp[h1,h2]
 have hA:=o7 T [] d
 have hB:=o7 T D d
 unfold ed at hA hB
 rw[hE]
 refine aG Tryz.func86 I Tryz.ntmps86 I<|ab (.a 2 I<|.k [1,2,3,4] I)<|ab (.a 2 I<|.v (wB I (ah.cons ax.pure<|ah.cons ax.bQ<|ah.cons ax.pure ah.nil) (hA)) I<|.a 5 I<|.k [1,2,3,4,9,10] I)<|ab (.a 3 I<|.c rfl (hB) I<|.a 5 I<|.k [2,4,9,10,11,12] I)<|aj<|bz 32 (.raw (.bool (q1||q2))) [2,4,9,11] I ?_ ?_
 ·refine .a 1 I<|.v (cc I (hq1)) I<|.a 1 I<|?_
  cases q1
  ·exact .a 1 I<|.v (cc I (hq2)) I<|.a 1 I<|.k [32,2,4,9,11] I
  ·exact .a 3 I<|.k [32,2,4,9,11] I
 refine ag I (fun h1=>?_) (fun h1=>?_)
 ·rw[h1]
  exact ab (.a 1 I<|.k [8] I)<|ao<|⟨_,_,az.of I,ax.pure,rfl⟩
 ·obtain⟨h2,h3⟩:=Bool.or_eq_false_iff.1 h1
  have e1:cD T [] [d]=0:=by rw[h2]at hq1;simpa using hq1
  have e2:cD T D [d]=0:=by rw[h3]at hq2;simpa using hq2
  obtain⟨hv,hf,hn⟩:=tW e2
  have hdn:=aT.1 (hn d (by simp))
  obtain⟨y,hy⟩:=Int.eq_ofNat_of_zero_le hdn.1
  subst hy
  rw[Int.toNat_natCast]
  have hdl:(y:Int)<T.nodes:=hdn.2
  obtain⟨ha1,_⟩:=dB (D:=[]) hv (dir:=false) hdl
  obtain⟨hb1,_⟩:=dB (D:=D) hv (dir:=false) hdl
  have hNl:=(aO hv).nodes
  obtain⟨N,hNN⟩:∃N:Nat,T.nodes=(N:Int):=⟨T.nodes.toNat,by omega⟩
  have hNt:T.nodes.toNat=N:=by omega
  rw[if_pos e1,if_pos e2,hNt,h1]
  have hst:∀m,rj T D g y (m+1)=(rj T D g y m&& !((decide ((m:Int)≠g)&&decide (0≤(bG T [] y false).getD m 0))&&decide ((bG T D y false).getD m 0<0))):=fun m=>Cw T D g y m
  have hlow:∀m,m<N→rj T D g y (m+1)=false→rj T D g y N=false:=fun m hm h=>mJ h (by omega)
  generalize bG T [] y false=A at*
  generalize bG T D y false=B at*
  refine ai<|aj<|ab (.a 1 I<|.k [2,4,9,11,13] I)<|av<|eR [2,4,9,11,13] I<|bu (fun r s=>∃m,m≤N∧r=N - m∧rj T D g y m=true∧s=⟨[(2,num g),(4,.ba (bC T) 0),(9,aw A),(11,aw B),(13,num m)],[]⟩) N ⟨0,by omega,by omega,rfl,rfl⟩ ?_
  rintro r s ⟨m,hm,rfl,hw,rfl⟩
  refine aj<|ab (.a 2 I<|.v (aJ I ((show some (num T.nodes)=some (num (N:Int)) by rw[hNN]))) I<|.a 1 I<|.k [2,4,9,11,13,36] I)<|ag I (fun h5=>?_) (fun h5=>?_)
  ·have hlt:m<N:=by have:=tt h5;omega
   obtain⟨q3,hq3⟩:∃q,decide ((m:Int)≠g)=q:=⟨_,rfl⟩
   obtain⟨q4,hq4⟩:∃q,decide (0≤A.getD m 0)=q:=⟨_,rfl⟩
   obtain⟨q5,hq5⟩:∃q,decide (B.getD m 0<0)=q:=⟨_,rfl⟩
   have hs:=hst m
   rw[hw,Bool.true_and,hq3,hq4,hq5]at hs
   refine ai<|aj<|av<|bz 55 (.raw (.bool ((q3&&q4)&&q5))) [2,4,9,11,13] I ?_ ?_
   ·refine .a 2 I<|.v (cc I (hq3)) I<|.a 1 I<|?_
    cases q3
    ·exact .a 13 I<|.k [55,2,4,9,11,13] I
    ·refine .a 2 I<|.v (aP (m) I) I<|.v (aJ I (aC A m (by omega))) I<|.v (cc I (hq4)) I<|.a 2 I<|?_
     cases q4
     ·exact .a 6 I<|.k [55,2,4,9,11,13] I
     ·exact .a 2 I<|.v (aP (m) I) I<|.v (aJ I (aC B m (by omega))) I<|.v (cc I (hq5)) I<|.a 1 I<|.k [55,2,4,9,11,13] I
   refine ag I (fun h6=>?_) (fun h6=>?_)
   ·rw[h6]at hs
    exact ab (.a 1 I<|.k [8] I)<|ao<|⟨_,_,az.of I,ax.pure,by rw[hlow m hlt hs];rfl⟩
   ·rw[h6]at hs
    refine ai<|aB (.a 1 I<|.v (aU I) I<|.a 1 I<|.k [2,4,9,11,13] I) ?_
    exact⟨N - (m+1),by omega,m+1,by omega,rfl,hs,rfl⟩
  ·have hme:m=N:=by have:=ff h5;omega
   subst hme
   exact bf<|ab (.a 1 I<|.k [8] I)<|ao<|⟨_,_,az.of I,ax.pure,by rw[hw];rfl⟩
theorem FB{T:an}{D:List Bool}{g:Int}{d:Nat}(h:rb T D g d=true){m:Nat}(hm:(m:Int)<T.nodes)(hg:(m:Int)≠g)(h0:0≤dN T [] d m):0≤dN T D d m:=by
 unfold rb rj at h
 rw[Int.toNat_natCast]at h
 have h2:=List.all_eq_true.1 (Bool.and_eq_true_iff.1 h).2 m (List.mem_range.2 (by omega))
 unfold KR at h2
 simp only[Bool.not_eq_true',Bool.and_eq_false_iff,decide_eq_false_iff_not]at h2
 omega
noncomputable def rm(T:an)(k x:Int):List Bool:=if dY T k x=0 then aI T k x else []
def IF(k x:Int):Int:=if k=2 then x else -1
noncomputable def zS(c:vP):Bool:= !nI c&&(((fS c.T c.k c.x c.S&& !pT c.k c.x c.n)&& !pT c.k c.x c.d)&&gG c.T (rm c.T c.k c.x) c.n c.d)
noncomputable def uN(c:vP):Bool:=(zS c&&uu c.T c.k c.x)&&rb c.T (rm c.T c.k c.x) (IF c.k c.x) c.d
def JG(c:vP):Bool:=ej c.k c.x (fun n=>so (fL c.S n)) c.S.length
theorem sb(T:an)(k x:Int):Can Tryz.prog 32 [aN T,bY k x] (· = .tuple [bg (rm T k x),num (dY T k x)]):=mE T k x
theorem Bp(k x:Int):Can Tryz.prog 87 [bY k x] (· =num (IF k x)):=by
 obtain⟨q1,hq1⟩:∃q,decide (k=2)=q:=⟨_,rfl⟩
 refine aG Tryz.func87 I Tryz.ntmps87 I<|ab (.a 2 I<|.k [1] I)<|aj<|ab (.a 2 I<|.v (cc I (hq1)) I<|.k [1,5] I)<|ag I (fun h1=>?_) (fun h1=>?_)
 ·have h1:k=2:=by rw[h1]at hq1;exact tt hq1
  exact ab (.a 3 I<|.k [2] I)<|ao<|⟨_,_,az.of I,ax.pure,by unfold IF;rw[if_pos h1];rfl⟩
 ·have h1:¬k=2:=by rw[h1]at hq1;exact ff hq1
  exact ai<|ab (.a 1 I<|.k [2] I)<|ao<|⟨_,_,az.of I,ax.pure,by unfold IF;rw[if_neg h1];rfl⟩
theorem wR(c:vP)(hy:nI c=true):Can Tryz.prog 29 [qR c] (· =flag false):=by
 have hla:=pL c
 rw[hy]at hla
 refine aG Tryz.func29 I Tryz.ntmps29 I<|ab (.a 2 I<|.k [1] I)<|aj<|bz 30 (.raw (.bool (true))) [1] I ?_ ?_
 ·exact .a 1 I<|.c rfl (hla) I<|.a 24 I<|.k [30,1] I
 refine ag I (fun hc=>?_) (fun hc=>?_)
 ·exact ab (.a 1 I<|.k [2] I)<|ao<|⟨_,_,az.of I,ax.pure,rfl⟩
 ·cases hc
theorem xR(c:vP)(hy:nI c=false):Can Tryz.prog 29 [qR c] (· =flag (((fS c.T c.k c.x c.S&& !pT c.k c.x c.n)&& !pT c.k c.x c.d)&&gG c.T (rm c.T c.k c.x) c.n c.d)):=by
 obtain⟨s1,s2,s3⟩:=wP hy
 have hla:=pL c
 rw[hy]at hla
 have hpm:=CG c.T c.k c.x c.S (by omega)
 have hg1:=mG c.k c.x c.n
 have hg2:=mG c.k c.x c.d
 obtain⟨q1,hq1⟩:∃q,fS c.T c.k c.x c.S=q:=⟨_,rfl⟩
 obtain⟨q2,hq2⟩:∃q,pT c.k c.x c.n=q:=⟨_,rfl⟩
 obtain⟨q3,hq3⟩:∃q,pT c.k c.x c.d=q:=⟨_,rfl⟩
 rw[hq1]at hpm
 rw[hq2]at hg1
 rw[hq3]at hg2
 rw[hq1,hq2,hq3]
 refine aG Tryz.func29 I Tryz.ntmps29 I<|ab (.a 2 I<|.k [1] I)<|aj<|bz 30 (.raw (.bool ((!q1 ||q2)||q3))) [1] I ?_ ?_
 ·refine .a 1 I<|.c rfl (hla) I<|.a 2 I<|.v (fA I (rfl) I) I<|.a 4 I<|.c rfl (hpm) I<|.a 3 I<|?_
  cases q1
  ·exact .a 13 I<|.k [30,1] I
  ·refine .a 4 I<|.c rfl (hg1) I<|.a 2 I<|?_
   cases q2
   ·exact .a 4 I<|.c rfl (hg2) I<|.a 1 I<|.k [30,1] I
   ·exact .a 6 I<|.k [30,1] I
 refine ag I (fun h1=>?_) (fun h1=>?_)
 ·skip
  exact ab (.a 1 I<|.k [2] I)<|ao<|⟨_,_,az.of I,ax.pure,by cases q1<;>cases q2<;>cases q3<;>first|rfl|cases h1⟩
 ·have h2:((q1&& !q2)&& !q3)=true:=by cases q1<;>cases q2<;>cases q3<;>first|rfl|cases h1
  rw[h2]
  exact ai<|ab (.a 1 I<|.v (fA I (rfl) I) I<|.a 2 I<|.c rfl (sb c.T c.k c.x) I<|.a 5 I<|.k [1,3] I)<|ab (.a 1 I<|.v (fA I (rfl) I) I<|.a 5 I<|.c rfl (nc c.T (rm c.T c.k c.x) c.n c.d) I<|.a 1 I<|.k [2] I)<|ao<|⟨_,_,az.of I,ax.pure,by rw[Bool.true_and];rfl⟩
theorem xI(c:vP):Can Tryz.prog 29 [qR c] (· =flag (zS c)):=by
 unfold zS
 cases hy:nI c with
 |true=>exact wR c hy
 |false=>exact xR c hy
theorem rS(c:vP):Can Tryz.prog 31 [qR c] (· =flag (uN c)):=by
 have hpr:=xI c
 have hcv:=Fv c.T c.k c.x
 have hsf:=Co c.T (rm c.T c.k c.x) (IF c.k c.x) c.d
 unfold uN
 obtain⟨q1,hq1⟩:∃q,zS c=q:=⟨_,rfl⟩
 obtain⟨q2,hq2⟩:∃q,uu c.T c.k c.x=q:=⟨_,rfl⟩
 obtain⟨q3,hq3⟩:∃q,rb c.T (rm c.T c.k c.x) (IF c.k c.x) c.d=q:=⟨_,rfl⟩
 rw[hq1]at hpr
 rw[hq2]at hcv
 rw[hq3]at hsf
 rw[hq1,hq2,hq3]
 refine aG Tryz.func31 I Tryz.ntmps31 I<|ab (.a 2 I<|.k [1] I)<|ab (.a 1 I<|.v (fA I (rfl) I) I<|.a 2 I<|.c rfl (sb c.T c.k c.x) I<|.a 5 I<|.k [1,3] I)<|jk mixed (by kernel_rfl) 2 (.raw (.bool ((q1&&q2)&&q3))) [] I ?_ ?_
 ·refine .a 1 I<|.v [13] (dV I (hpr)) I I<|.a 1 I<|?_
  cases q1
  ·exact .a 18 I<|.k [2] I
  ·refine .a 1 I<|.v [16] (fA I (rfl) I) I I<|.a 2 I<|.v [17,19] (dV I (hcv)) I I<|.a 2 I<|?_
   cases q2
   ·exact .a 11 I<|.k [2] I
   ·exact .a 1 I<|.v [23] (fA I (rfl) I) I I<|.a 3 I<|.v [27] (dV I (Bp c.k c.x)) I I<|.a 2 I<|.v [24,25,28,30] (dV I (hsf)) I I<|.a 2 I<|.k [2] I
 exact ao<|⟨_,_,az.of I,ax.pure,rfl⟩
section
variable {T:an} {tb:Nat→db} {p0:dw} {Φ Ψ:Nat→Nat→List bV→Prop}
end
section
variable {T:an} {k x:Int} {d:Nat} {st:Nat→Int} {p0:dw}
theorem sM.here{late:Bool}{u n:Nat}{s:List bV}(h:sM T k x d st p0 late u n s):¬Gn k x n:=by
 rcases h with⟨h,_⟩|⟨q,_,_,_,h,_⟩
 ·exact h.here
 ·exact h.here
end
structure Jv (T:an) (k x:Int) (S:List Int) (s d:Nat) (late:Bool):Prop where
 FI:T.nodes≤12
 Kv:T.ae.length≤16
 len:(S.length:Int)=T.nodes
 valid:aq T=true
 comp:(aq T&&cd T k x)=true
 Lj:rm T k x=aI T k x
 ok:Ah T k x S=0
 perm:Perm T k x late (fL S)
 src:(s:Int)<T.nodes
 dst:(d:Int)<T.nodes
 reach:gQ T (aI T k x) s d=0
 there:¬Gn k x d
 Lv:Open T k x d s []
theorem DW{T:an}{k x n d:Int}{S:List Int}(h:zS ⟨T,k,x,S,n,d⟩=true):∃s e:Nat,n=(s:Int)∧d=(e:Int)∧Jv T k x S s e (JG ⟨T,k,x,S,n,d⟩):=by
 unfold zS at h
 simp only[Bool.and_eq_true,Bool.not_eq_true']at h
 obtain⟨h1,⟨⟨h2,h3⟩,h4⟩,h5⟩:=h
 obtain⟨s1,s2,_⟩:=wP h1
 obtain⟨hv,hc,hl,_,late,hpm,hla⟩:=F8 h2
 have hvc:(aq T&&cd T k x)=true:=by rw[hv,hc];rfl
 have hm:rm T k x=aI T k x:=by unfold rm dY;rw[if_pos hvc,if_pos rfl]
 rw[hm]at h5
 have h5:=tt h5
 obtain⟨a,b,rfl,rfl,ha,hb,_⟩:=mj h5
 have h6:=h5
 rw[kf hv (dx T k x) ha hb]at h6
 refine⟨a,b,rfl,rfl,⟨s1,s2,hl,hv,hvc,hm,?_,?_,ha,hb,h5,ni.1 h4,⟨rfl,ha,ni.1 h3,?_⟩⟩⟩
 ·unfold Ah
  rw[hvc,decide_eq_true hl];simp[h2]
 ·rw[hla]at hpm;exact hpm
 ·split at h6
  ·cases h6
  ·omega
theorem DJ{T:an}{k x n:Int}{S:List Int}{d:Nat}(h:uN ⟨T,k,x,S,n,(d:Int)⟩=true)(hm:rm T k x=aI T k x):uu T k x=true∧∀m:Nat,(m:Int)<T.nodes→¬Gn k x m→0≤dN T [] d m→0≤dN T (aI T k x) d m:=by
 unfold uN at h
 simp only[Bool.and_eq_true]at h
 obtain⟨⟨_,h2⟩,h3⟩:=h
 rw[hm]at h3
 refine⟨h2,fun m hml hg h0=>FB h3 hml (fun e=>hg ?_) h0⟩
 unfold IF at e
 split at e
 ·rename_i hk
  exact⟨hk,e.symm⟩
 ·omega
theorem Gt{c:vP}(h:uN c=true):zS c=true:=by
 unfold uN at h
 simp only[Bool.and_eq_true]at h
 exact h.1.1
def wW(O:Out):List bV:=if O.cW=0 then O.eu.stack else []
def rD(O:Out):PV:=.tuple [aw O.ay,ca (wW O),num O.cW]
theorem fQ(p:dw)(c:Int)(h:c≠0):rD (eo p c)= .tuple [aw [],ca [],num c]:=by
 unfold rD wW eo
 rw[if_neg h]
theorem kJ(p:dw)(s:List bV)(l:List Int):rD (cr p s l)= .tuple [aw l,ca s,num 0]:=rfl
set_option maxHeartbeats 2000000 in
theorem tS(T:an)(x:db)(p:dw)(s:List bV)(K:Out)(hx:cQ T x=true)(hs:s.length≤40)(hK:0<s.length→Can Tryz.prog 194 [aN T,fr x,dv p,ca []] (· =rD K)):
    Can Tryz.prog 194 [aN T,fr x,dv p,ca s] (· =rD (dr T x p s K)):=by
  have hv:aq T=true:=by unfold cQ at hx;simp only[Bool.and_eq_true]at hx;exact hx.1.1.1.1
  obtain⟨n,hn⟩:∃n,x.node=n:=⟨_,rfl⟩
  have hn0:0≤n:=by unfold cQ at hx;simp only[Bool.and_eq_true]at hx;have:=(aT.1 hx.1.1.1.2).1;omega
  obtain⟨R,hRR⟩:∃R,dr T x p s K=R:=⟨_,rfl⟩
  rw[hRR]
  unfold dr at hRR
  obtain⟨c5,hc5⟩:∃q,decide ((s.length:Int)=0)=q:=⟨_,rfl⟩
  obtain⟨c6,hc6⟩:∃q,decide (p.dst=n)=q:=⟨_,rfl⟩
  obtain⟨c7,hc7⟩:∃q,decide (255≤p.dA)=q:=⟨_,rfl⟩
  obtain⟨c8,hc8⟩:∃q,decide (p.dA<0)=q:=⟨_,rfl⟩
  rw[hc5,hn,hc6,hc7,hc8]at hRR
  refine aG Tryz.func194 I Tryz.ntmps194 I<|ab (.a 6 I<|.k [3,4,5,6] I)<|aj<|bz 24 (.raw (.bool (c5&&c6))) [3,4,5,6] I ?_ ?_
  · refine .a 2 I<|.v (cc I (hc5)) I<|.a 1 I<|?_
    cases c5
    · exact .a 6 I<|.k [24,3,4,5,6] I
    · exact .a 1 I<|.v (aJ I ((rfl:(cH p)[2]? =some (num p.dst)))) I<|.a 1 I<|.v (aJ I ((show(eK x)[0]? =some (num n) by rw[←hn];rfl))) I<|.v (cc I (hc6)) I<|.a 1 I<|.k [24,3,4,5,6] I
  refine ag I (fun h1=>?_) (fun h1=>?_)
  · rw[if_pos h1]at hRR
    subst hRR
    exact ab (.a 3 I<|.k [8,9,10] I)<|ao<|⟨_,_,az.of I,ax.aX (ah.cons ax.bQ<|ah.cons ax.bQ<|ah.cons ax.pure ah.nil),rfl⟩
  · rw [if_neg (by rw [h1]; simp)] at hRR
    refine ai<|aj<|bz 32 (.raw (.bool (c8||c7))) [3,4,5,6] I ?_ ?_
    · refine .a 1 I<|.v (aJ I ((rfl:(cH p)[5]? =some (num p.dA)))) I<|.v (cc I (hc8)) I<|.a 1 I<|?_
      cases c8
      · exact .a 1 I<|.v (aJ I ((rfl:(cH p)[5]? =some (num p.dA)))) I<|.v (cc I (hc7)) I<|.a 1 I<|.k [32,3,4,5,6] I
      · exact .a 4 I<|.k [32,3,4,5,6] I
    refine ag I (fun h2=>?_) (fun h2=>?_)
    · rw[if_pos (by rw[Bool.or_comm];exact h2)]at hRR
      subst hRR
      rw[fQ _ _ (by decide)]
      exact ab (.a 3 I<|.k [8,9,10] I)<|ao<|⟨_,_,az.of I,ax.aX (ah.cons ax.bQ<|ah.cons ax.bQ<|ah.cons ax.pure ah.nil),rfl⟩
    · rw [if_neg (by rw [Bool.or_comm, h2]; simp)] at hRR
      clear hc5 hc6 hc7 hc8 h1 h2
      refine ai ?_
      obtain⟨v,hv0⟩:∃v,p.dst=v:=⟨_,rfl⟩
      refine ab (.a 1 I<|.v (aJ I ((show(cH p)[2]? =some (num v) by rw[←hv0];rfl))) I<|.a 1 I<|.k [3,4,5,6,11] I)<|aj<|ab (.a 3 I<|.k [3,4,5,6,11,37] I)<|ag I (fun h3=>?_) (fun h3=>?_)
      · have hne:0<s.length:=by have:=tt h3;omega
        obtain⟨a,l,hs'⟩:∃a l,s=a::l:=by
          cases s with
          |nil=>exact absurd hne (by simp)
          |cons a l=>exact⟨a,l,rfl⟩
        have h0:s[0]? =some a:=by rw[hs'];rfl
        rw[hs']at hRR
        dsimp only at hRR
        rw[←hs']at hRR
        clear hv0
        obtain⟨v,hv0⟩:∃v,a.num=v:=⟨_,rfl⟩
        obtain⟨kd,hkd⟩:∃v,a.kind=v:=⟨_,rfl⟩
        rw[hv0,hkd]at hRR
        refine aM<|au 1 I<|bx (aP (0) I (by omega) (by omega)) I<|bx (fA I (gu s 0 a h0) I) I<|au 2 I<|aE [3,4,5,6,12] I ?_
        rw[hv0,hkd]
        refine ab (.a 2 I<|.k [3,4,5,6,12,42] I)<|av<|ab (.a 2 I<|.k [3,4,5,6,12,42,43] I)<|ag I (fun h4=>?_) (fun h4=>?_)
        · rw[if_neg (by have:=tt h4;omega),if_pos (tt h4)]at hRR
          refine aj<|ep mixed (by kernel_rfl) (.a 3 I<|.v [45,47] (dV I (mn T hv v)) I I<|.a 1 I<|.v [49] (aJ I ((show(eK x)[0]? =some (num n) by rw[←hn];rfl))) I I<|.a 1 I<|.k [3,4,5,6,12,51] I) ?_
          refine ag I (fun h6=>?_) (fun h6=>?_)
          · have h6':(!(eM T v)||decide (bn T v.toNat≠n))=true:=by
              cases hb:eM T v with
              |false=>rfl
              |true=>
                have h7:=tt h6
                obtain⟨b1,b2⟩:=cR.1 hb
                unfold mW at h7
                rw[if_pos ⟨b1,b2⟩]at h7
                simp[h7]
            rw[if_pos h6']at hRR
            subst hRR
            rw[fQ _ _ (by decide)]
            exact ab (.a 3 I<|.k [8,9,10] I)<|ao<|⟨_,_,az.of I,ax.aX (ah.cons ax.bQ<|ah.cons ax.bQ<|ah.cons ax.pure ah.nil),rfl⟩
          · have h6':(!(eM T v)||decide (bn T v.toNat≠n))=false:=by
              have h7:=ff h6
              unfold mW at h7
              by_cases hb:0≤v∧v<2*(T.ae.length:Int)
              · rw[if_pos hb]at h7
                rw[cR.2 hb]
                simp[Decidable.not_not.1 h7]
              · rw[if_neg hb]at h7
                omega
            rw[if_neg (by rw[h6'];simp)]at hRR
            refine ai<|aj<|ab (.a 1 I<|.v (aJ I ((rfl:(eK x)[2]? =some (aw x.down)))) I<|.a 2 I<|.c rfl (G4 x.down v (by have:=rn hx;omega)) I<|.k [3,4,5,6,12,56] I)<|ag I (fun h7=>?_) (fun h7=>?_)
            · rw[if_pos (tt h7)]at hRR
              subst hRR
              exact ab (.a 3 I<|.v (wB I (ah.cons ax.pure<|ah.cons ax.pure<|ah.cons ax.pure<|ah.cons ax.bQ ah.nil) (hK hne)) I<|.a 6 I<|.k [8,9,10] I)<|ao<|⟨_,_,az.of I,ax.aX (ah.cons (ax.pure (p:=aw K.ay))<|ah.cons (ax.pure (p:=ca (wW K)))<|ah.cons ax.pure ah.nil),rfl⟩
            · rw[if_neg (ff h7)]at hRR
              subst hRR
              subst hs'
              refine ai<|ep mixed (by kernel_rfl) (.a 4 I<|.v [67] (gw I (aZ.el.get I) I I) I I<|.a 3 I<|.k [8,9,10] I) ?_
              exact ao<|⟨_,_,az.of I,ax.aX (ah.cons (ax.pure (p:=aw [v]))<|ah.cons (ax.pure (p:=ca l))<|ah.cons ax.pure ah.nil),rfl⟩
        · have hk2:=ff h4
          refine ab (.a 2 I<|.k [3,4,5,6,12,69] I)<|ag I (fun h8=>?_) (fun h8=>?_)
          · rw[if_pos (tt h8)]at hRR
            obtain⟨K1,hK1,hK1n,hK1p⟩:∃K1,K1=K∧(s.length=0→K1=eo p 1)∧(0<s.length→K1=K):=⟨_,rfl,fun h=>absurd h (by omega),fun h=>rfl⟩
            rw[←hK1]at hRR
            clear hK1 h3 h4 h8 hs' hv0 h0 hk2
            refine aB (.a 3 I<|.k [3,4,5,6,11] I) ?_
            refine aj ?_
            unfold CX at hRR
            obtain⟨q1,hq1⟩:∃q,decide (v<0)=q:=⟨_,rfl⟩
            obtain⟨q2,hq2⟩:∃q,decide (T.nodes≤v)=q:=⟨_,rfl⟩
            have hnb:br T v=(!(q1||q2)):=by
              rw[←hq1,←hq2]
              cases hb:br T v with
              |true=>have:=aT.1 hb;simp;omega
              |false=>
                have h9:¬(0≤v∧v<T.nodes):=fun h=>by rw[aT.2 h]at hb;cases hb
                simp;omega
            have hes:q1=false→q2=false→x.di[v.toNat]? =some (da x v)∧(da x v).push.length≤40∧(da x v).ay.length≤1000∧v<(x.di.length:Int)∧0≤v:=fun h h'=>by
              obtain⟨k,rfl,g1,g2,g3⟩:=ko hx (hnb.trans (by rw[h,h'];rfl))
              have:=(List.getElem?_eq_some_iff.1 g1).1
              exact⟨g1,g2,g3,by omega,by omega⟩
            obtain⟨e,he⟩:∃e,da x v=e:=⟨_,rfl⟩
            obtain⟨IJ,hc12⟩:∃q,decide ((e.ay.length:Int)=0)=q:=⟨_,rfl⟩
            rw[he]at hes hRR
            refine bz 90 (.raw (.bool ((q1||q2)||IJ))) [3,4,5,6,11] I ?_ ?_
            · refine .a 1 I<|.v (cc I (hq1)) I<|.a 1 I<|?_
              cases q1
              · refine .a 3 I<|.v (cc I (hq2)) I<|.a 2 I<|?_
                cases q2
                · exact .a 1 I<|.v (aJ I ((rfl:(eK x)[1]? =some (iD x.di)))) I<|.a 1 I<|.v (aP ((v.toNat*3)) I (hes rfl rfl).2.2.2.2 (hes rfl rfl).2.2.2.1) I<|.a 1 I<|.v (aJ I ((oq x.di v.toNat 0 e (hes rfl rfl).1 (by omega)))) I<|.a 1 I<|.v (cc I (hc12)) I<|.a 1 I<|.k [90,3,4,5,6,11] I
                · exact .a 9 I<|.k [90,3,4,5,6,11] I
              · exact .a 15 I<|.k [90,3,4,5,6,11] I
            refine ag I (fun h9=>?_) (fun h9=>?_)
            · rw[if_neg (by rw[hnb];intro h;obtain⟨g1,g2⟩:=Bool.and_eq_true_iff.1 h;have g2:=tt g2;rw[decide_eq_false (by omega)]at hc12;subst hc12;revert h9 g1;cases q1<;>cases q2<;>simp)]at hRR
              refine aj<|ab (.a 3 I<|.k [4,5,6,93] I)<|ag I (fun h11=>?_) (fun h11=>?_)
              · have hne:0<s.length:=by have:=tt h11;omega
                rw[hK1p hne]at hRR
                subst hRR
                exact ab (.a 3 I<|.v (wB I (ah.cons ax.pure<|ah.cons ax.pure<|ah.cons ax.pure<|ah.cons ax.bQ ah.nil) (hK hne)) I<|.a 6 I<|.k [8,9,10] I)<|ao<|⟨_,_,az.of I,ax.aX (ah.cons (ax.pure (p:=aw K.ay))<|ah.cons (ax.pure (p:=ca (wW K)))<|ah.cons ax.pure ah.nil),rfl⟩
              · rw[hK1n (by have:=ff h11;omega)]at hRR
                subst hRR
                rw[fQ _ _ (by decide)]
                exact ai<|ab (.a 3 I<|.k [8,9,10] I)<|ao<|⟨_,_,az.of I,ax.aX (ah.cons ax.bQ<|ah.cons ax.bQ<|ah.cons ax.pure ah.nil),rfl⟩
            · obtain⟨h9,h10⟩:=Bool.or_eq_false_iff.1 h9
              obtain⟨rfl,rfl⟩:=Bool.or_eq_false_iff.1 h9
              subst h10
              rw[hnb,if_pos (by have:=ff hc12;simp;omega)]at hRR
              obtain⟨g1,g2,g3,g4,g5⟩:=hes rfl rfl
              subst hRR
              obtain⟨c,hc⟩:∃q,e.rep=q:=⟨_,rfl⟩
              have hE:fq p s e=if c then(if 32<(e.push++s.drop 1).length then eo p 5 else cr p (e.push++s.drop 1) e.ay) else cr p s e.ay:=by unfold fq;rw[hc]
              rw[hE]
              refine ai<|aM<|au 1 I<|bx (aJ I ((rfl:(eK x)[1]? =some (iD x.di)))) I<|au 1 I<|bx (aP ((v.toNat*3)) I g5 g4) I<|bx (fA I ((i7 x.di v.toNat e g1)) I) I<|au 2 I<|aE [3,13] I ?_
              refine aj<|ab (.a 1 I<|.v (aJ I ((show(gA e)[1]? =some (flag c) by rw[←hc];rfl))) I<|.a 1 I<|.k [3,13,108] I)<|ag I (fun h12=>?_) (fun h12=>?_)
              · obtain rfl:c=false:=by simpa using h12
                rw[if_neg (by simp)]
                refine aM<|b9 (cT I (aZ.sl.get I)) I<|au 1 I<|bx (aJ I ((rfl:(gA e)[0]? =some (aw e.ay)))) I<|b9 (bp I (aZ.rk.get I) I I I (show(aL e.ay).length=e.ay.length*1 by simp[aL]) ⟨by unfold maxLen;omega,by omega⟩) I<|au 4 I<|aE [8,9,10] I ?_
                exact ao<|⟨_,_,az.of I,ax.aX (ah.cons (ax.sQ (ys:=aL e.ay) (m:=e.ay.length) I (by simp) (by simp))<|ah.cons (ax.pure (p:=ca s))<|ah.cons ax.pure ah.nil),rfl⟩
              · obtain rfl:c=true:=by simpa using h12
                rw[if_pos rfl]
                refine ai<|aM<|b9 (cT I (aZ.sl.get I)) I<|au 1 I<|bx (aJ I ((rfl:(gA e)[2]? =some (ca e.push)))) I<|b9 (bp I (aZ.rk.get I) I I I (fP e.push) ⟨by unfold maxLen;omega,by omega⟩) I<|au 1 I<|aE [3,13,14] I ?_
                refine aj<|ab (.a 3 I<|.k [3,13,14,120] I)<|ag I (fun h13=>?_) (fun h13=>?_)
                · obtain⟨a,l,rfl⟩:∃a l,s=a::l:=by
                    cases s with
                    |nil=>exact absurd (tt h13) (by simp)
                    |cons a l=>exact⟨a,l,rfl⟩
                  refine bH<|au 2 I<|bx (gw I (aZ.el.get I) I I) I<|b9 (bp I (aZ.rk.get I) I I I (fP l) ⟨by simp at hs;unfold maxLen;omega,by simp at hs;omega⟩) I<|au 1 I<|aE [13,14] I ?_
                  refine aj<|ab (.a 3 I<|.k [13,14,127] I)<|ag I (fun h14=>?_) (fun h14=>?_)
                  · rw[if_pos (by have h14:=tt h14;simp at h14 ⊢;omega),fQ _ _ (by decide)]
                    exact ab (.a 3 I<|.k [8,9,10] I)<|ao<|⟨_,_,az.of I,ax.aX (ah.cons ax.bQ<|ah.cons ax.bQ<|ah.cons ax.pure ah.nil),rfl⟩
                  · rw[if_neg (by have h14:=ff h14;simp at h14 ⊢;omega),kJ]
                    have h14:=ff h14
                    refine ai<|aM<|b9 (cT I (aZ.sl.get I)) I<|au 1 I<|bx (aJ I ((rfl:(gA e)[0]? =some (aw e.ay)))) I<|b9 (bp I (aZ.rk.get I) I I I (show(aL e.ay).length=e.ay.length*1 by simp[aL]) ⟨by unfold maxLen;omega,by omega⟩) I<|au 4 I<|aE [8,9,10] I ?_
                    exact ao<|⟨_,_,az.of I,ax.aX (ah.cons (ax.sQ (ys:=aL e.ay) (m:=e.ay.length) I (by simp) (by simp))<|ah.cons (ax.sQ (ys:=dP (e.push++List.drop 1 _)) (m:=(e.push++List.drop 1 _).length) I (by simp[dP]) (by simp))<|ah.cons ax.pure ah.nil),rfl⟩
                · obtain rfl:s=[]:=by
                    cases s with
                    |nil=>rfl
                    |cons a l=>exact absurd (ff h13) (by simp)
                  refine ai<|aj<|ab (.a 3 I<|.k [13,14,127] I)<|ag I (fun h14=>?_) (fun h14=>?_)
                  · rw[if_pos (by have h14:=tt h14;simp at h14 ⊢;omega),fQ _ _ (by decide)]
                    exact ab (.a 3 I<|.k [8,9,10] I)<|ao<|⟨_,_,az.of I,ax.aX (ah.cons ax.bQ<|ah.cons ax.bQ<|ah.cons ax.pure ah.nil),rfl⟩
                  · rw[if_neg (by have h14:=ff h14;simp at h14 ⊢;omega),kJ]
                    have h14:=ff h14
                    refine ai<|aM<|b9 (cT I (aZ.sl.get I)) I<|au 1 I<|bx (aJ I ((rfl:(gA e)[0]? =some (aw e.ay)))) I<|b9 (bp I (aZ.rk.get I) I I I (show(aL e.ay).length=e.ay.length*1 by simp[aL]) ⟨by unfold maxLen;omega,by omega⟩) I<|au 4 I<|aE [8,9,10] I ?_
                    exact ao<|⟨_,_,az.of I,ax.aX (ah.cons (ax.sQ (ys:=aL e.ay) (m:=e.ay.length) I (by simp) (by simp))<|ah.cons (ax.sQ (ys:=dP (e.push++List.drop 1 _)) (m:=(e.push++List.drop 1 _).length) I (by simp[dP]) (by simp))<|ah.cons ax.pure ah.nil),rfl⟩
          · rw[if_neg (ff h8),if_neg hk2]at hRR
            subst hRR
            rw[fQ _ _ (by decide)]
            exact ab (.a 3 I<|.k [8,9,10] I)<|ao<|⟨_,_,az.of I,ax.aX (ah.cons ax.bQ<|ah.cons ax.bQ<|ah.cons ax.pure ah.nil),rfl⟩
      · have hs':s=[]:=by
          cases s with
          |nil=>rfl
          |cons a l=>exact absurd (ff h3) (by simp)
        rw[hs']at hRR
        dsimp only at hRR
        rw[←hs',hv0]at hRR
        obtain⟨K1,hK1,hK1n,hK1p⟩:∃K1,K1=eo p 1∧(s.length=0→K1=eo p 1)∧(0<s.length→K1=K):=⟨_,rfl,fun _=>rfl,fun h=>absurd h (by rw[hs'];simp)⟩
        rw[←hK1]at hRR
        clear hK1 h3 hs' hv0
        refine ai<|aj ?_
        unfold CX at hRR
        obtain⟨q1,hq1⟩:∃q,decide (v<0)=q:=⟨_,rfl⟩
        obtain⟨q2,hq2⟩:∃q,decide (T.nodes≤v)=q:=⟨_,rfl⟩
        have hnb:br T v=(!(q1||q2)):=by
          rw[←hq1,←hq2]
          cases hb:br T v with
          |true=>have:=aT.1 hb;simp;omega
          |false=>
            have h9:¬(0≤v∧v<T.nodes):=fun h=>by rw[aT.2 h]at hb;cases hb
            simp;omega
        have hes:q1=false→q2=false→x.di[v.toNat]? =some (da x v)∧(da x v).push.length≤40∧(da x v).ay.length≤1000∧v<(x.di.length:Int)∧0≤v:=fun h h'=>by
          obtain⟨k,rfl,g1,g2,g3⟩:=ko hx (hnb.trans (by rw[h,h'];rfl))
          have:=(List.getElem?_eq_some_iff.1 g1).1
          exact⟨g1,g2,g3,by omega,by omega⟩
        obtain⟨e,he⟩:∃e,da x v=e:=⟨_,rfl⟩
        obtain⟨IJ,hc12⟩:∃q,decide ((e.ay.length:Int)=0)=q:=⟨_,rfl⟩
        rw[he]at hes hRR
        refine bz 90 (.raw (.bool ((q1||q2)||IJ))) [3,4,5,6,11] I ?_ ?_
        · refine .a 1 I<|.v (cc I (hq1)) I<|.a 1 I<|?_
          cases q1
          · refine .a 3 I<|.v (cc I (hq2)) I<|.a 2 I<|?_
            cases q2
            · exact .a 1 I<|.v (aJ I ((rfl:(eK x)[1]? =some (iD x.di)))) I<|.a 1 I<|.v (aP ((v.toNat*3)) I (hes rfl rfl).2.2.2.2 (hes rfl rfl).2.2.2.1) I<|.a 1 I<|.v (aJ I ((oq x.di v.toNat 0 e (hes rfl rfl).1 (by omega)))) I<|.a 1 I<|.v (cc I (hc12)) I<|.a 1 I<|.k [90,3,4,5,6,11] I
            · exact .a 9 I<|.k [90,3,4,5,6,11] I
          · exact .a 15 I<|.k [90,3,4,5,6,11] I
        refine ag I (fun h9=>?_) (fun h9=>?_)
        · rw[if_neg (by rw[hnb];intro h;obtain⟨g1,g2⟩:=Bool.and_eq_true_iff.1 h;have g2:=tt g2;rw[decide_eq_false (by omega)]at hc12;subst hc12;revert h9 g1;cases q1<;>cases q2<;>simp)]at hRR
          refine aj<|ab (.a 3 I<|.k [4,5,6,93] I)<|ag I (fun h11=>?_) (fun h11=>?_)
          · have hne:0<s.length:=by have:=tt h11;omega
            rw[hK1p hne]at hRR
            subst hRR
            exact ab (.a 3 I<|.v (wB I (ah.cons ax.pure<|ah.cons ax.pure<|ah.cons ax.pure<|ah.cons ax.bQ ah.nil) (hK hne)) I<|.a 6 I<|.k [8,9,10] I)<|ao<|⟨_,_,az.of I,ax.aX (ah.cons (ax.pure (p:=aw K.ay))<|ah.cons (ax.pure (p:=ca (wW K)))<|ah.cons ax.pure ah.nil),rfl⟩
          · rw[hK1n (by have:=ff h11;omega)]at hRR
            subst hRR
            rw[fQ _ _ (by decide)]
            exact ai<|ab (.a 3 I<|.k [8,9,10] I)<|ao<|⟨_,_,az.of I,ax.aX (ah.cons ax.bQ<|ah.cons ax.bQ<|ah.cons ax.pure ah.nil),rfl⟩
        · obtain⟨h9,h10⟩:=Bool.or_eq_false_iff.1 h9
          obtain⟨rfl,rfl⟩:=Bool.or_eq_false_iff.1 h9
          subst h10
          rw[hnb,if_pos (by have:=ff hc12;simp;omega)]at hRR
          obtain⟨g1,g2,g3,g4,g5⟩:=hes rfl rfl
          subst hRR
          obtain⟨c,hc⟩:∃q,e.rep=q:=⟨_,rfl⟩
          have hE:fq p s e=if c then(if 32<(e.push++s.drop 1).length then eo p 5 else cr p (e.push++s.drop 1) e.ay) else cr p s e.ay:=by unfold fq;rw[hc]
          rw[hE]
          refine ai<|aM<|au 1 I<|bx (aJ I ((rfl:(eK x)[1]? =some (iD x.di)))) I<|au 1 I<|bx (aP ((v.toNat*3)) I g5 g4) I<|bx (fA I ((i7 x.di v.toNat e g1)) I) I<|au 2 I<|aE [3,13] I ?_
          refine aj<|ab (.a 1 I<|.v (aJ I ((show(gA e)[1]? =some (flag c) by rw[←hc];rfl))) I<|.a 1 I<|.k [3,13,108] I)<|ag I (fun h12=>?_) (fun h12=>?_)
          · obtain rfl:c=false:=by simpa using h12
            rw[if_neg (by simp)]
            refine aM<|b9 (cT I (aZ.sl.get I)) I<|au 1 I<|bx (aJ I ((rfl:(gA e)[0]? =some (aw e.ay)))) I<|b9 (bp I (aZ.rk.get I) I I I (show(aL e.ay).length=e.ay.length*1 by simp[aL]) ⟨by unfold maxLen;omega,by omega⟩) I<|au 4 I<|aE [8,9,10] I ?_
            exact ao<|⟨_,_,az.of I,ax.aX (ah.cons (ax.sQ (ys:=aL e.ay) (m:=e.ay.length) I (by simp) (by simp))<|ah.cons (ax.pure (p:=ca s))<|ah.cons ax.pure ah.nil),rfl⟩
          · obtain rfl:c=true:=by simpa using h12
            rw[if_pos rfl]
            refine ai<|aM<|b9 (cT I (aZ.sl.get I)) I<|au 1 I<|bx (aJ I ((rfl:(gA e)[2]? =some (ca e.push)))) I<|b9 (bp I (aZ.rk.get I) I I I (fP e.push) ⟨by unfold maxLen;omega,by omega⟩) I<|au 1 I<|aE [3,13,14] I ?_
            refine aj<|ab (.a 3 I<|.k [3,13,14,120] I)<|ag I (fun h13=>?_) (fun h13=>?_)
            · obtain⟨a,l,rfl⟩:∃a l,s=a::l:=by
                cases s with
                |nil=>exact absurd (tt h13) (by simp)
                |cons a l=>exact⟨a,l,rfl⟩
              refine bH<|au 2 I<|bx (gw I (aZ.el.get I) I I) I<|b9 (bp I (aZ.rk.get I) I I I (fP l) ⟨by simp at hs;unfold maxLen;omega,by simp at hs;omega⟩) I<|au 1 I<|aE [13,14] I ?_
              refine aj<|ab (.a 3 I<|.k [13,14,127] I)<|ag I (fun h14=>?_) (fun h14=>?_)
              · rw[if_pos (by have h14:=tt h14;simp at h14 ⊢;omega),fQ _ _ (by decide)]
                exact ab (.a 3 I<|.k [8,9,10] I)<|ao<|⟨_,_,az.of I,ax.aX (ah.cons ax.bQ<|ah.cons ax.bQ<|ah.cons ax.pure ah.nil),rfl⟩
              · rw[if_neg (by have h14:=ff h14;simp at h14 ⊢;omega),kJ]
                have h14:=ff h14
                refine ai<|aM<|b9 (cT I (aZ.sl.get I)) I<|au 1 I<|bx (aJ I ((rfl:(gA e)[0]? =some (aw e.ay)))) I<|b9 (bp I (aZ.rk.get I) I I I (show(aL e.ay).length=e.ay.length*1 by simp[aL]) ⟨by unfold maxLen;omega,by omega⟩) I<|au 4 I<|aE [8,9,10] I ?_
                exact ao<|⟨_,_,az.of I,ax.aX (ah.cons (ax.sQ (ys:=aL e.ay) (m:=e.ay.length) I (by simp) (by simp))<|ah.cons (ax.sQ (ys:=dP (e.push++List.drop 1 _)) (m:=(e.push++List.drop 1 _).length) I (by simp[dP]) (by simp))<|ah.cons ax.pure ah.nil),rfl⟩
            · obtain rfl:s=[]:=by
                cases s with
                |nil=>rfl
                |cons a l=>exact absurd (ff h13) (by simp)
              refine ai<|aj<|ab (.a 3 I<|.k [13,14,127] I)<|ag I (fun h14=>?_) (fun h14=>?_)
              · rw[if_pos (by have h14:=tt h14;simp at h14 ⊢;omega),fQ _ _ (by decide)]
                exact ab (.a 3 I<|.k [8,9,10] I)<|ao<|⟨_,_,az.of I,ax.aX (ah.cons ax.bQ<|ah.cons ax.bQ<|ah.cons ax.pure ah.nil),rfl⟩
              · rw[if_neg (by have h14:=ff h14;simp at h14 ⊢;omega),kJ]
                have h14:=ff h14
                refine ai<|aM<|b9 (cT I (aZ.sl.get I)) I<|au 1 I<|bx (aJ I ((rfl:(gA e)[0]? =some (aw e.ay)))) I<|b9 (bp I (aZ.rk.get I) I I I (show(aL e.ay).length=e.ay.length*1 by simp[aL]) ⟨by unfold maxLen;omega,by omega⟩) I<|au 4 I<|aE [8,9,10] I ?_
                exact ao<|⟨_,_,az.of I,ax.aX (ah.cons (ax.sQ (ys:=aL e.ay) (m:=e.ay.length) I (by simp) (by simp))<|ah.cons (ax.sQ (ys:=dP (e.push++List.drop 1 _)) (m:=(e.push++List.drop 1 _).length) I (by simp[dP]) (by simp))<|ah.cons ax.pure ah.nil),rfl⟩
theorem Bg(T:an)(x:db)(p:dw)(hx:cQ T x=true):Can Tryz.prog 194 [aN T,fr x,dv p,ca []] (· =rD (dr T x p [] (eo p 1))):=
 tS T x p [] (eo p 1) hx (by simp) (fun h=>absurd h (by simp))
theorem BY(T:an)(x:db)(p:dw)(s:List bV)(hx:cQ T x=true)(hs:s.length≤40):Can Tryz.prog 194 [aN T,fr x,dv p,ca s] (· =rD (dr T x p s (dr T x p [] (eo p 1)))):=
 tS T x p s _ hx hs (fun _=>Bg T x p hx)
def II(p:dw)(O:Out):Prop:=O=⟨[],⟨p.id,p.src,p.dst,p.j9,[],p.dA⟩, -1⟩∨(∃s l,O=cr p s l∧0≤p.dA∧p.dA<255)∨∃c,O=eo p c∧c≠0∧c≠ -1
theorem Bu{p:dw}{s:List bV}{e:iV}(h:0≤p.dA∧p.dA<255):II p (fq p s e):=by
 unfold fq
 split
 ·split
  ·exact .inr (.inr ⟨5,rfl,by decide,by decide⟩)
  ·exact .inr (.inl ⟨_,_,rfl,h⟩)
 ·exact .inr (.inl ⟨_,_,rfl,h⟩)
theorem C0{T:an}{x:db}{p:dw}{s:List bV}{v:Int}{K:Out}(h:0≤p.dA∧p.dA<255)(hK:II p K):II p (CX T x p s v K):=by
 unfold CX
 split
 ·exact Bu h
 ·exact hK
theorem tN{T:an}{x:db}{p:dw}{s:List bV}{K:Out}(hK:II p K):II p (dr T x p s K):=by
 have d1:∀c:Int,c≠0→c≠ -1→II p (eo p c):=fun c h1 h2=>.inr (.inr ⟨c,rfl,h1,h2⟩)
 unfold dr
 split
 ·exact .inl rfl
 ·split
  ·exact d1 4 (by decide) (by decide)
  ·rename_i h2
   have h:0≤p.dA∧p.dA<255:=by simp at h2;omega
   split
   ·exact C0 h (d1 1 (by decide) (by decide))
   ·split
    ·exact C0 h hK
    ·split
     ·split
      ·exact d1 2 (by decide) (by decide)
      ·split
       ·exact hK
       ·exact .inr (.inl ⟨_,_,rfl,h⟩)
     ·exact d1 1 (by decide) (by decide)
set_option maxHeartbeats 2000000 in
theorem uj(T:an)(x:db)(p:dw)(hps:p.stack.length≤1000):Can Tryz.prog 169 [aN T,fr x,dv p] (· =vA (dE T x p)):=by
 obtain⟨c1,hc1⟩:∃q,cQ T x=q:=⟨_,rfl⟩
 obtain⟨n,hn⟩:∃n,x.node=n:=⟨_,rfl⟩
 obtain⟨v,hv0⟩:∃v,p.dst=v:=⟨_,rfl⟩
 obtain⟨q1,hq1⟩:∃q,decide (v<0)=q:=⟨_,rfl⟩
 obtain⟨q2,hq2⟩:∃q,decide (T.nodes≤v)=q:=⟨_,rfl⟩
 have hnb:br T v=(!(q1||q2)):=by
  rw[←hq1,←hq2]
  cases hb:br T v with
  |true=>have:=aT.1 hb;simp;omega
  |false=>
   have h9:¬(0≤v∧v<T.nodes):=fun h=>by rw[aT.2 h]at hb;cases hb
   simp;omega
 unfold dE
 rw[hc1,hv0,hnb,Bool.not_not]
 refine aG Tryz.func169 I Tryz.ntmps169 I<|aM<|au 2 I<|b9 (fu I I I) I<|au 3 I<|aE [3,4,5,7] I ?_
 refine aj<|av<|bz 13 (.raw (.bool (((!c1)||q1)||q2))) [3,4,5,7] I ?_ ?_
 ·refine .a 2 I<|.c rfl (hc1▸pM T x) I<|.a 2 I<|?_
  cases c1
  ·exact .a 12 I<|.k [13,3,4,5,7] I
  ·refine .a 1 I<|.v (aJ I ((show(cH p)[2]? =some (num v) by rw[←hv0];rfl))) I<|.v (cc I (hq1)) I<|.a 2 I<|?_
   cases q1
   ·exact .a 1 I<|.v (aJ I ((show(cH p)[2]? =some (num v) by rw[←hv0];rfl))) I<|.a 2 I<|.v (cc I (hq2)) I<|.a 2 I<|.k [13,3,4,5,7] I
   ·exact .a 7 I<|.k [13,3,4,5,7] I
 refine ag I (fun h1=>?_) (fun h1=>?_)
 ·rw[if_pos (by rw[←Bool.or_assoc];exact h1)]
  refine ir 2 20 mixed (
   .val [5] I (cP I (aZ.tk.get I) I I I) I I<|
   .val [] I (bh I) I I<|
   .nil) (by kernel_rfl) I I (aY (ks:=[6,7,30]) I) ?_
  refine au 2 I<|aE [6,7,8] I ?_
  exact ao<|⟨_,_,az.of I,ax.aX (ah.cons ax.bQ<|ah.cons (ax.pure (p:=dv p))<|ah.cons ax.pure ah.nil),rfl⟩
 ·rw[if_neg (by rw[←Bool.or_assoc,h1];simp)]
  obtain⟨h1a,hq2f⟩:=Bool.or_eq_false_iff.1 h1
  obtain⟨h1b,hq1f⟩:=Bool.or_eq_false_iff.1 h1a
  obtain rfl:c1=true:=by simpa using h1b
  clear h1 h1a h1b
  refine ab (.a 1 I<|.v (aR I (aZ.tk.get I) I I (rfl:(cH p)[4]? =some (ca p.stack))) I<|.a 3 I<|.k [3,4,5,7,31] I)<|ag I (fun h2=>?_) (fun h2=>?_)
  ·rw[if_pos (tt h2)]
   refine ir 2 20 mixed (
    .val [5] I (cP I (aZ.tk.get I) I I I) I I<|
    .val [] I (bh I) I I<|
    .nil) (by kernel_rfl) I I (aY (ks:=[6,7,36]) I) ?_
   refine au 2 I<|aE [6,7,8] I ?_
   exact ao<|⟨_,_,az.of I,ax.aX (ah.cons ax.bQ<|ah.cons (ax.pure (p:=dv p))<|ah.cons ax.pure ah.nil),rfl⟩
  ·rw[if_neg (ff h2)]
   have h32:p.stack.length≤32:=by have:=ff h2;omega
   refine ai<|aM<|b9 (cT I (aZ.sl.get I)) I<|au 1 I<|bx (aR I (aZ.tk.get I) I I (rfl:(cH p)[4]? =some (ca p.stack))) I<|b9 (bp I (aZ.rk.get I) I I I (fP p.stack) ⟨by unfold maxLen;omega,by omega⟩) I<|au 1 I<|aE [3,4,5,7,9] I ?_
   refine pP 3 (σ':=[some (.cells 66 (cH p)),some (.cells 66 [num 0,num 0,num 0,num 0,.raw (.slice none 0 0),num 0]),none,none]) I ⟨rfl,rfl,fun m hm=>?_⟩ (.cons 3 I (.same _)<|.cons 4 I (.same _)<|.cons 5 I (.same _)<|.cons 7 I (.same _)<|.cons 9 I .own .nil) ?_
   ·match m,hm with
    |0,_=>exact .inl rfl
    |1,_=>exact .inl rfl
    |2,_=>exact .inl rfl
    |m+4,_=>exact .inl rfl
   refine aj<|av<|eR [3,4,5,7,9] I<|bu (fun r st=>∃s:List bV,s.length≤32∧r=s.length∧eD ⟨1,n⟩ p.stack=eD ⟨1,n⟩ s∧st=⟨[(3,.ba (bC T) 0),(4,.ba (eK x) 0),(5,.ptr 0 0),(7,.ptr 1 0),(9,ca s)],[some (.cells 66 (cH p)),some (.cells 66 [num 0,num 0,num 0,num 0,.raw (.slice none 0 0),num 0]),none,none]⟩) p.stack.length ⟨p.stack,h32,rfl,rfl,by simp[ca,dP]⟩ ?_
   rintro r st ⟨s,hs,rfl,hsk,rfl⟩
   obtain⟨e1,he1⟩:∃q,decide (0<(s.length:Int))=q:=⟨_,rfl⟩
   obtain⟨a,ha⟩:∃a,s.getD 0 ⟨0,0⟩=a:=⟨_,rfl⟩
   obtain⟨e2,he2⟩:∃q,decide (a=(⟨1,n⟩:bV))=q:=⟨_,rfl⟩
   refine aj<|jk mixed (by kernel_rfl) 52 (.raw (.bool (e1&&e2))) [3,4,5,7,9] I ?_ ?_
   ·refine .a 2 I<|.v [42] (cc I (he1)) I I<|.a 1 I<|?_
    cases e1
    ·exact .a 8 I<|.k [52,3,4,5,7,9] I
    ·exact .a 1 I<|.v [45] (aP (0) I (by omega) (by have:=tt he1;omega)) I I<|.v [46] (fA I (gu s 0 a (by rw[←ha];have:=tt he1;rw[List.getD_eq_getElem?_getD,List.getElem?_eq_getElem (by omega)];rfl)) I) I I<|.a 1 I<|.v [48] (aJ I ((show(eK x)[0]? =some (num n) by rw[←hn];rfl))) I I<|.a 1 I<|.v [47,50] (wT I I (b:=⟨1,n⟩) I he2) I I<|.a 1 I<|.k [52,3,4,5,7,9] I
   refine ag I (fun h3=>?_) (fun h3=>?_)
   ·obtain⟨rfl,rfl⟩:=Bool.and_eq_true_iff.1 h3
    obtain⟨l,rfl⟩:∃l,s=(⟨1,n⟩:bV)::l:=by
     have h4:=tt he2
     cases s with
     |nil=>exact absurd (tt he1) (by simp)
     |cons b l=>exact⟨l,by rw[←h4,←ha];rfl⟩
    simp only[eD,if_true]at hsk
    refine ai<|av<|aB (.a 1 I<|.v (gw I (aZ.el.get I) I I) I<|.a 1 I<|.k [3,4,5,7,9] I) ?_
    exact⟨l.length,by simp,l,by simp at hs;omega,rfl,hsk,rfl⟩
   ·have hsk:eD ⟨1,n⟩ p.stack=s:=by
     rw[hsk]
     cases s with
     |nil=>rfl
     |cons b l=>
      have e1t:e1=true:=by rw[←he1];simp
      rw[e1t,Bool.true_and]at h3
      rw[h3]at he2
      have h5:=ff he2
      simp only[eD]
      rw[if_neg (by rw[←ha]at h5;exact h5)]
    rw[hn,hsk]
    clear he1 ha he2 h3
    refine bf ?_
    obtain⟨O,hO⟩:∃O,dr T x p s (dr T x p [] (eo p 1))=O:=⟨_,rfl⟩
    have hok:II p O:=by rw[←hO];exact tN (tN (.inr (.inr ⟨1,rfl,by decide,by decide⟩)))
    have hcan:=BY T x p s hc1 (by omega)
    rw[hO]at hcan ⊢
    refine ab (.a 2 I<|.v (cP I (aZ.tk.get I) I I I) I<|.a 1 I<|.c rfl (hcan) I<|.a 7 I<|.k [5,7,10,11,12] I)<|aj<|av<|ab (.a 3 I<|.k [5,7,10,11,12,64] I)<|ag I (fun h6=>?_) (fun h6=>?_)
    ·have h6:=tt h6
     obtain rfl:O=⟨[],⟨p.id,p.src,p.dst,p.j9,[],p.dA⟩, -1⟩:=by
      rcases hok with h|⟨s,l,rfl,_⟩|⟨c,rfl,h,h'⟩
      ·exact h
      ·exact absurd h6 (by simp[cr])
      ·exact absurd h6 h'
     refine bH<|au 2 I<|aE [5,7,10,12] I ?_
     refine ir 4 20 mixed (
      .val [10] I (bh I) I I<|
      .val [5] I (cP I (aZ.tk.get I) I I I) I I<|
      .late [12] I (jD rfl rfl) inferInstance rfl rfl<|
      .val [77] I (bh I) I I<|
      .nil) (by kernel_rfl) I I (aY (ks:=[6,7,78,79]) I) ?_
     refine au 2 I<|aE [6,7,8] I ?_
     refine ao ?_
     first
      |exact⟨_,_,az.of I,ax.aX (ah.cons ax.pure<|ah.cons (ax.gV (ys:=cH ⟨p.id,p.src,p.dst,p.j9,[],p.dA⟩) (ah.cons ax.pure<|ah.cons ax.pure<|ah.cons ax.pure<|ah.cons ax.pure<|ah.cons ax.bQ<|ah.cons ax.pure ah.nil))<|ah.cons ax.pure ah.nil),rfl⟩
      |exact⟨_,_,az.of I,ax.aX (ah.cons ax.pure<|ah.cons (ax.pure (p:=dv ⟨p.id,p.src,p.dst,p.j9,s',p.dA+1⟩))<|ah.cons ax.pure ah.nil),rfl⟩
      |exact⟨_,_,az.of I,ax.aX (ah.cons ax.pure<|ah.cons (ax.pure (p:=dv p))<|ah.cons ax.pure ah.nil),rfl⟩
    ·have h6:=ff h6
     replace hok:=hok.resolve_left (fun h=>h6 (by rw[h]))
     refine ab (.a 3 I<|.k [5,7,10,11,12,68] I)<|ag I (fun h7=>?_) (fun h7=>?_)
     ·have h7:=tt h7
      obtain⟨s',l,rfl,hh⟩:=hok.resolve_right (by rintro⟨c,rfl,h,_⟩;exact h h7)
      refine aM<|au 3 I<|aE [5,7,10,12] I ?_
      refine bH<|au 1 I<|bx (aR I (aZ.tk.get I) I I I) I<|bx (aU I (hn:=(show In64 (p.dA+1) by unfold In64;omega))) I<|au 2 I<|aE [5,7,10,12] I ?_
      refine ir 4 20 mixed (
       .val [10] I (bh I) I I<|
       .val [5] I (cP I (aZ.tk.get I) I I I) I I<|
       .late [12] I (jD rfl rfl) inferInstance rfl rfl<|
       .val [77] I (bh I) I I<|
       .nil) (by kernel_rfl) I I (aY (ks:=[6,7,78,79]) I) ?_
      refine au 2 I<|aE [6,7,8] I ?_
      refine ao ?_
      first
       |exact⟨_,_,az.of I,ax.aX (ah.cons ax.pure<|ah.cons (ax.gV (ys:=cH ⟨p.id,p.src,p.dst,p.j9,[],p.dA⟩) (ah.cons ax.pure<|ah.cons ax.pure<|ah.cons ax.pure<|ah.cons ax.pure<|ah.cons ax.bQ<|ah.cons ax.pure ah.nil))<|ah.cons ax.pure ah.nil),rfl⟩
       |exact⟨_,_,az.of I,ax.aX (ah.cons ax.pure<|ah.cons (ax.pure (p:=dv ⟨p.id,p.src,p.dst,p.j9,s',p.dA+1⟩))<|ah.cons ax.pure ah.nil),rfl⟩
       |exact⟨_,_,az.of I,ax.aX (ah.cons ax.pure<|ah.cons (ax.pure (p:=dv p))<|ah.cons ax.pure ah.nil),rfl⟩
     ·have h7:=ff h7
      obtain⟨c,rfl,_⟩:=hok.resolve_left (by rintro⟨s',l,rfl,_⟩;exact h7 rfl)
      refine ai<|ir 4 20 mixed (
       .val [10] I (bh I) I I<|
       .val [5] I (cP I (aZ.tk.get I) I I I) I I<|
       .late [12] I (jD rfl rfl) inferInstance rfl rfl<|
       .val [77] I (bh I) I I<|
       .nil) (by kernel_rfl) I I (aY (ks:=[6,7,78,79]) I) ?_
      refine au 2 I<|aE [6,7,8] I ?_
      refine ao ?_
      first
       |exact⟨_,_,az.of I,ax.aX (ah.cons ax.pure<|ah.cons (ax.gV (ys:=cH ⟨p.id,p.src,p.dst,p.j9,[],p.dA⟩) (ah.cons ax.pure<|ah.cons ax.pure<|ah.cons ax.pure<|ah.cons ax.pure<|ah.cons ax.bQ<|ah.cons ax.pure ah.nil))<|ah.cons ax.pure ah.nil),rfl⟩
       |exact⟨_,_,az.of I,ax.aX (ah.cons ax.pure<|ah.cons (ax.pure (p:=dv ⟨p.id,p.src,p.dst,p.j9,s',p.dA+1⟩))<|ah.cons ax.pure ah.nil),rfl⟩
       |exact⟨_,_,az.of I,ax.aX (ah.cons ax.pure<|ah.cons (ax.pure (p:=dv p))<|ah.cons ax.pure ah.nil),rfl⟩
structure Sq where
 n:Nat
 s:List bV
 a:PV
 x:PV
 cW:Int
 Lz:Int
 lq:Int
def nB(p0:dw)(q:Sq):List PV:=[num q.n,num p0.id,num p0.src,num p0.dst,num p0.j9,ca q.s,num 0,q.a,q.x,num q.cW,num q.Lz,num q.lq]
def gg(p0:dw)(L:List Sq):List PV:=L.flatMap (nB p0)
def qa(n:Nat)(s:List bV):Sq:=⟨n,s,.raw (.slice none 0 0),.raw (.slice none 0 0),0,0,0⟩
abbrev eU(p0:dw)(L:List Sq):Option cJ:=some (.row 119 12 L.length (gg p0 L))
theorem og(p0:dw)(L:List Sq):(gg p0 L).length=L.length*12:=xZ _ 12 (fun _=>rfl) L
theorem ei{p0:dw}{L:List Sq}{i:Nat}{q:Sq}(j:Nat)(h:L[i]? =some q)(hj:j<12){v:PV}(hv:(nB p0 q)[j]? =some v):(gg p0 L)[i*12+j]? =some v:=(flat_get (nB p0) 12 (fun _=>rfl) L i j q h hj).trans hv
theorem DR{p0:dw}{L:List Sq}{i:Nat}{q:Sq}(h:L[i]? =some q):((gg p0 L).drop (i*12)).take 12=nB p0 q:=kq (nB p0) 12 (fun _=>rfl) L i q h
theorem vX{α:Type}(f:α→List PV)(s:Nat)(hf:∀a,(f a).length=s):∀(l:List α) (i j:Nat) (a b:α) (v:PV),l[i]? =some a→j<s→f b=(f a).set j v→(l.flatMap f).set (i*s+j) v=(l.set i b).flatMap f
 | [],i,j,a,b,v,h,_,_=>by simp at h
 |c::l,0,j,a,b,v,h,hj,hb=>by
  simp at h;subst h
  rw[List.flatMap_cons,List.set_cons_zero,List.flatMap_cons,Nat.zero_mul,Nat.zero_add,hb,List.set_append_left _ _ (by rw[hf];exact hj)]
 |c::l,i+1,j,a,b,v,h,hj,hb=>by
  have:=vX f s hf l i j a b v (by simpa using h) hj hb
  have e1:(i+1)*s=i*s+s:=Nat.succ_mul i s
  have e2:(i+1)*s+j - s=i*s+j:=by omega
  have e3:(f c).length≤(i+1)*s+j:=by rw[hf];omega
  rw[List.flatMap_cons,List.set_append_right _ _ e3,hf,e2,this,List.set_cons_succ,List.flatMap_cons]
theorem uz{p0:dw}{L:List Sq}{i:Nat}{q b:Sq}(j:Nat)(h:L[i]? =some q)(hj:j<12){v:PV}(hb:nB p0 b=(nB p0 q).set j v):(gg p0 L).set (i*12+j) v=gg p0 (L.set i b):=vX (nB p0) 12 (fun _=>rfl) L i j q b v h hj hb
theorem DH(p0:dw)(L:List Sq)(q:Sq):gg p0 L++nB p0 q=gg p0 (L++[q]):=by simp[gg]
def GP(T:an)(tbs:List db)(j:Nat)(rest:cg):cg:=some (.cells 122 (bC T++[ev tbs,.own (j+1)]))::rest
def At(L:List Sq)(i:Nat)(n:Nat)(s:List bV):Prop:=∃q,L[i]? =some q∧q.n=n∧q.s=s
def KK(T:an)(p0:dw)(tbs:List db)(L:List Sq)(j:Nat)(rest:cg)(n:Nat)(s:List bV)(r:PV)(σ':cg):Prop:=
 ∃(i:Nat) (L':List Sq) (j':Nat) (rest':cg),r=num (i:Int)∧σ'=GP T tbs j' rest'∧rest'[j']? =some (eU p0 L')∧gC j rest rest'∧(j'=j∨rest.length≤j')∧At L' i n s∧(L'=L∨L'=L++[qa n s]∧∀k,¬At L k n s)
instance (p0:dw) (n:Nat) (s:List bV):ec (nB p0 (qa n s)):=by unfold nB qa;infer_instance
set_option maxHeartbeats 2000000 in
theorem ye(T:an)(p0:dw)(tbs:List db)(L:List Sq)(hL:L.length≤100000)(j:Nat)(rest:cg)(hj:rest[j]? =some (eU p0 L))(n:Nat)(p:dw)(hp:dq p p.stack=dq p0 p.stack):
  bU Tryz.prog 168 [.ptr 0 0,num n,dv p] (GP T tbs j rest) (KK T p0 tbs L j rest n p.stack):=by
 have hjl:=(List.getElem?_eq_some_iff.1 hj).1
 refine cp Tryz.func168 I Tryz.ntmps168 I<|aM<|b9 (cw.to (fu I I I) (p':=.ptr (rest.length+1) 0) (σ'':=GP T tbs j (rest++[some (.cells 66 (cH p))])) I I) I<|au 1 I<|aE [0,1,5] I ?_
 refine aM<|au 1 I<|bb (cw.to (cb (i:=rest.length+1) (off:=5) I (aZ.tk.get I) I I (show(GP T tbs j (rest++[some (.cells 66 (cH p))]))[rest.length+1]? =_ from dc rfl) (Nat.le_of_ble_eq_true rfl)) (σ'':=GP T tbs j (rest++[some (.cells 66 (cH (dq p0 p.stack)))])) I (by rw[←hp];simp[GP,cH,dq];rfl)) I I<|aE [0,1,5] I ?_
 obtain⟨r1,hr1⟩:∃r1,rest++[some (.cells 66 (cH (dq p0 p.stack)))]=r1:=⟨_,rfl⟩
 have l1:r1.length=rest.length+1:=by rw[←hr1];simp
 have k1:gC j rest r1:=hr1▸(gC.refl j rest).app _
 have b1:r1[rest.length]? =some (some (.cells 66 (cH (dq p0 p.stack)))):=hr1▸dc rfl
 have j1:r1[j]? =some (eU p0 L):=hr1▸bT hj
 rw[hr1]
 refine aj<|ab (.a 1 I<|.k [0,1,5,7] I)<|av<|eR [0,1,5,7] I<|bu (fun r st=>∃i:Nat,i≤L.length∧r=L.length - i∧(∀k,k<i→¬At L k n p.stack)∧st=⟨[(0,.ptr 0 0),(1,num n),(5,.ptr (rest.length+1) 0),(7,num i)],GP T tbs j r1⟩) L.length ⟨0,by omega,by omega,fun k hk=>absurd hk (by omega),rfl⟩ ?_
 rintro r st ⟨i,hi,rfl,hno,rfl⟩
 refine aj<|ab (.a 4 I<|.v (aR I (aZ.tk.get I) I I I) I<|.v (nG I (aZ.el.get I) I j1) I<|.a 1 I<|.k [0,1,5,7,15] I)<|ag I (fun hc=>?_) (fun hc=>?_)
 ·have hlt:i<L.length:=by have:=tt hc;omega
  obtain⟨q,hq⟩:∃q,L[i]? =some q:=⟨_,List.getElem?_eq_getElem hlt⟩
  obtain⟨e1,he1⟩:∃b,decide ((q.n:Int)=n)=b:=⟨_,rfl⟩
  obtain⟨e2,he2⟩:∃b,decide (q.s=p.stack)=b:=⟨_,rfl⟩
  refine ai<|aj<|av<|jk mixed (by kernel_rfl) 41 (.raw (.bool (e1&&e2))) [0,1,5,7] I ?_ ?_
  ·refine .a 3 I<|.v [20] (aR I (aZ.tk.get I) I I I) I I<|.a 1 I<|.v [21,22] (b7 I (aZ.el.get I) I j1 rfl (by omega) (by omega) I) I I<|.a 1 I<|.v [24] (aR I (aZ.tk.get I) I j1 (ei 0 hq (by omega) I)) I I<|.a 1 I<|.v [25,26] (cc I (he1)) I I<|.a 1 I<|?_
   cases e1
   ·exact .a 13 I<|.k [41,0,1,5,7] I
   ·exact .a 3 I<|.v [31] (aR I (aZ.tk.get I) I I I) I I<|.a 1 I<|.v [32,33] (b7 I (aZ.el.get I) I j1 rfl (by omega) (by omega) I) I I<|.a 2 I<|.v [36] (aR I (aZ.tk.get I) I j1 (ei 5 hq (by omega) I)) I I<|.a 1 I<|.v [38] (aR I (aZ.tk.get I) I b1 rfl) I I<|.v [37,39] (dV I (he2▸CC q.s p.stack)) I I<|.a 1 I<|.k [41,0,1,5,7] I
  refine ag I (fun h3=>?_) (fun h3=>?_)
  ·obtain⟨rfl,rfl⟩:=Bool.and_eq_true_iff.1 h3
   have hat:At L i n p.stack:=⟨q,hq,by have:=tt he1;omega,tt he2⟩
   exact ab (.a 2 I<|.k [6] I)<|ao<|⟨_,az.of I,i,L,j,r1,rfl,rfl,j1,k1,.inl rfl,hat,.inl rfl⟩
  ·have hno':∀k,k<i+1→¬At L k n p.stack:=fun k hk h=>by
    by_cases hki:k<i
    ·exact hno k hki h
    ·obtain rfl:k=i:=by omega
     obtain⟨q',g1,g2,g3⟩:=h
     rw[hq]at g1
     cases g1
     rcases Bool.and_eq_false_iff.1 h3 with rfl|rfl
     ·exact ff he1 (by rw[g2])
     ·exact ff he2 g3
   refine ai<|aB (.a 1 I<|.v (aU I) I<|.a 1 I<|.k [0,1,5,7] I) ?_
   exact⟨L.length - (i+1),by omega,i+1,by omega,rfl,hno',rfl⟩
 ·have hie:i=L.length:=by have:=ff hc;omega
  subst hie
  refine bf<|ir 9 20 mixed (
   .late [0] I (jD rfl rfl) inferInstance rfl rfl<|
   .val [0] I (bh I) I I<|
   .val [44] I (bh I) I I<|
   .val [45] I (bh I) I I<|
   .val [46] I (aR I (aZ.tk.get I) I I I) I I<|
   .val [1] I (bh I) I I<|
   .val [5] I (cP I (aZ.tk.get I) I b1 rfl) I I<|
   .val [48,49] I (bh I) I I<|
   .val [50] I (bh I) I I<|
   .nil) (by kernel_rfl) I I (aY (ks:=[0,43,47,51]) I) ?_
  refine b9 (cw.to (σ:=GP T tbs j r1) (bp (m:=1) (n:=L.length) (xs:=gg p0 L) (ys:=nB p0 (qa n p.stack)) I (aZ.rk.get I) I j1 rfl rfl ⟨by unfold maxLen;omega,by omega⟩) (p':=.own (rest.length+1+1)) (σ'':=GP T tbs j (r1.set j none++[eU p0 (L++[qa n p.stack])])) (by rw[←l1];rfl) (by unfold eU;rw[List.length_append,←DH];rfl)) I<|au 2 I<|bb (cw.to (cb I (aZ.tk.get I) I I I (Nat.le_of_ble_eq_true rfl)) (σ'':=GP T tbs (rest.length+1) (r1.set j none++[eU p0 (L++[qa n p.stack])])) I I) I I<|aE [0] I ?_
  obtain⟨r2,hr2⟩:∃r2,r1.set j none++[eU p0 (L++[qa n p.stack])]=r2:=⟨_,rfl⟩
  have k2:gC j rest r2:=hr2▸(k1.put (.inl rfl) _).app _
  have j2:r2[rest.length+1]? =some (eU p0 (L++[qa n p.stack])):=hr2▸dc (by simp[l1])
  rw[hr2]
  exact ab (.a 3 I<|.v (aR I (aZ.tk.get I) I I I) I<|.v (nG I (aZ.el.get I) I j2) I<|.v (aU I (hc:=(show((L++[qa n p.stack]).length:Int) - 1=(L.length:Int) by rw[List.length_append];simp))) I<|.a 1 I<|.k [6] I)<|ao<|⟨_,az.of I,L.length,L++[qa n p.stack],rest.length+1,r2,rfl,rfl,j2,k2,.inr (by omega),⟨qa n p.stack,by simp,rfl,rfl⟩,.inr ⟨rfl,fun k h=>by
   obtain⟨q',g1,g2⟩:=h
   exact hno k (List.getElem?_eq_some_iff.1 g1).1 ⟨q',g1,g2⟩⟩⟩
section
variable (T:an) (tb:Nat→db) (p0:dw) (Φ:Nat→Nat→List bV→Prop)
def xX(L:List Sq)(q:Sq):Prop:=∃js:List Int,q=⟨q.n,q.s,aw (bJ T tb p0 q.n q.s).ay,aw js,(bJ T tb p0 q.n q.s).cW,0,0⟩∧js.length=(bJ T tb p0 q.n q.s).ay.length∧
 ∀(m:Nat) a,(bJ T tb p0 q.n q.s).ay[m]? =some a→∃jm:Nat,js[m]? =some (jm:Int)∧At L jm (aS T a.toNat).toNat (bJ T tb p0 q.n q.s).eu.stack
structure ki (L:List Sq) (i i':Nat):Prop where
 st:∀(k:Nat) (q:Sq),L[k]? =some q→∃u,Φ u q.n q.s
 Jt:∀(k k' n:Nat) (s:List bV),At L k n s→At L k' n s→k=k'
 dn:∀(k:Nat) (q:Sq),k<i→L[k]? =some q→xX T tb p0 L q
 nw:∀(k:Nat) (q:Sq),i'≤k→L[k]? =some q→q=qa q.n q.s
end
section
variable {T:an} {tb:Nat→db} {p0:dw} {Φ:Nat→Nat→List bV→Prop}
theorem At.app{L M:List Sq}{k n:Nat}{s:List bV}(h:At L k n s):At (L++M) k n s:=by
 obtain⟨q,h1,h2⟩:=h
 exact⟨q,by rw[List.getElem?_append_left (List.getElem?_eq_some_iff.1 h1).1];exact h1,h2⟩
theorem At.put{L:List Sq}{i k n:Nat}{s:List bV}{q q':Sq}(hq:L[i]? =some q)(h1:q'.n=q.n)(h2:q'.s=q.s):At (L.set i q') k n s↔At L k n s:=by
 have hil:=(List.getElem?_eq_some_iff.1 hq).1
 unfold At
 by_cases hk:k=i
 ·subst hk
  rw[List.getElem?_set,if_pos rfl,if_pos hil,hq]
  constructor
  ·rintro⟨x,hx,a,b⟩;cases hx;exact⟨q,rfl,by rw[←h1];exact a,by rw[←h2];exact b⟩
  ·rintro⟨x,hx,a,b⟩;cases hx;exact⟨q',rfl,by rw[h1];exact a,by rw[h2];exact b⟩
 ·rw[List.getElem?_set,if_neg (Ne.symm hk)]
theorem At.up{L:List Sq}{i k n:Nat}{s:List bV}{q q':Sq}(h:At L k n s)(hq:L[i]? =some q)(h1:q'.n=q.n)(h2:q'.s=q.s):At (L.set i q') k n s:=(At.put hq h1 h2).2 h
theorem xX.mono{L L':List Sq}{q:Sq}(hm:∀k n s,At L k n s→At L' k n s)(h:xX T tb p0 L q):xX T tb p0 L' q:=by
 obtain⟨js,h1,h2,h3⟩:=h
 refine⟨js,h1,h2,fun m a ha=>?_⟩
 obtain⟨jm,g1,g2⟩:=h3 m a ha
 exact⟨jm,g1,hm _ _ _ g2⟩
theorem ki.put{L:List Sq}{i i':Nat}(h:ki T tb p0 Φ L i i')(hi:i'≤i+1){q q':Sq}(hq:L[i]? =some q)(h1:q'.n=q.n)(h2:q'.s=q.s):ki T tb p0 Φ (L.set i q') i (i+1) where
 st:=fun k x hx=>by
  by_cases hk:k=i
  ·subst hk
   rw[List.getElem?_set,if_pos rfl,if_pos (List.getElem?_eq_some_iff.1 hq).1]at hx
   cases hx
   rw[h1,h2];exact h.st _ _ hq
  ·rw[List.getElem?_set,if_neg (Ne.symm hk)]at hx
   exact h.st _ _ hx
 Jt:=fun k k' n s a b=>h.Jt k k' n s ((At.put hq h1 h2).1 a) ((At.put hq h1 h2).1 b)
 dn:=fun k x hk hx=>by
  rw[List.getElem?_set,if_neg (by omega)]at hx
  exact(h.dn k x hk hx).mono fun k n s a=>(At.put hq h1 h2).2 a
 nw:=fun k x hk hx=>by
  rw[List.getElem?_set,if_neg (by omega)]at hx
  exact h.nw k x (by omega) hx
theorem ki.add{L L':List Sq}{i i' u n:Nat}{s:List bV}(h:ki T tb p0 Φ L i i')(hi:i≤L.length)(hΦ:Φ u n s)(hL:L'=L∨L'=L++[qa n s]∧∀k,¬At L k n s):ki T tb p0 Φ L' i i':=by
 rcases hL with rfl|⟨rfl,hno⟩
 ·exact h
 ·have key:∀k q,(L++[qa n s])[k]? =some q→L[k]? =some q∨(k=L.length∧q=qa n s):=fun k q hk=>by
   by_cases hkl:k<L.length
   ·rw[List.getElem?_append_left hkl]at hk;exact .inl hk
   ·rw[List.getElem?_append_right (by omega)]at hk
    have:=(List.getElem?_eq_some_iff.1 hk).1
    simp only[List.length_singleton]at this
    have hk0:k - L.length=0:=by omega
    rw[hk0]at hk
    simp at hk
    exact .inr ⟨by omega,hk.symm⟩
  have key2:∀k n' s',At (L++[qa n s]) k n' s'→At L k n' s'∨(k=L.length∧n'=n∧s'=s):=fun k n' s' ⟨q,h1,h2,h3⟩=>by
   rcases key k q h1 with h4|⟨h4,rfl⟩
   ·exact .inl ⟨q,h4,h2,h3⟩
   ·exact .inr ⟨h4,h2.symm,h3.symm⟩
  refine⟨fun k q hq=>?_,fun k k' n' s' a b=>?_,fun k q hk hq=>?_,fun k q hk hq=>?_⟩
  ·rcases key k q hq with hq|⟨_,rfl⟩
   ·exact h.st k q hq
   ·exact⟨u,hΦ⟩
  ·rcases key2 _ _ _ a with a2|⟨a2,e1,e2⟩
   ·rcases key2 _ _ _ b with b2|⟨b2,e1,e2⟩
    ·exact h.Jt _ _ _ _ a2 b2
    ·rw[e1,e2]at a2;exact absurd a2 (hno _)
   ·rcases key2 _ _ _ b with b2|⟨b2,_,_⟩
    ·rw[e1,e2]at b2;exact absurd b2 (hno _)
    ·omega
  ·rcases key k q hq with hq|⟨h1,_⟩
   ·exact(h.dn k q hk hq).mono fun _ _ _ a=>a.app
   ·omega
  ·rcases key k q hq with hq|⟨_,rfl⟩
   ·exact h.nw k q hk hq
   ·rfl
theorem ki.next{L:List Sq}{i:Nat}{q:Sq}(h:ki T tb p0 Φ L i (i+1))(hq:L[i]? =some q)(hd:xX T tb p0 L q):ki T tb p0 Φ L (i+1) (i+1) where
 st:=h.st
 Jt:=h.Jt
 dn:=fun k x hk hx=>by
  by_cases hki:k=i
  ·subst hki;rw[hq]at hx;cases hx;exact hd
  ·exact h.dn k x (by omega) hx
 nw:=h.nw
theorem ki.Jq{U:List (Nat×List bV)}(hU:∀ {u n s},Φ u n s→(n,s)∈U){L:List Sq}{i i':Nat}(h:ki T tb p0 Φ L i i'):L.length≤U.length:=by
 have:=pf (L.map fun q=>(q.n,q.s)) U (by
  unfold List.Nodup
  rw[List.pairwise_map,List.pairwise_iff_getElem]
  intro a b ha hb hab he
  have e1:L[a]? =some L[a]:=List.getElem?_eq_getElem ha
  have e2:L[b]? =some L[b]:=List.getElem?_eq_getElem hb
  injection he with e3 e4
  have:=h.Jt a b _ _ ⟨_,e1,rfl,rfl⟩ ⟨_,e2,e3.symm,e4.symm⟩
  omega) (fun x hx=>by
  obtain⟨q,hq,rfl⟩:=List.mem_map.1 hx
  obtain⟨k,hk⟩:=List.getElem?_of_mem hq
  obtain⟨u,hu⟩:=h.st k q hk
  exact hU hu)
 rwa [List.length_map]at this
theorem jG.put{i k:Nat}{blk:cJ}{xs:List PV}{x v:PV}(hx:xs[k]? =some x)(h:Az i blk x v):jG i blk xs (xs.set k v):=by
 refine⟨by simp,fun j a b ha hb=>?_⟩
 by_cases hjk:j=k
 ·subst hjk
  rw[hx]at ha
  cases ha
  rw[List.getElem?_set,if_pos rfl,if_pos (List.getElem?_eq_some_iff.1 hx).1]at hb
  cases hb
  exact h
 ·rw[List.getElem?_set,if_neg (Ne.symm hjk),ha]at hb
  cases hb
  exact .same _
theorem Ha{tbs:List db}{j i:Nat}{blk:cJ}{rest:cg}{x:Option cJ}(hi:rest[i]? =some x):zr (i+1) blk (GP T tbs j rest) (GP T tbs j (rest.set i none)):=by
 refine⟨by simp[GP],aW hi,fun m hm=>.inl ?_⟩
 match m,hm with
 |0,_=>rfl
 |m+1,hm=>
  show(rest.set i none)[m]? =rest[m]?
  rw[List.getElem?_set,if_neg (by omega)]
theorem Gl{tbs:List db}{j i jr:Nat}{blk:cJ}{rest:cg}{L:List Sq}{q q':Sq}(hne:j≠jr){x:Option cJ}(hr:rest[jr]? =some x)(hj:rest[j]? =some (eU p0 L))(hq:L[i]? =some q){v:PV}(hq':nB p0 q'=(nB p0 q).set 8 v)(hf:Az (jr+1) blk q.x v):
  zr (jr+1) blk (GP T tbs j rest) (GP T tbs j ((rest.set jr none).set j (eU p0 (L.set i q')))):=by
 refine⟨by simp[GP],aD (aW hr) hne,fun m hm=>?_⟩
 match m,hm with
 |0,_=>exact .inl rfl
 |m+1,hm=>
  by_cases hmj:m=j
  ·subst hmj
   refine .inr ⟨_,_,hj,aW (aD hj (by omega)),?_⟩
   rw[List.length_set,←uz 8 hq (by omega) hq']
   exact .row (jG.put (ei 8 hq (by omega) I) hf)
  ·refine .inl ?_
   show((rest.set jr none).set j _)[m]? =rest[m]?
   rw[List.getElem?_set,if_neg (by omega),List.getElem?_set,if_neg (by omega)]
end
section
variable {T:an} {tb:Nat→db} {p0:dw} {Φ:Nat→Nat→List bV→Prop}
def KL(T:an)(tb:Nat→db)(p0:dw)(Φ:Nat→Nat→List bV→Prop)(tbs:List db)(n:Nat)(s:List bV)(r:PV)(σ':cg):Prop:=
 ∃(L:List Sq) (j:Nat) (rest:cg),r= .tuple [.ptr 0 0,flag true]∧σ'=GP T tbs j rest∧rest[j]? =some (eU p0 L)∧ki T tb p0 Φ L L.length L.length∧At L 0 n s
abbrev qc(js:List Int):Option cJ:=some (.row 3 1 js.length (aL js))
structure Ld (T:an) (tb:Nat→db) (p0:dw) (Φ:Nat→Nat→List bV→Prop) (L:List Sq) (j:Nat) (rest:cg) (i n:Nat) (s:List bV) (nb jr:Nat) (k:Nat) (js:List Int) (n0:Nat) (s0:List bV):Prop where
 row:rest[j]? =some (eU p0 L)
 K4:At L 0 n0 s0
 ex:ki T tb p0 Φ L i (i+1)
 at_:L[i]? =some ⟨n,s,aw (bJ T tb p0 n s).ay,.own (jr+1),(bJ T tb p0 n s).cW,0,0⟩
 KF:rest[nb]? =some (some (cJ.cells 66 (cH (bJ T tb p0 n s).eu)))
 Kl:rest[jr]? =some (qc js)
 JO:j≠jr
 K6:nb≠jr
 KI:nb≠j
 lj:js.length=k
 hd:∀(m:Nat) a,m<k→(bJ T tb p0 n s).ay[m]? =some a→∃jm:Nat,js[m]? =some (jm:Int)∧At L jm (aS T a.toNat).toNat (bJ T tb p0 n s).eu.stack
theorem ER(xs:List PV)(k:Nat)(p:PV)(h:k<xs.length):over xs k [p]=xs.set k p:=by
 unfold over
 rw[List.set_eq_take_append_cons_drop,if_pos h]
 rfl
theorem uJ{tbs:List db}{j:Nat}{rest:cg}{L:List Sq}{i:Nat}{q b:Sq}(c:Nat)(h:L[i]? =some q)(hc:c<12){v:PV}(hb:nB p0 b=(nB p0 q).set c v):
  (GP T tbs j rest).set (j+1) (some ((cJ.row 119 12 L.length (gg p0 L)).pD (over (gg p0 L) (i*12+c) [v])))=GP T tbs j (rest.set j (eU p0 (L.set i b))):=by
 have hil:=(List.getElem?_eq_some_iff.1 h).1
 rw[ER _ _ _ (by rw[og];omega),uz c h hc hb]
 unfold GP eU
 rw[List.length_set]
 rfl
set_option maxHeartbeats 4000000 in
theorem vY(R:jz T tb p0 Φ)(hv:aq T=true)(h12:T.nodes≤12){U:List (Nat×List bV)}(hU:∀ {u n s},Φ u n s→(n,s)∈U)(hUl:U.length≤20000)(tbs:List db)(htb:∀n:Nat,(n:Int)<T.nodes→tbs[n]? =some (tb n))
  {u n:Nat} {p:dw} (hΦ:Φ u n p.stack) (hp:dq p p.stack=dq p0 p.stack):
  bU Tryz.prog 136 [aN T,ev tbs,dv p,num n] [] (KL T tb p0 Φ tbs n p.stack):=by
 refine cp Tryz.func136 I Tryz.ntmps136 I<|ab (.a 4 I<|.k [1,3,4,6] I)<|aM<|au 3 I<|b9 (fu I I I) I<|au 1 I<|aE [1,3,4,6,10] I ?_
 refine ct 0 4 119 12 I I ?_
 refine eE (σ':=GP T tbs 0 [eU p0 []]) I ?_
 refine aM<|au 3 I<|cN I I (bU.mono (ye T p0 tbs [] (by simp) 0 [eU p0 []] I n p hp) (fun y σ' h=>?_))
 obtain⟨i0,L0,j0,rest0,rfl,rfl,hj0,_,_,hat,hL0⟩:=h
 refine aE [1,4,10] I ?_
 obtain⟨rfl,rfl⟩:L0=[qa n p.stack]∧i0=0:=by
  obtain⟨q,h1,_⟩:=hat
  have:=(List.getElem?_eq_some_iff.1 h1).1
  rcases hL0 with rfl|⟨rfl,_⟩
  ·simp at this
  ·exact⟨rfl,by simp at this;exact this⟩
 have hE0:ki T tb p0 Φ [qa n p.stack] 0 0:=ki.add (L:=[]) ⟨fun k q h=>by simp at h,fun k k' n s ⟨q,h,_⟩=>by simp at h,fun k q _ h=>by simp at h,fun k q _ h=>by simp at h⟩ (by simp) hΦ hL0
 refine aj<|ab (.a 1 I<|.k [1,4,10,11] I)<|av<|eR [1,4,10,11] I<|bu (fun r st=>∃(i:Nat) (L:List Sq) (j:Nat) (rest:cg),i≤L.length∧r=U.length - i∧rest[j]? =some (eU p0 L)∧ki T tb p0 Φ L i i∧At L 0 n p.stack∧st=⟨[(1,ev tbs),(4,.ba (bC T) 0),(10,.ptr 0 0),(11,num i)],GP T tbs j rest⟩) U.length ⟨0,_,j0,rest0,by simp,by omega,hj0,hE0,hat,rfl⟩ ?_
 clear hj0 hE0 hat hL0
 rintro r st ⟨i,L,j,rest,hi,rfl,hj,hE,hat,rfl⟩
 have hfew:=hE.Jq hU
 refine aj<|ab (.a 4 I<|.v (aR I (aZ.tk.get I) I I I) I<|.v (nG I (aZ.el.get I) I hj) I<|.a 1 I<|.k [1,4,10,11,32] I)<|ag I (fun hc=>?_) (fun hc=>?_)
 ·have hlt:i<L.length:=by have:=tt hc;omega
  obtain⟨q,hq⟩:∃q,L[i]? =some q:=⟨_,List.getElem?_eq_getElem hlt⟩
  have hq0:=hE.nw i q (Nat.le_refl _) hq
  obtain⟨u1,hu1⟩:=hE.st i q hq
  obtain⟨m,s,rfl⟩:∃m s,q=qa m s:=⟨_,_,hq0⟩
  replace hu1:Φ u1 m s:=hu1
  have hmn:=R.node hu1
  obtain⟨hsm,hsl⟩:=R.small hu1
  have htn:=htb m hmn
  refine ai<|aj<|av<|aj<|ab (.a 2 I<|.k [1,4,10,11,36] I)<|ag I (fun h=>?_) (fun hc=>?_)
  ·have h:=tt h
   exact absurd h (by omega)
  ·refine ai<|aM<|au 3 I ?_
   refine bx (aR I (aZ.tk.get I) I I I) I ?_
   refine au 1 I ?_
   refine bx (b7 (i:=(i:Int)) I (aZ.el.get I) I hj rfl (by omega) (by omega) I) I ?_
   refine bx (fe I (aZ.tk.get I) I hj (DR hq) I) I ?_
   refine b9 (cw.to (nX I (aZ.zk.get I)) (p':=.ptr (rest.length+1) 0) (σ'':=GP T tbs j (rest++[some (cJ.cells 119 [num 0,num 0,num 0,num 0,num 0,.raw (.slice none 0 0),num 0,.raw (.slice none 0 0),.raw (.slice none 0 0),num 0,num 0,num 0])])) I I) I ?_
   refine bb (cw.to (σ:=GP T tbs j (rest++[some (cJ.cells 119 [num 0,num 0,num 0,num 0,num 0,.raw (.slice none 0 0),num 0,.raw (.slice none 0 0),.raw (.slice none 0 0),num 0,num 0,num 0])])) (ow (i:=rest.length+1) (off:=0) (ys:=nB p0 (qa m s)) I (aZ.tk.get I) I I I I (show(rest++[some (cJ.cells 119 [num 0,num 0,num 0,num 0,num 0,.raw (.slice none 0 0),num 0,.raw (.slice none 0 0),.raw (.slice none 0 0),num 0,num 0,num 0])])[rest.length]? =_ from dc rfl) (Nat.le_of_ble_eq_true rfl)) (σ'':=GP T tbs j (rest++[some (cJ.cells 119 (nB p0 (qa m s)))])) I (by simp[GP];rfl)) I I ?_
   refine aE [1,4,10,11,12] I ?_
   obtain⟨r1,hr1⟩:∃r1,rest++[some (cJ.cells 119 (nB p0 (qa m s)))]=r1:=⟨_,rfl⟩
   have l1:r1.length=rest.length+1:=by rw[←hr1];simp
   have b1:r1[rest.length]? =some (some (cJ.cells 119 (nB p0 (qa m s)))):=hr1▸dc rfl
   have j1:r1[j]? =some (eU p0 L):=hr1▸bT hj
   rw[hr1]
   refine pP (rest.length+1) (show(GP T tbs j r1)[rest.length+1]? =_ from b1) (Ha b1) (.cons 1 I (.same _)<|.cons 4 I (.same _)<|.cons 10 I (.same _)<|.cons 11 I (.same _)<|.cons 12 I (.ptr 0) .nil) ?_
   have hjr:j<rest.length:=(List.getElem?_eq_some_iff.1 hj).1
   obtain⟨r2,hr2⟩:∃r2,r1.set rest.length none=r2:=⟨_,rfl⟩
   have l2:r2.length=rest.length+1:=by rw[←hr2];simp[l1]
   have j2:r2[j]? =some (eU p0 L):=hr2▸aD j1 (by omega)
   rw[hr2]
   clear hr2 j1 b1 l1 hr1 r1
   have hO:dE T (tb m) (dq p0 s)=bJ T tb p0 m s:=rfl
   have hbr:=R.step hu1
   have hpk:=fun h=>Kf.eu R hu1 h
   obtain⟨O,hOO⟩:∃O,bJ T tb p0 m s=O:=⟨_,rfl⟩
   rw[hOO]at hO hbr hpk
   have htl:=(List.getElem?_eq_some_iff.1 htn).1
   have hal:O.ay.length≤1000:=by
    rcases hbr with h|⟨h,_⟩
    ·rw[h];simp
    ·exact h
   refine yT 20 2 (GP T tbs j r2::GP T tbs j (r2++[some (cJ.cells 66 [num 0,num 0,num 0,num 0,.raw (.slice none 0 0),num 0])])::GP T tbs j (r2++[some (cJ.cells 66 (cH O.eu))])::[]) (⟨aN T,none,0,1⟩::⟨_,none,0,1⟩::⟨_,none,0,1⟩::⟨num m,none,0,1⟩::⟨_,none,0,1⟩::⟨fr (tb m),none,0,1⟩::⟨_,none,0,1⟩::⟨dv (dq p0 s),none,0,1⟩::⟨vA O,none,0,1⟩::⟨vA O,none,0,1⟩::⟨aw O.ay,none,0,1⟩::⟨dv O.eu,none,0,1⟩::⟨num O.cW,none,0,2⟩::⟨.ptr (rest.length+2) 0,some 0,0,0⟩::⟨_,none,1,1⟩::⟨_,some 1,0,0⟩::⟨_,none,2,2⟩::[]) _ mixed ?grd1 rfl rfl rfl rfl (.cons (.val [4] I I (yz (cL (bh I) (cL (bh I) dK))) I I)<|.cons (.val [1] I I (yz (cL (bh I) (cL (bh I) dK))) I I)<|.cons (.val [12] I I (yz (cL (bh I) (cL (bh I) dK))) I I)<|.cons (.val [48] I I (yz (cL (bh I) (cL (bh I) dK))) I I)<|.cons (.val [47,49] I I (yz (cL (aP ((m*3)) I) (cL (aP ((m*3)) I) dK))) I I)<|.cons (.val [50] I I (yz (cL (fA I (j7 tbs m (tb m) htn) I) (cL (fA I (j7 tbs m (tb m) htn) I) dK))) I I)<|.cons (.val [12] I I (yz (cL (bh I) (cL (bh I) dK))) I I)<|.cons (.val [52] I I (yz (cL (fA I ((rfl:((nB p0 (qa m s)).drop 1).take 6=cH (dq p0 s))) I) (cL (fA I ((rfl:((nB p0 (qa m s)).drop 1).take 6=cH (dq p0 s))) I) dK))) I I)<|.cons (.val [46,51,53] I I (yz (cL (dV I (hO▸uj T (tb m) (dq p0 s) hsl)) (cL (dV I (hO▸uj T (tb m) (dq p0 s) hsl)) dK))) I I)<|.cons (.val [54] I I (yz (cL (bh I) (cL (bh I) dK))) I I)<|.cons (.val [45] I I (yz (cL (bh I) (cL (bh I) dK))) I I)<|.cons (.val [45] I I (yz (cL (bh I) (cL (bh I) dK))) I I)<|.cons (.val [45] I I (yz (cL (bh I) (cL (bh I) (cL (bh I) dK)))) I I)<|.cons (.Ci [] I I I I (cw.to (σ:=GP T tbs j r2) (nX I (aZ.zk.get I)) (p':=.ptr (rest.length+2) 0) (σ'':=GP T tbs j (r2++[some (cJ.cells 66 [num 0,num 0,num 0,num 0,.raw (.slice none 0 0),num 0])])) (by simp[GP,l2]) I) I I)<|.cons (.val [55] I I (yz (cL (bh I) dK)) I I)<|.cons (.kY [14,56] I I I I (cw.to (σ:=GP T tbs j (r2++[some (cJ.cells 66 [num 0,num 0,num 0,num 0,.raw (.slice none 0 0),num 0])])) (ow (i:=rest.length+2) (off:=0) (ys:=cH O.eu) I (aZ.tk.get I) I I I I (show(r2++[some (cJ.cells 66 [num 0,num 0,num 0,num 0,.raw (.slice none 0 0),num 0])])[rest.length+1]? =_ from dc l2) (Nat.le_of_ble_eq_true rfl)) (σ'':=GP T tbs j (r2++[some (cJ.cells 66 (cH O.eu))])) I (by rw[show rest.length+2=r2.length+1 by omega];simp[GP];rfl)) I)<|.cons (.val [57] I I (yz (cL (bh I) dK)) I I) .nil) (aY (ks:=[1,4,10,11,13,14,15]) I) ?_
   case grd1=>kernel_rfl
   obtain⟨r3,hr3⟩:∃r3,r2++[some (cJ.cells 66 (cH O.eu))]=r3:=⟨_,rfl⟩
   have l3:r3.length=rest.length+2:=by rw[←hr3];simp[l2]
   have j3:r3[j]? =some (eU p0 L):=hr3▸bT j2
   have n3:r3[rest.length+1]? =some (some (cJ.cells 66 (cH O.eu))):=hr3▸dc l2
   rw[hr3]
   clear hr3 j2 l2 r2
   have hb7:i*12+12≤(gg p0 L).length:=by rw[og];omega
   have hq1:(L.set i ⟨m,s,aw O.ay,.raw (.slice none 0 0),0,0,0⟩)[i]? =some ⟨m,s,aw O.ay,.raw (.slice none 0 0),0,0,0⟩:=aW hq
   refine yT 20 2 (GP T tbs j r3::GP T tbs j (r3.set j (eU p0 (L.set i ⟨m,s,aw O.ay,.raw (.slice none 0 0),0,0,0⟩)))::GP T tbs j ((r3.set j (eU p0 (L.set i ⟨m,s,aw O.ay,.raw (.slice none 0 0),0,0,0⟩))).set j (eU p0 ((L.set i ⟨m,s,aw O.ay,.raw (.slice none 0 0),0,0,0⟩).set i ⟨m,s,aw O.ay,.raw (.slice none 0 0),O.cW,0,0⟩)))::[]) (⟨_,none,0,0⟩::⟨_,none,0,0⟩::⟨_,none,0,0⟩::⟨.own (j+1),none,0,0⟩::⟨_,none,0,0⟩::⟨_,none,0,0⟩::⟨_,none,0,0⟩::⟨_,none,0,0⟩::⟨.own (j+1),none,0,0⟩::⟨_,none,0,1⟩::⟨_,none,0,0⟩::⟨_,none,0,1⟩::⟨.ptr (j+1) (i*12),none,0,0⟩::⟨_,none,0,0⟩::⟨_,some 0,0,0⟩::⟨.ptr (j+1) (i*12),none,1,1⟩::⟨_,none,1,1⟩::⟨_,some 1,0,0⟩::[]) _ mixed ?grd2 rfl rfl rfl rfl (.cons (.val [10] I I (yz (cL (bh I) dK)) I I)<|.cons (.val [58] I I (yz (cL (bh I) dK)) I I)<|.cons (.val [59] I I (yz (cL (bh I) dK)) I I)<|.cons (.val [60] I I (yz (cL (aR I (aZ.tk.get I) I I I) dK)) I I)<|.cons (.val [11] I I (yz (cL (bh I) dK)) I I)<|.cons (.val [10] I I (yz (cL (bh I) dK)) I I)<|.cons (.val [63] I I (yz (cL (bh I) dK)) I I)<|.cons (.val [64] I I (yz (cL (bh I) dK)) I I)<|.cons (.val [65] I I (yz (cL (aR I (aZ.tk.get I) I I I) dK)) I I)<|.cons (.val [11] I I (yz (cL (bh I) (cL (bh I) dK))) I I)<|.cons (.val [13] I I (yz (cL (bh I) dK)) I I)<|.cons (.val [15] I I (yz (cL (bh I) (cL (bh I) dK))) I I)<|.cons (.val [61,62] I I (yz (cL (b7 I (aZ.el.get I) I j3 rfl (by omega) (by omega) I) dK)) I I)<|.cons (.val [70] I I (yz (cL (bh I) dK)) I I)<|.cons (.kY [68,71] I I I I (cw.to (σ:=GP T tbs j r3) (cb I (aZ.tk.get I) I I j3 (show i*12+7<(gg p0 L).length by omega)) (σ'':=GP T tbs j (r3.set j (eU p0 (L.set i ⟨m,s,aw O.ay,.raw (.slice none 0 0),0,0,0⟩)))) I (uJ 7 hq (by omega) I)) I)<|.cons (.val [66,67] I I (yz (cL (b7 I (aZ.el.get I) I (aW j3) I (by omega) (by rw[List.length_set];omega) I) dK)) I I)<|.cons (.val [72] I I (yz (cL (bh I) dK)) I I)<|.cons (.kY [69,73] I I I I (cw.to (σ:=GP T tbs j (r3.set j (eU p0 (L.set i ⟨m,s,aw O.ay,.raw (.slice none 0 0),0,0,0⟩)))) (cb I (aZ.tk.get I) I I (aW j3) (show i*12+9<(gg p0 (L.set i _)).length by rw[og,List.length_set];omega)) (σ'':=GP T tbs j ((r3.set j (eU p0 (L.set i ⟨m,s,aw O.ay,.raw (.slice none 0 0),0,0,0⟩))).set j (eU p0 ((L.set i ⟨m,s,aw O.ay,.raw (.slice none 0 0),0,0,0⟩).set i ⟨m,s,aw O.ay,.raw (.slice none 0 0),O.cW,0,0⟩)))) I (uJ 9 hq1 (by omega) I)) I) .nil) (aY (ks:=[1,4,10,11,13,14]) I) ?_
   case grd2=>kernel_rfl
   rw[List.set_set,List.set_set]
   obtain⟨L2,hL2⟩:∃L2,L.set i (⟨m,s,aw O.ay,.raw (.slice none 0 0),O.cW,0,0⟩:Sq)=L2:=⟨_,rfl⟩
   have hE2:ki T tb p0 Φ L2 i (i+1):=by rw[←hL2];exact hE.put (by omega) hq rfl rfl
   have hat2:At L2 0 n p.stack:=by rw[←hL2];exact hat.up hq rfl rfl
   have hq2:L2[i]? =some ⟨m,s,aw O.ay,.raw (.slice none 0 0),O.cW,0,0⟩:=hL2▸aW hq
   have ll2:L2.length=L.length:=by rw[←hL2];simp
   rw[hL2]
   obtain⟨r5,hr5⟩:∃r5,r3.set j (eU p0 L2)=r5:=⟨_,rfl⟩
   have l5:r5.length=rest.length+2:=by rw[←hr5];simp[l3]
   have j5:r5[j]? =some (eU p0 L2):=hr5▸aW j3
   have n5:r5[rest.length+1]? =some (some (cJ.cells 66 (cH O.eu))):=hr5▸aD n3 (by omega)
   rw[hr5]
   clear hr5 j3 n3 l3 r3 hL2 hq1 hb7 hj hE hat
   refine qE (j+1) (i*12+8) 3 1 (show(GP T tbs j r5)[j+1]? =_ from j5) (ei 8 hq2 (by omega) I) ?_
   refine eE (σ':=GP T tbs j ((r5++[qc []]).set j (eU p0 (L2.set i ⟨m,s,aw O.ay,.own (rest.length+2+1),O.cW,0,0⟩)))) (by rw[show(GP T tbs j r5).length=rest.length+2+1 by simp[GP,l5],uz (p0:=p0) (b:=⟨m,s,aw O.ay,.own (rest.length+2+1),O.cW,0,0⟩) (v:=.own (rest.length+2+1)) 8 hq2 (by omega) I];unfold GP eU;rw[List.length_set];rfl) ?_
   have hX:Ld T tb p0 Φ (L2.set i ⟨m,s,aw O.ay,.own (rest.length+2+1),O.cW,0,0⟩) j ((r5++[qc []]).set j (eU p0 (L2.set i ⟨m,s,aw O.ay,.own (rest.length+2+1),O.cW,0,0⟩))) i m s (rest.length+1) (rest.length+2) 0 [] n p.stack:=by
    refine⟨aW (bT j5),hat2.up hq2 rfl rfl,hE2.put (by omega) hq2 rfl rfl,by rw[hOO];exact aW hq2,by rw[hOO];exact aD (bT n5) (by omega),aD (dc l5) (by omega),by omega,by omega,by omega,rfl,fun z a hz=>absurd hz (by omega)⟩
   obtain⟨L3,hL3⟩:∃L3,L2.set i (⟨m,s,aw O.ay,.own (rest.length+2+1),O.cW,0,0⟩:Sq)=L3:=⟨_,rfl⟩
   rw[hL3]at hX ⊢
   obtain⟨r6,hr6⟩:∃r6,(r5++[qc []]).set j (eU p0 L3)=r6:=⟨_,rfl⟩
   rw[hr6]at hX ⊢
   clear hr6 hL3 hq2 j5 n5 l5 r5 hE2 hat2 hq0
   refine ab (.a 1 I<|.k [1,4,10,11,13,14,16] I)<|av<|eR [1,4,10,11,13,14,16] I<|bu (fun r st=>∃(k:Nat) (L:List Sq) (j:Nat) (re:cg) (jr:Nat) (js:List Int),k≤O.ay.length∧r=O.ay.length - k∧Ld T tb p0 Φ L j re i m s (rest.length+1) jr k js n p.stack∧st=⟨[(1,ev tbs),(4,.ba (bC T) 0),(10,.ptr 0 0),(11,num i),(13,aw O.ay),(14,.ptr (rest.length+2) 0),(16,num k)],GP T tbs j re⟩) O.ay.length ⟨0,L3,j,r6,rest.length+2,[],by omega,by omega,hX,rfl⟩ ?_
   clear hX
   rintro r st ⟨k,L4,j4,r4,jr,js,hk,rfl,X,rfl⟩
   have hfew4:=X.ex.Jq hU
   refine aj<|ab (.a 4 I<|.k [1,4,10,11,13,14,16,77] I)<|ag I (fun hc=>?_) (fun hc=>?_)
   ·have hlt:k<O.ay.length:=by have:=tt hc;omega
    have hne:O.ay≠[]:=fun h=>by rw[h]at hlt;simp at hlt
    have hmem:O.ay.getD k 0∈O.ay:=by rw[List.getD_eq_getElem?_getD,List.getElem?_eq_getElem hlt];exact List.getElem_mem hlt
    obtain⟨b,m2,hab,hb,hm2,u',hu',hΦ'⟩:∃b m2:Nat,O.ay.getD k 0=(b:Int)∧b<2*T.ae.length∧aS T b=(m2:Int)∧∃u',u'<u1∧Φ u' m2 O.eu.stack:=by
     rcases hbr with h|⟨_,_,h⟩
     ·exact absurd h hne
     ·exact h _ hmem
    have hll:=bR hv
    refine ai<|aj<|av<|Em 8 20 [80,81,82,83,84,85,86,87] mixed (by kernel_rfl) (by kernel_rfl) (by kernel_rfl) I (.a 4 I<|.v [82,83] (aP (k) I) I I<|.v [84] (aJ I ((aC _ k hlt).trans (by rw[hab]))) I I<|.v [81,85] (dV I ((show Can Tryz.prog 41 [aN T,num b] (· =num m2) by have h:=jv T hv b hb;rw[hm2]at h;exact h))) I I<|.v [14] (cP (σ:=GP T tbs j4 r4) I (aZ.tk.get I) I (X.KF.trans (by rw[hOO])) I) I I<|.k [1,4,10,11,13,14,16,80,86,87] I) ?_
    refine cN I I (bU.mono (ye T p0 tbs L4 (by omega) j4 r4 X.row m2 O.eu (hpk hne)) (fun y σ' h=>?_))
    obtain⟨i1,L1,j1,rest1,rfl,rfl,a1,k1,hj1,hat1,hL1⟩:=h
    refine au 1 I<|aE [1,4,10,11,13,14,16,17] I ?_
    have hE1:ki T tb p0 Φ L1 i (i+1):=X.ex.add (by have:=(List.getElem?_eq_some_iff.1 X.at_).1;omega) hΦ' hL1
    have hmono:∀k n s,At L4 k n s→At L1 k n s:=fun k n s h=>by
     rcases hL1 with rfl|⟨rfl,_⟩
     ·exact h
     ·exact h.app
    have hq1:L1[i]? =some ⟨m,s,aw O.ay,.own (jr+1),O.cW,0,0⟩:=by
     have h0:=X.at_
     rw[hOO]at h0
     rcases hL1 with rfl|⟨rfl,_⟩
     ·exact h0
     ·exact bT h0
    have lj:=X.lj
    have JO:=X.JO
    have K6:=X.K6
    have KI:=X.KI
    have hjrl:=(List.getElem?_eq_some_iff.1 X.Kl).1
    have hnbl:=(List.getElem?_eq_some_iff.1 X.KF).1
    have hk1:=k1.len
    have nb1:rest1[rest.length+1]? =some (some (cJ.cells 66 (cH O.eu))):=(k1.same _ hnbl KI).trans (X.KF.trans (by rw[hOO]))
    have Kw:rest1[jr]? =some (qc js):=(k1.same _ hjrl (Ne.symm JO)).trans X.Kl
    have hne4:j1≠jr:=by omega
    have hne5:rest.length+1≠j1:=by omega
    have hil1:=(List.getElem?_eq_some_iff.1 hq1).1
    have a2:(rest1.set jr none++[qc (js++[(i1:Int)])])[j1]? =some (eU p0 L1):=bT (aD a1 (by omega))
    refine sT 20 2 (GP T tbs j1 rest1::GP T tbs j1 (rest1.set jr none++[qc (js++[(i1:Int)])])::GP T tbs j1 ((rest1.set jr none++[qc (js++[(i1:Int)])]).set j1 (eU p0 (L1.set i ⟨m,s,aw O.ay,.own (rest1.length+1),O.cW,0,0⟩)))::[]) (⟨_,none,0,1⟩::⟨_,none,0,1⟩::⟨_,none,0,1⟩::⟨.own (j1+1),none,0,1⟩::⟨_,none,0,1⟩::⟨_,none,0,0⟩::⟨_,none,0,0⟩::⟨_,none,0,0⟩::⟨.own (j1+1),none,0,0⟩::⟨_,none,0,0⟩::⟨.ptr (j1+1) (i*12),none,0,0⟩::⟨_,none,0,0⟩::⟨.own (jr+1),none,0,0⟩::⟨_,none,0,0⟩::⟨.slice 1 [num (i1:Int)],none,0,0⟩::⟨.own (rest1.length+1),some 0,0,0⟩::⟨.ptr (j1+1) (i*12),none,1,1⟩::⟨_,none,1,1⟩::⟨_,some 1,0,0⟩::[]) _ mixed ?grd3 rfl rfl rfl rfl (.cons (.val [10] I I (yz (cL (bh I) (cL (bh I) dK))) I I)<|.cons (.val [89] I I (yz (cL (bh I) (cL (bh I) dK))) I I)<|.cons (.val [90] I I (yz (cL (bh I) (cL (bh I) dK))) I I)<|.cons (.val [91] I I (yz (cL (aR I (aZ.tk.get I) I I I) (cL (aR I (aZ.tk.get I) I I I) dK))) I I)<|.cons (.val [11] I I (yz (cL (bh I) (cL (bh I) dK))) I I)<|.cons (.val [10] I I (yz (cL (bh I) dK)) I I)<|.cons (.val [94] I I (yz (cL (bh I) dK)) I I)<|.cons (.val [95] I I (yz (cL (bh I) dK)) I I)<|.cons (.val [96] I I (yz (cL (aR I (aZ.tk.get I) I I I) dK)) I I)<|.cons (.val [11] I I (yz (cL (bh I) dK)) I I)<|.cons (.val [97,98] I I (yz (cL (b7 I (aZ.el.get I) I a1 rfl (by omega) (by omega) I) dK)) I I)<|.cons (.val [99] I I (yz (cL (bh I) dK)) I I)<|.cons (.val [100] I I (yz (cL (aR I (aZ.tk.get I) I a1 (ei 8 hq1 (by omega) I)) dK)) I I)<|.cons (.val [17] I I (yz (cL (bh I) dK)) I I)<|.cons (.val [102] I I (yz (cL (bh I) dK)) I I)<|.cons (.Ci [101,103] I I I I (cw.to (σ:=GP T tbs j1 rest1) (bp (e:=3) (s:=1) (by':=8) (i:=jr+1) (m:=1) (n:=js.length) (xs:=aL js) (ys:=[num (i1:Int)]) I (aZ.rk.get I) I Kw rfl rfl ⟨by unfold maxLen;omega,by omega⟩) (p':=.own (rest1.length+1)) (σ'':=GP T tbs j1 (rest1.set jr none++[qc (js++[(i1:Int)])])) I (by unfold qc;rw[List.length_append];simp[aL,GP])) I I)<|.cons (.val [92,93] I I (yz (cL (b7 I (aZ.el.get I) I a2 rfl (by omega) (by omega) I) dK)) I I)<|.cons (.val [105] I I (yz (cL (bh I) dK)) I I)<|.cons (.kY [104,106] I I I I (cw.to (σ:=GP T tbs j1 (rest1.set jr none++[qc (js++[(i1:Int)])])) (cb I (aZ.tk.get I) I I a2 (show i*12+8<(gg p0 L1).length by rw[og];omega)) (σ'':=GP T tbs j1 ((rest1.set jr none++[qc (js++[(i1:Int)])]).set j1 (eU p0 (L1.set i ⟨m,s,aw O.ay,.own (rest1.length+1),O.cW,0,0⟩)))) I (uJ 8 hq1 (by omega) I)) I) .nil) (aY (ks:=[1,4,10,11,13,14,16]) I) ?_
    case grd3=>kernel_rfl
    refine aB (.a 1 I<|.v (aU I) I<|.a 1 I<|.k [1,4,10,11,13,14,16] I) ?_
    refine⟨O.ay.length - (k+1),by omega,k+1,L1.set i ⟨m,s,aw O.ay,.own (rest1.length+1),O.cW,0,0⟩,j1,_,rest1.length,js++[(i1:Int)],by omega,rfl,⟨aW a2,(hmono _ _ _ X.K4).up hq1 rfl rfl,hE1.put (by omega) hq1 rfl rfl,by rw[hOO];exact aW (a:=(⟨m,s,aw O.ay,.own (rest1.length+1),O.cW,0,0⟩:Sq)) hq1,by rw[hOO];exact aD (bT (aD nb1 (by omega))) (by omega),aD (dc (by simp)) (by have:=(List.getElem?_eq_some_iff.1 a1).1;omega),by have:=(List.getElem?_eq_some_iff.1 a1).1;omega,by omega,by omega,by simp[lj],fun z a hz ha=>?_⟩,rfl⟩
    by_cases hzk:z<k
    ·obtain⟨jm,g1,g2⟩:=X.hd z a hzk ha
     exact⟨jm,bT g1,(hmono _ _ _ g2).up hq1 rfl rfl⟩
    ·obtain rfl:z=k:=by omega
     rw[hOO]at ha ⊢
     have e1:a=(b:Int):=by rw[←hab,List.getD_eq_getElem?_getD,ha];rfl
     refine⟨i1,dc lj,At.up ?_ hq1 rfl rfl⟩
     rw[e1,Int.toNat_natCast,hm2,Int.toNat_natCast]
     exact hat1
   ·have hke:k=O.ay.length:=by have:=ff hc;omega
    refine pP (jr+1) (show(GP T tbs j4 r4)[jr+1]? =_ from X.Kl) (Gl (q':=⟨m,s,(aw (bJ T tb p0 m s).ay),aw js,(bJ T tb p0 m s).cW,0,0⟩) X.JO X.Kl X.row X.at_ rfl .own) (.cons 1 I (.same _)<|.cons 4 I (.same _)<|.cons 10 I (.same _)<|.cons 11 I (.same _) .nil) ?_
    refine bf<|aB (.a 1 I<|.v (aU I) I<|.a 1 I<|.k [1,4,10,11] I) ?_
    subst hke
    refine⟨U.length - (i+1),by omega,i+1,L4.set i ⟨m,s,(aw (bJ T tb p0 m s).ay),aw js,(bJ T tb p0 m s).cW,0,0⟩,j4,(r4.set jr none).set j4 (eU p0 (L4.set i ⟨m,s,(aw (bJ T tb p0 m s).ay),aw js,(bJ T tb p0 m s).cW,0,0⟩)),by have:=(List.getElem?_eq_some_iff.1 X.at_).1;rw[List.length_set];omega,rfl,aW (aD X.row (Ne.symm X.JO)),ki.next (X.ex.put (by omega) X.at_ rfl rfl) (aW X.at_) ⟨js,rfl,by rw[X.lj,hOO],fun z a ha=>?_⟩,X.K4.up X.at_ rfl rfl,rfl⟩
    have hz:z<O.ay.length:=by rw[←hOO];exact(List.getElem?_eq_some_iff.1 ha).1
    obtain⟨jm,g1,g2⟩:=X.hd z a hz ha
    exact⟨jm,g1,g2.up X.at_ rfl rfl⟩
 ·have hie:i=L.length:=by have:=ff hc;omega
  subst hie
  exact bf<|ab (.a 3 I<|.k [8,9] I)<|ao<|⟨_,az.of I,L,j,rest,rfl,rfl,hj,hE,hat⟩
end
inductive Cn (T:an) (tb:Nat→db) (p0:dw):Nat→List bV→Int→Prop
 |mk {n:Nat} {s:List bV} {cs:List Int}:cs.length=(bJ T tb p0 n s).ay.length→
   (∀i,i<(bJ T tb p0 n s).ay.length→Cn T tb p0 (aS T ((bJ T tb p0 n s).ay.getD i 0).toNat).toNat (bJ T tb p0 n s).eu.stack (cs.getD i 0))→Cn T tb p0 n s (eV (bJ T tb p0 n s).ay cs)
section
variable {T:an} {tb:Nat→db} {p0:dw} {Φ:Nat→Nat→List bV→Prop}
theorem Cn.bound{n:Nat}{s:List bV}{c:Int}(h:Cn T tb p0 n s c):0≤c∧c≤1001:=by
 induction h with
 | @mk n s cs h2 _ ih=>
  unfold eV
  split
  ·omega
  ·refine gX cs 0 (by omega) (by omega) fun c hc=>?_
   obtain⟨i,hi⟩:=List.getElem?_of_mem hc
   have hlt:=(List.getElem?_eq_some_iff.1 hi).1
   have:=(ih i (by rw[←h2];exact hlt)).1
   rw[List.getD_eq_getElem?_getD,hi]at this
   exact this
def Sq.mark(q:Sq)(c t:Int):Sq:=⟨q.n,q.s,q.a,q.x,q.cW,c,t⟩
def iy(T:an)(tb:Nat→db)(p0:dw)(L M:List Sq)(op:List Nat):Prop:=
 M.length=L.length∧∀(k:Nat) q,L[k]? =some q→∃c t,M[k]? =some (q.mark c t)∧((c=0∧t=0)∨(c=1∧k∈op)∨(c=2∧Cn T tb p0 q.n q.s t))
theorem iy.open_{L M:List Sq}{op:List Nat}(h:iy T tb p0 L M op){i:Nat}{q:Sq}(hq:L[i]? =some q)(t:Int):iy T tb p0 L (M.set i (q.mark 1 t)) (i::op):=by
 refine⟨by rw[List.length_set];exact h.1,fun k x hx=>?_⟩
 by_cases hk:k=i
 ·subst hk
  rw[hq]at hx
  cases hx
  obtain⟨c,t',h1,_⟩:=h.2 k q hq
  exact⟨1,t,aW h1,.inr (.inl ⟨rfl,List.mem_cons_self⟩)⟩
 ·obtain⟨c,t',h1,h2⟩:=h.2 k x hx
  refine⟨c,t',aD h1 (Ne.symm hk),?_⟩
  rcases h2 with h2|⟨h2,h3⟩|h2
  ·exact .inl h2
  ·exact .inr (.inl ⟨h2,List.mem_cons_of_mem _ h3⟩)
  ·exact .inr (.inr h2)
theorem iy.shut{L M:List Sq}{op:List Nat}{i:Nat}(h:iy T tb p0 L M (i::op)){q:Sq}(hq:L[i]? =some q){t:Int}(ht:Cn T tb p0 q.n q.s t):iy T tb p0 L (M.set i (q.mark 2 t)) op:=by
 refine⟨by rw[List.length_set];exact h.1,fun k x hx=>?_⟩
 by_cases hk:k=i
 ·subst hk
  rw[hq]at hx
  cases hx
  obtain⟨c,t',h1,_⟩:=h.2 k q hq
  exact⟨2,t,aW h1,.inr (.inr ⟨rfl,ht⟩)⟩
 ·obtain⟨c,t',h1,h2⟩:=h.2 k x hx
  refine⟨c,t',aD h1 (Ne.symm hk),?_⟩
  rcases h2 with h2|⟨h2,h3⟩|h2
  ·exact .inl h2
  ·rcases List.mem_cons.1 h3 with h3|h3
   ·exact absurd h3 hk
   ·exact .inr (.inl ⟨h2,h3⟩)
  ·exact .inr (.inr h2)
def GV(T:an)(p0:dw)(tbs:List db)(j:Nat)(rest:cg)(M:List Sq):cg:=GP T tbs j (rest.set j (eU p0 M))
theorem cM{tbs:List db}{j:Nat}{rest:cg}{M:List Sq}(hj:j<rest.length):(GV T p0 tbs j rest M)[j+1]? =some (eU p0 M):=by
 show(rest.set j (eU p0 M))[j]? =_
 rw[List.getElem?_set,if_pos rfl,if_pos hj]
theorem pn{tbs:List db}{j:Nat}{rest:cg}{L:List Sq}{i:Nat}{q b:Sq}(c:Nat)(h:L[i]? =some q)(hc:c<12){v:PV}(hb:nB p0 b=(nB p0 q).set c v):
  (GV T p0 tbs j rest L).set (j+1) (some ((cJ.row 119 12 L.length (gg p0 L)).pD (over (gg p0 L) (i*12+c) [v])))=GV T p0 tbs j rest (L.set i b):=by
 unfold GV
 rw[uJ c h hc hb,List.set_set]
theorem oJ{p0:dw}{L:List Sq}{i:Nat}{q:Sq}(c:Nat)(h:L[i]? =some q)(hc:c<12):i*12+c<(gg p0 L).length:=by
 have hil:=(List.getElem?_eq_some_iff.1 h).1
 rw[og];omega
def Li(T:an)(tb:Nat→db)(p0:dw)(tbs:List db)(L M:List Sq)(op:List Nat)(j:Nat)(rest:cg)(i:Nat)(q:Sq)(r:PV)(σ':cg):Prop:=
 ∃M' t,r=flag true∧σ'=GV T p0 tbs j rest M'∧iy T tb p0 L M' op∧(∀k∈op,M'[k]? =M[k]?)∧M'[i]? =some (q.mark 2 t)∧Cn T tb p0 q.n q.s t
set_option maxHeartbeats 4000000 in
theorem zC(R:jz T tb p0 Φ)(L:List Sq)(hL:ki T tb p0 Φ L L.length L.length)(hll:L.length≤100000)(tbs:List db)(j:Nat)(rest:cg)(hj:j<rest.length):
  ∀(u i:Nat) (q:Sq),L[i]? =some q→Φ u q.n q.s→∀(op:List Nat) (M:List Sq),iy T tb p0 L M op→(∀k∈op,∃qk,L[k]? =some qk∧CV T tb p0 qk.n qk.s q.n q.s)→
   bU Tryz.prog 137 [.ptr 0 0,num i] (GV T p0 tbs j rest M) (Li T tb p0 tbs L M op j rest i q):=by
 intro u
 induction u using Nat.strongRecOn with
 |_ u ih=>
 intro i q hq hΦ op M hok hop
 have hil:=(List.getElem?_eq_some_iff.1 hq).1
 have hni:i∉op:=fun h=>by
  obtain⟨qk,h1,h2⟩:=hop i h
  rw[hq]at h1
  cases h1
  exact R.xc h2 hΦ
 obtain⟨c,t,hM,hct⟩:=hok.2 i q hq
 obtain⟨js,hqe,hjl,hjs⟩:=hL.dn i q hil hq
 have hbr:=R.step hΦ
 obtain⟨O,hOO⟩:∃O,bJ T tb p0 q.n q.s=O:=⟨_,rfl⟩
 rw[hOO]at hqe hjl hjs hbr
 have hqx:q.x=aw js:=congrArg Sq.x hqe
 have hMl:=hok.1
 have hal:O.ay.length≤1000:=by
  rcases hbr with h|⟨h,_⟩
  ·rw[h];simp
  ·exact h
 refine cp Tryz.func137 I Tryz.ntmps137 I<|ab (.a 1 I<|.k [0,1] I)<|aj<|ab (.a 3 I<|.v (aR (i:=0) (k:=4) (p:=.own (j+1)) I (aZ.tk.get I) I I I) I<|.a 1 I<|.v (b7 (i:=(i:Int)) I (aZ.el.get I) I (cM hj) I (by omega) (by omega) I) I<|.a 1 I<|.v (aR I (aZ.tk.get I) I (cM hj) (ei (v:=num c) 10 hM (by omega) I)) I<|.a 1 I<|.k [0,1,15] I)<|ag I (fun hc=>?_) (fun hc=>?_)
 ·have hc2:c=2∧Cn T tb p0 q.n q.s t:=by
   have:=tt hc
   rcases hct with⟨h,_⟩|⟨_,h⟩|h
   ·omega
   ·exact absurd h hni
   ·exact h
  obtain⟨rfl,hcn⟩:=hc2
  exact ab (.a 3 I<|.v (aR (i:=0) (k:=4) (p:=.own (j+1)) I (aZ.tk.get I) I I I) I<|.a 1 I<|.v (b7 (i:=(i:Int)) I (aZ.el.get I) I (cM hj) I (by omega) (by omega) I) I<|.a 1 I<|.v (aR I (aZ.tk.get I) I (cM hj) (ei (v:=num 2) 10 hM (by omega) I)) I<|.a 2 I<|.k [4] I)<|ao<|⟨_,az.of I,M,t,rfl,rfl,hok,fun k _=>rfl,hM,hcn⟩
 ·have hc0:c=0∧t=0:=by
   have:=ff hc
   rcases hct with h|⟨h,_⟩|⟨h,_⟩
   ·exact h
   ·omega
   ·omega
  obtain⟨rfl,rfl⟩:=hc0
  refine ai<|aM<|au 3 I ?_
  refine bx (aR (i:=0) (k:=4) (p:=.own (j+1)) I (aZ.tk.get I) I I I) I ?_
  refine au 1 I ?_
  refine bx (b7 (i:=(i:Int)) I (aZ.el.get I) I (cM hj) I (by omega) (by omega) I) I ?_
  refine au 1 I ?_
  refine bb (cw.to (σ:=GV T p0 tbs j rest M) (cb I (aZ.tk.get I) I I (cM hj) (oJ 10 hM (by omega))) (σ'':=GV T p0 tbs j rest (M.set i (q.mark 1 0))) I (pn 10 hM (by omega) I)) I I ?_
  refine aE [0,1] I ?_
  obtain⟨M1,hM1⟩:∃M1,M.set i (q.mark 1 0)=M1:=⟨_,rfl⟩
  have hq1:M1[i]? =some (q.mark 1 0):=hM1▸aW hM
  have hl1:M1.length=L.length:=by rw[←hM1,List.length_set];exact hMl
  rw[hM1]
  refine aj<|ab (.a 3 I<|.v (aR (i:=0) (k:=4) (p:=.own (j+1)) I (aZ.tk.get I) I I I) I<|.a 1 I<|.v (b7 (i:=(i:Int)) I (aZ.el.get I) I (cM hj) I (by omega) (by omega) I) I<|.a 1 I<|.v (aR I (aZ.tk.get I) I (cM hj) (ei (v:=aw js) 8 hq1 (by omega) (by rw[←hqx];rfl))) I<|.a 2 I<|.k [0,1,41] I)<|ag I (fun hc=>?_) (fun hc=>?_)
  ·have harc:O.ay=[]:=List.eq_nil_of_length_eq_zero (by have:=tt hc;omega)
   refine bH<|au 3 I ?_
   refine bx (aR (i:=0) (k:=4) (p:=.own (j+1)) I (aZ.tk.get I) I I I) I ?_
   refine au 1 I ?_
   refine bx (b7 (i:=(i:Int)) I (aZ.el.get I) I (cM hj) I (by omega) (by omega) I) I ?_
   refine au 1 I ?_
   refine bb (cw.to (σ:=GV T p0 tbs j rest M1) (cb I (aZ.tk.get I) I I (cM hj) (oJ 11 hq1 (by omega))) (σ'':=GV T p0 tbs j rest (M1.set i (q.mark 1 1))) I (pn 11 hq1 (by omega) I)) I I ?_
   refine aE [0,1] I ?_
   obtain⟨M2,hM2,hok2,hfr2⟩:∃M2,M1.set i (q.mark 1 1)=M2∧iy T tb p0 L M2 (i::op)∧∀k∈op,M2[k]? =M[k]? :=⟨_,rfl,by rw[←hM1,List.set_set];exact hok.open_ hq 1,fun k hk=>by rw[←hM1,List.set_set,List.getElem?_set,if_neg (fun e=>hni (by rw[e];exact hk))]⟩
   have hq2:M2[i]? =some (q.mark 1 (eV O.ay [])):=by rw[←hM2,aW hq1];unfold eV;rw[if_pos harc]
   rw[hM2]
   clear hM2 hq1 hl1 hM1 harc hc
   refine aj<|ab (.a 1 I<|.k [0,1,5] I)<|av<|eR [0,1,5] I<|bu (fun r st=>∃(k:Nat) (M':List Sq) (cs:List Int),k≤js.length∧r=js.length - k∧M'[i]? =some (q.mark 1 (eV O.ay cs))∧cs.length=k∧iy T tb p0 L M' (i::op)∧(∀k∈op,M'[k]? =M[k]?)∧(∀z,z<k→Cn T tb p0 (aS T (O.ay.getD z 0).toNat).toNat O.eu.stack (cs.getD z 0))∧st=⟨[(0,.ptr 0 0),(1,num i),(5,num k)],GV T p0 tbs j rest M'⟩) js.length ⟨0,M2,[],by omega,by omega,hq2,rfl,hok2,hfr2,fun z hz=>absurd hz (by omega),rfl⟩ ?_
   clear hq2 hok2 hfr2 M2
   rintro r st ⟨k,M',cs,hk,rfl,hqi,hlc,hok',hfr,hcn,rfl⟩
   have hMl':=hok'.1
   refine aj<|ab (.a 4 I<|.v (aR (i:=0) (k:=4) (p:=.own (j+1)) I (aZ.tk.get I) I I I) I<|.a 1 I<|.v (b7 (i:=(i:Int)) I (aZ.el.get I) I (cM hj) I (by omega) (by omega) I) I<|.a 1 I<|.v (aR I (aZ.tk.get I) I (cM hj) (ei (v:=aw js) 8 hqi (by omega) (by rw[←hqx];rfl))) I<|.a 2 I<|.k [0,1,5,59] I)<|ag I (fun hc=>?_) (fun hc=>?_)
   ·have hlt:k<js.length:=by have:=tt hc;omega
    obtain⟨a,ha⟩:∃a,O.ay[k]? =some a:=⟨_,List.getElem?_eq_getElem (by omega)⟩
    have had:O.ay.getD k 0=a:=by rw[List.getD_eq_getElem?_getD,ha];rfl
    obtain⟨jm,g1,q2,hq2,hn2,hs2⟩:=hjs k a ha
    obtain⟨b,m2,hab,hb,hm2,u',hu',hΦ'⟩:∃b m2:Nat,a=(b:Int)∧b<2*T.ae.length∧aS T b=(m2:Int)∧∃u',u'<u∧Φ u' m2 O.eu.stack:=by
     rcases hbr with h|⟨_,_,h⟩
     ·rw[h]at ha;simp at ha
     ·exact h _ (List.mem_of_getElem? ha)
    have hhead:aS T a.toNat=(m2:Int):=by rw[hab,Int.toNat_natCast];exact hm2
    have hn3:q2.n=m2:=by rw[hn2,hhead,Int.toNat_natCast]
    have hΦ2:Φ u' q2.n q2.s:=by rw[hn3,hs2];exact hΦ'
    have hop':∀k∈i::op,∃qk,L[k]? =some qk∧CV T tb p0 qk.n qk.s q2.n q2.s:=fun z hz=>by
     have ha':a∈(bJ T tb p0 q.n q.s).ay:=by rw[hOO];exact List.mem_of_getElem? ha
     rw[hn3,hs2,←hOO]
     rcases List.mem_cons.1 hz with rfl|hz
     ·exact⟨q,hq,.one ha' hhead⟩
     ·obtain⟨qk,e1,e2⟩:=hop z hz
      exact⟨qk,e1,.more e2 ha' hhead⟩
    have hjm:=(List.getElem?_eq_some_iff.1 hq2).1
    refine ai<|aj<|av<|ab (.a 3 I<|.v (aR (i:=0) (k:=4) (p:=.own (j+1)) I (aZ.tk.get I) I I I) I<|.a 1 I<|.v (b7 (i:=(i:Int)) I (aZ.el.get I) I (cM hj) I (by omega) (by omega) I) I<|.a 1 I<|.v (aR I (aZ.tk.get I) I (cM hj) (ei (v:=aw js) 8 hqi (by omega) (by rw[←hqx];rfl))) I<|.a 1 I<|.v (aP (k) I) I<|.v (aJ I ((aC js k hlt).trans (show some (num (js.getD k 0))=some (num (jm:Int)) by rw[List.getD_eq_getElem?_getD,g1];rfl))) I<|.a 1 I<|.k [0,1,5,6] I) ?_
    refine aj<|aM<|au 2 I<|cN I I (bU.mono (ih u' hu' jm q2 hq2 hΦ2 (i::op) M' hok' hop') (fun y σ' h=>?_))
    obtain⟨M3,t3,rfl,rfl,hok3,hfr3,hM3,hcn3⟩:=h
    refine au 1 I<|aE [0,1,5,6,76] I ?_
    refine ag I (fun hc=>?_) (fun hc=>?_)
    ·cases hc
    ·have hqi3:M3[i]? =some (q.mark 1 (eV O.ay cs)):=(hfr3 i List.mem_cons_self).trans hqi
     have hMl3:=hok3.1
     have hne:O.ay≠[]:=fun h=>by rw[h]at ha;simp at ha
     have hcb:0≤eV O.ay cs∧eV O.ay cs≤1001:=by
      unfold eV
      rw[if_neg hne]
      refine gX cs 0 (by omega) (by omega) fun z hz=>?_
      obtain⟨y,hy⟩:=List.getElem?_of_mem hz
      have hyl:=(List.getElem?_eq_some_iff.1 hy).1
      have:=(hcn y (by omega)).bound.1
      rwa [List.getD_eq_getElem?_getD,hy]at this
     have hbs:min 1001 (eV O.ay cs+t3)=eV O.ay (cs++[t3]):=by unfold eV;rw[if_neg hne,if_neg hne,nQ];omega
     have hct3:=hcn3.bound
     refine ai<|dJ 25 20 mixed (
      .val [0] I (bh I) I I<|
      .val [77] I (bh I) I I<|
      .val [78] I (bh I) I I<|
      .val [79] I (aR (i:=0) (k:=4) (p:=.own (j+1)) I (aZ.tk.get I) I I I) I I<|
      .val [1] I (bh I) I I<|
      .val [0] I (bh I) I I<|
      .val [82] I (bh I) I I<|
      .val [83] I (bh I) I I<|
      .val [84] I (aR (i:=0) (k:=4) (p:=.own (j+1)) I (aZ.tk.get I) I I I) I I<|
      .val [1] I (bh I) I I<|
      .val [85,86] I (b7 (i:=(i:Int)) I (aZ.el.get I) I (cM hj) I (by omega) (by omega) I) I I<|
      .val [87] I (bh I) I I<|
      .val [88] I (aR I (aZ.tk.get I) I (cM hj) (ei (v:=num (eV O.ay cs)) 11 hqi3 (by omega) I)) I I<|
      .val [0] I (bh I) I I<|
      .val [90] I (bh I) I I<|
      .val [91] I (bh I) I I<|
      .val [92] I (aR (i:=0) (k:=4) (p:=.own (j+1)) I (aZ.tk.get I) I I I) I I<|
      .val [6] I (bh I) I I<|
      .val [93,94] I (b7 (i:=(jm:Int)) I (aZ.el.get I) I (cM hj) I (by omega) (by omega) I) I I<|
      .val [95] I (bh I) I I<|
      .val [96] I (aR I (aZ.tk.get I) I (cM hj) (ei (v:=num t3) 11 hM3 (by omega) I)) I I<|
      .val [89,97] I (aU I) I I<|
      .val [98] I (tr I I I (hbs)) I I<|
      .val [80,81] I (b7 (i:=(i:Int)) I (aZ.el.get I) I (cM hj) I (by omega) (by omega) I) I I<|
      .val [100] I (bh I) I I<|
      .nil) (by kernel_rfl) I I (aY (ks:=[0,1,5,99,101]) I) ?_
     refine bb (cw.to (σ:=GV T p0 tbs j rest M3) (cb I (aZ.tk.get I) I I (cM hj) (oJ 11 hqi3 (by omega))) (σ'':=GV T p0 tbs j rest (M3.set i (q.mark 1 (eV O.ay (cs++[t3]))))) I (pn 11 hqi3 (by omega) I)) I I<|aE [0,1,5] I ?_
     refine aB (.a 1 I<|.v (aU I) I<|.a 1 I<|.k [0,1,5] I) ?_
     refine⟨js.length - (k+1),by omega,k+1,_,cs++[t3],by omega,rfl,aW hqi3,by simp[hlc],?_,fun z hz=>?_,fun z hz=>?_,rfl⟩
     ·have:=hok3.open_ hq (eV O.ay (cs++[t3]))
      refine⟨this.1,fun z x hx=>?_⟩
      obtain⟨c,t,e1,e2⟩:=this.2 z x hx
      refine⟨c,t,e1,?_⟩
      rcases e2 with e2|⟨e2,e3⟩|e2
      ·exact .inl e2
      ·refine .inr (.inl ⟨e2,?_⟩)
       rcases List.mem_cons.1 e3 with e3|e3
       ·rw[e3];exact List.mem_cons_self
       ·exact e3
      ·exact .inr (.inr e2)
     ·rw[List.getElem?_set,if_neg (fun e=>hni (by rw[e];exact hz)),hfr3 z (List.mem_cons_of_mem _ hz)]
      exact hfr z hz
     ·by_cases hzk:z<k
      ·have e1:(cs++[t3]).getD z 0=cs.getD z 0:=by rw[List.getD_eq_getElem?_getD,List.getD_eq_getElem?_getD,List.getElem?_append_left (by omega)]
       rw[e1]
       exact hcn z hzk
      ·obtain rfl:z=k:=by omega
       have e1:(cs++[t3]).getD z 0=t3:=by rw[List.getD_eq_getElem?_getD,dc hlc];rfl
       rw[e1,had,←hn2,←hs2]
       exact hcn3
   ·have hke:k=js.length:=by have:=ff hc;omega
    refine bf<|aM<|au 3 I ?_
    refine bx (aR (i:=0) (k:=4) (p:=.own (j+1)) I (aZ.tk.get I) I I I) I ?_
    refine au 1 I ?_
    refine bx (b7 (i:=(i:Int)) I (aZ.el.get I) I (cM hj) I (by omega) (by omega) I) I ?_
    refine au 1 I ?_
    refine bb (cw.to (σ:=GV T p0 tbs j rest M') (cb I (aZ.tk.get I) I I (cM hj) (oJ 10 hqi (by omega))) (σ'':=GV T p0 tbs j rest (M'.set i (q.mark 2 (eV O.ay cs)))) I (pn 10 hqi (by omega) I)) I I ?_
    refine aE [] I ?_
    refine ab (.a 1 I<|.k [4] I)<|ao ?_
    have hcc:Cn T tb p0 q.n q.s (eV O.ay cs):=by
     have:=Cn.mk (T:=T) (tb:=tb) (p0:=p0) (n:=q.n) (s:=q.s) (cs:=cs) (by rw[hOO];omega) (fun z hz=>by rw[hOO]at hz ⊢;exact hcn z (by omega))
     rwa [hOO]at this
    exact⟨_,az.of I,_,_,rfl,rfl,hok'.shut hq hcc,fun z hz=>by rw[List.getElem?_set,if_neg (fun e=>hni (by rw[e];exact hz))];exact hfr z hz,aW hqi,hcc⟩
  ·have harc:O.ay≠[]:=fun h=>by have:=ff hc;rw[h]at hjl;simp at hjl;subst hjl;simp at this
   obtain⟨M2,hM2,hok2,hfr2⟩:∃M2,M1=M2∧iy T tb p0 L M2 (i::op)∧∀k∈op,M2[k]? =M[k]? :=⟨_,rfl,hM1▸hok.open_ hq 0,fun k hk=>by rw[←hM1,List.getElem?_set,if_neg (fun e=>hni (by rw[e];exact hk))]⟩
   have hq2:M2[i]? =some (q.mark 1 (eV O.ay [])):=by rw[←hM2,hq1];unfold eV;rw[if_neg harc];rfl
   rw[hM2]
   clear hM2 hq1 hl1 hM1 harc hc
   refine ai<|aj<|ab (.a 1 I<|.k [0,1,5] I)<|av<|eR [0,1,5] I<|bu (fun r st=>∃(k:Nat) (M':List Sq) (cs:List Int),k≤js.length∧r=js.length - k∧M'[i]? =some (q.mark 1 (eV O.ay cs))∧cs.length=k∧iy T tb p0 L M' (i::op)∧(∀k∈op,M'[k]? =M[k]?)∧(∀z,z<k→Cn T tb p0 (aS T (O.ay.getD z 0).toNat).toNat O.eu.stack (cs.getD z 0))∧st=⟨[(0,.ptr 0 0),(1,num i),(5,num k)],GV T p0 tbs j rest M'⟩) js.length ⟨0,M2,[],by omega,by omega,hq2,rfl,hok2,hfr2,fun z hz=>absurd hz (by omega),rfl⟩ ?_
   clear hq2 hok2 hfr2 M2
   rintro r st ⟨k,M',cs,hk,rfl,hqi,hlc,hok',hfr,hcn,rfl⟩
   have hMl':=hok'.1
   refine aj<|ab (.a 4 I<|.v (aR (i:=0) (k:=4) (p:=.own (j+1)) I (aZ.tk.get I) I I I) I<|.a 1 I<|.v (b7 (i:=(i:Int)) I (aZ.el.get I) I (cM hj) I (by omega) (by omega) I) I<|.a 1 I<|.v (aR I (aZ.tk.get I) I (cM hj) (ei (v:=aw js) 8 hqi (by omega) (by rw[←hqx];rfl))) I<|.a 2 I<|.k [0,1,5,59] I)<|ag I (fun hc=>?_) (fun hc=>?_)
   ·have hlt:k<js.length:=by have:=tt hc;omega
    obtain⟨a,ha⟩:∃a,O.ay[k]? =some a:=⟨_,List.getElem?_eq_getElem (by omega)⟩
    have had:O.ay.getD k 0=a:=by rw[List.getD_eq_getElem?_getD,ha];rfl
    obtain⟨jm,g1,q2,hq2,hn2,hs2⟩:=hjs k a ha
    obtain⟨b,m2,hab,hb,hm2,u',hu',hΦ'⟩:∃b m2:Nat,a=(b:Int)∧b<2*T.ae.length∧aS T b=(m2:Int)∧∃u',u'<u∧Φ u' m2 O.eu.stack:=by
     rcases hbr with h|⟨_,_,h⟩
     ·rw[h]at ha;simp at ha
     ·exact h _ (List.mem_of_getElem? ha)
    have hhead:aS T a.toNat=(m2:Int):=by rw[hab,Int.toNat_natCast];exact hm2
    have hn3:q2.n=m2:=by rw[hn2,hhead,Int.toNat_natCast]
    have hΦ2:Φ u' q2.n q2.s:=by rw[hn3,hs2];exact hΦ'
    have hop':∀k∈i::op,∃qk,L[k]? =some qk∧CV T tb p0 qk.n qk.s q2.n q2.s:=fun z hz=>by
     have ha':a∈(bJ T tb p0 q.n q.s).ay:=by rw[hOO];exact List.mem_of_getElem? ha
     rw[hn3,hs2,←hOO]
     rcases List.mem_cons.1 hz with rfl|hz
     ·exact⟨q,hq,.one ha' hhead⟩
     ·obtain⟨qk,e1,e2⟩:=hop z hz
      exact⟨qk,e1,.more e2 ha' hhead⟩
    have hjm:=(List.getElem?_eq_some_iff.1 hq2).1
    refine ai<|aj<|av<|ab (.a 3 I<|.v (aR (i:=0) (k:=4) (p:=.own (j+1)) I (aZ.tk.get I) I I I) I<|.a 1 I<|.v (b7 (i:=(i:Int)) I (aZ.el.get I) I (cM hj) I (by omega) (by omega) I) I<|.a 1 I<|.v (aR I (aZ.tk.get I) I (cM hj) (ei (v:=aw js) 8 hqi (by omega) (by rw[←hqx];rfl))) I<|.a 1 I<|.v (aP (k) I) I<|.v (aJ I ((aC js k hlt).trans (show some (num (js.getD k 0))=some (num (jm:Int)) by rw[List.getD_eq_getElem?_getD,g1];rfl))) I<|.a 1 I<|.k [0,1,5,6] I) ?_
    refine aj<|aM<|au 2 I<|cN I I (bU.mono (ih u' hu' jm q2 hq2 hΦ2 (i::op) M' hok' hop') (fun y σ' h=>?_))
    obtain⟨M3,t3,rfl,rfl,hok3,hfr3,hM3,hcn3⟩:=h
    refine au 1 I<|aE [0,1,5,6,76] I ?_
    refine ag I (fun hc=>?_) (fun hc=>?_)
    ·cases hc
    ·have hqi3:M3[i]? =some (q.mark 1 (eV O.ay cs)):=(hfr3 i List.mem_cons_self).trans hqi
     have hMl3:=hok3.1
     have hne:O.ay≠[]:=fun h=>by rw[h]at ha;simp at ha
     have hcb:0≤eV O.ay cs∧eV O.ay cs≤1001:=by
      unfold eV
      rw[if_neg hne]
      refine gX cs 0 (by omega) (by omega) fun z hz=>?_
      obtain⟨y,hy⟩:=List.getElem?_of_mem hz
      have hyl:=(List.getElem?_eq_some_iff.1 hy).1
      have:=(hcn y (by omega)).bound.1
      rwa [List.getD_eq_getElem?_getD,hy]at this
     have hbs:min 1001 (eV O.ay cs+t3)=eV O.ay (cs++[t3]):=by unfold eV;rw[if_neg hne,if_neg hne,nQ];omega
     have hct3:=hcn3.bound
     refine ai<|dJ 25 20 mixed (
      .val [0] I (bh I) I I<|
      .val [77] I (bh I) I I<|
      .val [78] I (bh I) I I<|
      .val [79] I (aR (i:=0) (k:=4) (p:=.own (j+1)) I (aZ.tk.get I) I I I) I I<|
      .val [1] I (bh I) I I<|
      .val [0] I (bh I) I I<|
      .val [82] I (bh I) I I<|
      .val [83] I (bh I) I I<|
      .val [84] I (aR (i:=0) (k:=4) (p:=.own (j+1)) I (aZ.tk.get I) I I I) I I<|
      .val [1] I (bh I) I I<|
      .val [85,86] I (b7 (i:=(i:Int)) I (aZ.el.get I) I (cM hj) I (by omega) (by omega) I) I I<|
      .val [87] I (bh I) I I<|
      .val [88] I (aR I (aZ.tk.get I) I (cM hj) (ei (v:=num (eV O.ay cs)) 11 hqi3 (by omega) I)) I I<|
      .val [0] I (bh I) I I<|
      .val [90] I (bh I) I I<|
      .val [91] I (bh I) I I<|
      .val [92] I (aR (i:=0) (k:=4) (p:=.own (j+1)) I (aZ.tk.get I) I I I) I I<|
      .val [6] I (bh I) I I<|
      .val [93,94] I (b7 (i:=(jm:Int)) I (aZ.el.get I) I (cM hj) I (by omega) (by omega) I) I I<|
      .val [95] I (bh I) I I<|
      .val [96] I (aR I (aZ.tk.get I) I (cM hj) (ei (v:=num t3) 11 hM3 (by omega) I)) I I<|
      .val [89,97] I (aU I) I I<|
      .val [98] I (tr I I I (hbs)) I I<|
      .val [80,81] I (b7 (i:=(i:Int)) I (aZ.el.get I) I (cM hj) I (by omega) (by omega) I) I I<|
      .val [100] I (bh I) I I<|
      .nil) (by kernel_rfl) I I (aY (ks:=[0,1,5,99,101]) I) ?_
     refine bb (cw.to (σ:=GV T p0 tbs j rest M3) (cb I (aZ.tk.get I) I I (cM hj) (oJ 11 hqi3 (by omega))) (σ'':=GV T p0 tbs j rest (M3.set i (q.mark 1 (eV O.ay (cs++[t3]))))) I (pn 11 hqi3 (by omega) I)) I I<|aE [0,1,5] I ?_
     refine aB (.a 1 I<|.v (aU I) I<|.a 1 I<|.k [0,1,5] I) ?_
     refine⟨js.length - (k+1),by omega,k+1,_,cs++[t3],by omega,rfl,aW hqi3,by simp[hlc],?_,fun z hz=>?_,fun z hz=>?_,rfl⟩
     ·have:=hok3.open_ hq (eV O.ay (cs++[t3]))
      refine⟨this.1,fun z x hx=>?_⟩
      obtain⟨c,t,e1,e2⟩:=this.2 z x hx
      refine⟨c,t,e1,?_⟩
      rcases e2 with e2|⟨e2,e3⟩|e2
      ·exact .inl e2
      ·refine .inr (.inl ⟨e2,?_⟩)
       rcases List.mem_cons.1 e3 with e3|e3
       ·rw[e3];exact List.mem_cons_self
       ·exact e3
      ·exact .inr (.inr e2)
     ·rw[List.getElem?_set,if_neg (fun e=>hni (by rw[e];exact hz)),hfr3 z (List.mem_cons_of_mem _ hz)]
      exact hfr z hz
     ·by_cases hzk:z<k
      ·have e1:(cs++[t3]).getD z 0=cs.getD z 0:=by rw[List.getD_eq_getElem?_getD,List.getD_eq_getElem?_getD,List.getElem?_append_left (by omega)]
       rw[e1]
       exact hcn z hzk
      ·obtain rfl:z=k:=by omega
       have e1:(cs++[t3]).getD z 0=t3:=by rw[List.getD_eq_getElem?_getD,dc hlc];rfl
       rw[e1,had,←hn2,←hs2]
       exact hcn3
   ·have hke:k=js.length:=by have:=ff hc;omega
    refine bf<|aM<|au 3 I ?_
    refine bx (aR (i:=0) (k:=4) (p:=.own (j+1)) I (aZ.tk.get I) I I I) I ?_
    refine au 1 I ?_
    refine bx (b7 (i:=(i:Int)) I (aZ.el.get I) I (cM hj) I (by omega) (by omega) I) I ?_
    refine au 1 I ?_
    refine bb (cw.to (σ:=GV T p0 tbs j rest M') (cb I (aZ.tk.get I) I I (cM hj) (oJ 10 hqi (by omega))) (σ'':=GV T p0 tbs j rest (M'.set i (q.mark 2 (eV O.ay cs)))) I (pn 10 hqi (by omega) I)) I I ?_
    refine aE [] I ?_
    refine ab (.a 1 I<|.k [4] I)<|ao ?_
    have hcc:Cn T tb p0 q.n q.s (eV O.ay cs):=by
     have:=Cn.mk (T:=T) (tb:=tb) (p0:=p0) (n:=q.n) (s:=q.s) (cs:=cs) (by rw[hOO];omega) (fun z hz=>by rw[hOO]at hz ⊢;exact hcn z (by omega))
     rwa [hOO]at this
    exact⟨_,az.of I,_,_,rfl,rfl,hok'.shut hq hcc,fun z hz=>by rw[List.getElem?_set,if_neg (fun e=>hni (by rw[e];exact hz))];exact hfr z hz,aW hqi,hcc⟩
end
end
section
open Go.RowKit cE Mem
section
variable {P:Program} {N L:Nat}
end
end
end PW
end Go.Proofs.YtnegbdpggideiaaGreatDoor
