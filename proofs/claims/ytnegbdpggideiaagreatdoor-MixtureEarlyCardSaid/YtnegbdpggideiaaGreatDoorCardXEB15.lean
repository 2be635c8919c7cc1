/- Texts of the proof, part 15. -/
import Derived.Test.YtnegbdpggideiaaGreatDoorCardXEB14
set_option linter.unusedVariables false
set_option linter.unusedSimpArgs false
set_option maxRecDepth 10000
set_option maxHeartbeats 1000000
namespace Go.Proofs.YtnegbdpggideiaaGreatDoor
namespace PW
section
open Go.RowKit cG Mem Net eY
theorem Can.mono{P:Program}{f:FuncId}{ps:List PV}{R R':PV→Prop}(h:Can P f ps R)(hr:∀r,R r→R' r):Can P f ps R':=fun F w vs h1 h2 h3=>(h F w vs h1 h2 h3).mono fun _ _ ⟨v,he,hx,r,hR,hv⟩=>⟨v,he,hx,r,hr r hR,hv⟩
section
variable {T:ak} {tb:Nat→de} {p0:dx}
theorem ze{n m e:Nat}{s s':List bV}{a:Int}{q:List Int}{w:Int}(ho:dj T (tb n) (cV p0 s)=cB (cV p0 s) s' [a])(hm:aS T a.toNat=(m:Int))(h:Br T tb p0 n s q e w):∃q',q=a::q'∧Br T tb p0 m s' q' e w:=by
 cases h with
 |stop h0=>rw[ho]at h0;cases h0
 | @go _ m' _ _ a' p _ ha hm' hr=>
  rw[ho]at ha hr
  have ha:a'∈[a]:=ha
  rw[List.mem_singleton]at ha
  subst ha
  have:m'=m:=by rw[hm']at hm;omega
  subst this
  exact⟨p,rfl,hr⟩
theorem G1{n e:Nat}{s:List bV}{q:List Int}{w:Int}(ho:(dj T (tb n) (cV p0 s)).ax=[])(h:Br T tb p0 n s q e w):q=[]:=by
 cases h with
 |stop _=>rfl
 |go ha _ _=>rw[ho]at ha;cases ha
end
def kJ:List Int:=[1,1,0,0]
def nq:dx:=⟨0,0,1,0,[],0⟩
theorem CD:qU da uM 1=B5.AB da uM 1:=B5.DH kU mG (by kernel_rfl)
theorem Hv:sL da 1 0 kJ 0=Iy:=Fz
theorem H7:sL da 1 0 kJ 1=B5.AB da uM 1:=CD
theorem GF:sL da 1 0 kJ 2=B5.vN da [] 2:=B5.Fc kU mG 2
theorem Gy:sL da 1 0 kJ 3=Iz:=FF
theorem qD:bL da (sL da 1 0 kJ) nq 0 []=cB (cV nq []) [⟨1,3⟩,⟨1,2⟩,⟨1,1⟩] [7]:=by
 unfold bL;rw[Hv];kernel_rfl
theorem qx:bL da (sL da 1 0 kJ) nq 3 [⟨1,3⟩,⟨1,2⟩,⟨1,1⟩]=cB (cV nq [⟨1,3⟩,⟨1,2⟩,⟨1,1⟩]) [⟨1,2⟩,⟨1,1⟩] [5]:=by
 unfold bL;rw[Gy];kernel_rfl
theorem qH:bL da (sL da 1 0 kJ) nq 2 [⟨1,2⟩,⟨1,1⟩]=cB (cV nq [⟨1,2⟩,⟨1,1⟩]) [⟨1,1⟩] [3]:=by
 unfold bL;rw[GF];kernel_rfl
theorem qp:(bL da (sL da 1 0 kJ) nq 1 [⟨1,1⟩]).ax=[]∧(bL da (sL da 1 0 kJ) nq 1 [⟨1,1⟩]).cS= -1:=by
 unfold bL;rw[H7];exact⟨by kernel_rfl,by kernel_rfl⟩
def EJ(u n:Nat)(s:List bV):Prop:=(u=3∧n=0∧s=[])∨(u=2∧n=3∧s=[⟨1,3⟩,⟨1,2⟩,⟨1,1⟩])∨(u=1∧n=2∧s=[⟨1,2⟩,⟨1,1⟩])∨(u=0∧n=1∧s=[⟨1,1⟩])
theorem Cg:Lone da (sL da 1 0 kJ) nq EJ:=by
 refine⟨⟨?_,?_,?_⟩,?_,?_⟩
 ·rintro u n s (⟨_,rfl,_⟩|⟨_,rfl,_⟩|⟨_,rfl,_⟩|⟨_,rfl,_⟩)<;>decide
 ·rintro u n s (⟨_,_,rfl⟩|⟨_,_,rfl⟩|⟨_,_,rfl⟩|⟨_,_,rfl⟩)<;>exact⟨by unfold ij;decide,by decide⟩
 ·rintro u n s (⟨rfl,rfl,rfl⟩|⟨rfl,rfl,rfl⟩|⟨rfl,rfl,rfl⟩|⟨rfl,rfl,rfl⟩)
  ·rw[qD]
   exact .inr ⟨by simp[cB],rfl,fun a ha=>by
    have ha:a∈[(7:Int)]:=ha
    rw[List.mem_singleton]at ha
    subst ha
    exact⟨7,3,rfl,by decide,by kernel_rfl,2,by omega,.inr (.inl ⟨rfl,rfl,rfl⟩)⟩⟩
  ·rw[qx]
   exact .inr ⟨by simp[cB],rfl,fun a ha=>by
    have ha:a∈[(5:Int)]:=ha
    rw[List.mem_singleton]at ha
    subst ha
    exact⟨5,2,rfl,by decide,by kernel_rfl,1,by omega,.inr (.inr (.inl ⟨rfl,rfl,rfl⟩))⟩⟩
  ·rw[qH]
   exact .inr ⟨by simp[cB],rfl,fun a ha=>by
    have ha:a∈[(3:Int)]:=ha
    rw[List.mem_singleton]at ha
    subst ha
    exact⟨3,1,rfl,by decide,by kernel_rfl,0,by omega,.inr (.inr (.inr ⟨rfl,rfl,rfl⟩))⟩⟩
  ·exact .inl qp.1
 ·rintro u n s (⟨_,rfl,rfl⟩|⟨_,rfl,rfl⟩|⟨_,rfl,rfl⟩|⟨_,rfl,rfl⟩)
  ·rw[qD];simp[cB]
  ·rw[qx];simp[cB]
  ·rw[qH];simp[cB]
  ·rw[qp.1];simp
 ·rintro u n s (⟨_,rfl,rfl⟩|⟨_,rfl,rfl⟩|⟨_,rfl,rfl⟩|⟨_,rfl,rfl⟩) ha
  ·rw[qD]at ha;cases ha
  ·rw[qx]at ha;cases ha
  ·rw[qH]at ha;cases ha
  ·exact qp.2
theorem Dq{q:List Int}{e:Nat}{w:Int}(h:Br da (sL da 1 0 kJ) nq 0 [] q e w):q=[7,5,3]:=by
 obtain⟨q1,rfl,h1⟩:=ze (m:=3) qD (by kernel_rfl) h
 obtain⟨q2,rfl,h2⟩:=ze (m:=2) qx (by kernel_rfl) h1
 obtain⟨q3,rfl,h3⟩:=ze (m:=1) qH (by kernel_rfl) h2
 rw[G1 qp.1 h3]
theorem CJ:Can Tryz.prog 33 [aP da,ca 1 0,av kJ,num 0,num 1] (· = .tuple [av [7,5,3],num 0]):=by
 have h:=CH (T:=da) (k:=1) (x:=0) (l:=kJ) (s:=0) (d:=1) (Φ:=EJ) (by decide) (by kernel_rfl) (by decide) (by decide) Cg (U:=[(0,[]),(3,[⟨1,3⟩,⟨1,2⟩,⟨1,1⟩]),(2,[⟨1,2⟩,⟨1,1⟩]),(1,[⟨1,1⟩])])
  (by rintro u n s (⟨_,rfl,rfl⟩|⟨_,rfl,rfl⟩|⟨_,rfl,rfl⟩|⟨_,rfl,rfl⟩)<;>simp) (by decide) (u:=3) (.inl ⟨rfl,rfl,rfl⟩) (by decide)
 exact Can.mono h fun r ⟨q,e,hb,_,hr⟩=>by rw[Dq hb]at hr;exact hr
theorem jc:Can Tryz.prog 78 [] (· =aP da):=by
 refine aH Tryz.func78 I Tryz.ntmps78 I<|aO<|aw 1 I<|aE [0] I ?_
 refine aO<|aw 3 I<|aE [0,1] I ?_
 refine cz 1 2 127 7 I I ?_
 refine aj<|ab (.a 1 I<|.k [0,1,4] I)<|au<|eH [0,1,4] I<|bq (fun r s=>∃k,k≤4∧r=4 - k∧s=⟨[(0,.ptr 0 0),(1,.ptr 1 0),(4,num k)],[some (.cells 25 [num 0,.raw (.slice none 0 0),.raw (.slice none 0 0)]),some (.cells 25 [num 4,.raw (.slice none 0 0),.own 2]),some (.row 127 7 k (iH (tj k)))]⟩) 4 ⟨0,by omega,by omega,rfl⟩ ?_
 rintro r s ⟨k,hk,rfl,rfl⟩
 refine ab (.a 1 I<|.k [0,1,4,5] I)<|aj<|ag I (fun hc=>?_) (fun hc=>?_)
 ·have hlt:k<4:=by have:=of_decide_eq_true hc;omega
  refine ai<|aj<|au<|ab (.a 2 I<|.k [0,1,2,4] I)<|bI<|aw 4 I<|bw (aU I) I<|bw (uH I I I (by decide) ((show((k:Int)+1).tmod 4=(((k+1) % 4:Nat):Int) by rw[Int.tmod_eq_emod_of_nonneg (by omega)];omega))) I<|bw (Fk I (show Tryz.prog.built 125 [(0,.int .i64 1),(1,.int .i64 1)]=some #[.int .i64 1,.int .i64 1] by kernel_rfl)) I<|aw 2 I<|b7 (bh I (ba.rk.get I) I I I I (by unfold maxLen;omega)) I<|aw 2 I ?_
  refine eR [0,1,3] (.c 0<|.c 1<|.c 4<|.nil) (.kept rfl (.cells (aI.c<|aI.c<|aI.c<|aI.nil))<|.kept rfl (.cells (aI.c<|aI.c<|aI.c<|aI.nil))<|.kept rfl (.fF rfl (show _=iH (tj (k+1)) by rw[yM];exact yE _ ⟨(k:Int),(((k+1) % 4:Nat):Int),1,1,0,1,0⟩))<|.nil) I I (bp ?_)
  refine aC (.v (aU I) I<|.a 1 I<|.k [0,1,4] I) ?_
  exact⟨4 - (k+1),by omega,k+1,by omega,rfl,rfl⟩
 ·have hke:k=4:=by have:=of_decide_eq_false hc;omega
  subst hke
  refine bd<|aO<|aw 2 I<|aE [0] I ?_
  exact ao<|⟨_,_,az.of I,ay.gY (ah.cons ay.pure<|ah.cons ay.bM<|ah.cons (ay.fy rfl ah.pure) ah.nil),rfl⟩
def ov(c:vi):Bool:=tooBig c.T||decide ((40:Int)<c.S.length)
theorem xF{c:vi}(h:ov c=false):c.T.nodes≤12∧c.T.ae.length≤16∧c.S.length≤40:=by
 unfold ov at h
 obtain⟨h1,h2⟩:=Bool.or_eq_false_iff.1 h
 have:=Hp h1
 have:=of_decide_eq_false h2
 omega
theorem p9(c:vi):Can Tryz.prog 24 [qj c] (· =flag (ov c)):=by
 obtain⟨q1,h1⟩:∃q,decide ((10:Int)<c.T.nodes)=q:=⟨_,rfl⟩
 obtain⟨q2,h2⟩:∃q,decide ((16:Int)<c.T.ae.length)=q:=⟨_,rfl⟩
 obtain⟨q3,h3⟩:∃q,decide ((40:Int)<c.S.length)=q:=⟨_,rfl⟩
 have he:ov c=((q1||q2)||q3):=by unfold ov tooBig;rw[h1,h2,h3]
 rw[he]
 refine aH Tryz.func24 I Tryz.ntmps24 I<|ab (.a 2 I<|.k [1] I)<|bz 2 (.raw (.bool ((q1||q2)||q3))) [] I ?_ ?_
 ·refine .a 3 I<|.v (cf I (h1)) I<|.a 1 I<|?_
  cases q1
  ·refine .a 4 I<|.v (cf I (h2)) I<|.a 2 I<|?_
   cases q2
   ·exact .a 3 I<|.v (cf I (h3)) I<|.a 2 I<|.k [2] I
   ·exact .a 6 I<|.k [2] I
  ·exact .a 13 I<|.k [2] I
 exact ao<|⟨_,_,az.of I,ay.pure,rfl⟩
theorem GH:Can Tryz.prog 25 [aP da,ca 1 0,av [2,2,3,2]] (· =flag true):=by
 have h:=mP da 1 0 [2,2,3,2] (by decide)
 rw[show fS da 1 0 [2,2,3,2]=true by kernel_rfl]at h
 exact h
theorem HR:Can Tryz.prog 25 [aP da,ca 1 0,av [0,1,0,0]] (· =flag false):=by
 have h:=mP da 1 0 [0,1,0,0] (by decide)
 rw[show fS da 1 0 [0,1,0,0]=false by kernel_rfl]at h
 exact h
theorem Gu:Can Tryz.prog 25 [aP da,ca 1 0,av [1,1,3,2]] (· =flag false):=by
 have h:=mP da 1 0 [1,1,3,2] (by decide)
 rw[show fS da 1 0 [1,1,3,2]=false by kernel_rfl]at h
 exact h
theorem jQ:Can Tryz.prog 23 [] (· =flag true):=by
 refine aH Tryz.func23 I Tryz.ntmps23 I<|ab (.a 1 I<|.k [] I)<|aO<|aw 3 I<|aE [1] I ?_
 refine fP 1 0 0 I I ?_
 refine dI [] (.cons 1 I (Ren.pure (p:=.bb (cC 1 0) 0)) .nil) .nil rfl rfl ?_
 refine ep mixed (by kernel_rfl) (.v [] (dU I (jc)) I I<|.a 2 I<|.v [6,7,8] (dU I (CJ)) I I<|.a 5 I<|.k [1,2,3] I) ?_
 refine iJ mixed (by kernel_rfl) 0 (.raw (.bool (true))) [] I ?_ ?_
 ·exact .a 5 I<|.v [15,16] (dU I (C7 [7,5,3])) I I<|.a 2 I<|.v [] (dU I (jc)) I I<|.a 2 I<|.v [20,21,22] (dU I (GH)) I I<|.a 2 I<|.v [] (dU I (jc)) I I<|.a 2 I<|.v [26,27,28] (dU I (HR)) I I<|.a 3 I<|.v [] (dU I (jc)) I I<|.a 2 I<|.v [33,34,35] (dU I (Gu)) I I<|.a 3 I<|.k [0] I
 exact ao<|⟨_,_,az.of I,ay.pure (p:=flag true),rfl⟩
theorem kH(k x n:Int):Can Tryz.prog 81 [ca k x,num n] (· =flag (oY k x n)):=by
 obtain⟨q1,hq1⟩:∃q,decide (k=2)=q:=⟨_,rfl⟩
 obtain⟨q2,hq2⟩:∃q,decide (x=n)=q:=⟨_,rfl⟩
 unfold oY
 rw[hq1,hq2]
 refine aH Tryz.func81 I Tryz.ntmps81 I<|ab (.a 2 I<|.k [1,2] I)<|bz 4 (.raw (.bool (q1&&q2))) [] I ?_ ?_
 ·refine .a 2 I<|.v (cf I (hq1)) I<|.a 1 I<|?_
  cases q1
  ·exact .a 6 I<|.k [4] I
  ·exact .a 3 I<|.v (cf I (hq2)) I<|.a 2 I<|.k [4] I
 exact ao<|⟨_,_,az.of I,ay.pure,rfl⟩
theorem Hn(T:ak)(k x:Int)(n:Nat):decide (((cQ (aF T k x) (bP T n)).length:Int)>0)=ql T k x n:=by
 unfold ql
 cases h:(List.range (2*T.ae.length)).any fun a=>aQ (aF T k x) a&&decide (bm T a=(n:Int))with
 |true=>
  obtain⟨a,h1,h2⟩:=List.any_eq_true.1 h
  obtain⟨h3,h4⟩:=Bool.and_eq_true_iff.1 h2
  have h1:=List.mem_range.1 h1
  have hm:(a:Int)∈cQ (aF T k x) (bP T n):=by
   refine List.mem_filter.2 ⟨jB.2 ⟨by rw[cW];omega,by rw[Int.toNat_natCast];exact of_decide_eq_true h4⟩,by rw[Int.toNat_natCast];exact h3⟩
  have:=List.length_pos_of_mem hm
  exact decide_eq_true (by omega)
 |false=>
  refine decide_eq_false fun hp=>?_
  obtain⟨a,ha⟩:=List.exists_mem_of_length_pos (show 0<(cQ (aF T k x) (bP T n)).length by omega)
  obtain⟨h1,h2⟩:=List.mem_filter.1 ha
  obtain⟨h3,h4⟩:=jB.1 h1
  obtain⟨h5,h6⟩:=cW.1 h3
  have:=List.any_eq_false.1 h a.toNat (List.mem_range.2 (by omega))
  rw[h2,decide_eq_true h4]at this
  exact this rfl
theorem C4(T:ak)(k x:Int)(n:Nat)(hvc:(aq T&&cj T k x)=true):Can Tryz.prog 64 [aP T,ca k x,num n] (· =flag (!oY k x n&&ql T k x n)):=by
 obtain⟨g,hg⟩:∃g,oY k x n=g:=⟨_,rfl⟩
 obtain⟨c,hc'⟩:∃c,ql T k x n=c:=⟨_,rfl⟩
 have hcd:=(Hn T k x n).trans hc'
 rw[hg,hc']
 refine aH Tryz.func64 I Tryz.ntmps64 I<|ab (.a 3 I<|.k [2,3,4] I)<|ab (.a 3 I<|.c rfl (BL T k x n hvc) I<|.a 5 I<|.k [2,4,7] I)<|bz 6 (.raw (.bool (!g &&c))) [] I ?_ ?_
 ·refine .a 2 I<|.c rfl (hg▸kH k x n) I<|.a 2 I<|?_
  cases g
  ·exact .a 2 I<|.v (cf I (hcd)) I<|.a 2 I<|.k [6] I
  ·exact .a 5 I<|.k [6] I
 exact ao<|⟨_,_,az.of I,ay.pure,rfl⟩
set_option maxHeartbeats 4000000 in
theorem BC(T:ak)(k x:Int)(l:List Int)(hl:l.length≤1000):Can Tryz.prog 26 [aP T,ca k x,av l] (· =flag (fS T k x l)):=by
  obtain⟨q1,hq1⟩:∃q,(aq T&&cj T k x)=q:=⟨_,rfl⟩
  obtain⟨q2,hq2⟩:∃q,decide ((l.length:Int)≠T.nodes)=q:=⟨_,rfl⟩
  refine aH Tryz.func26 I Tryz.ntmps26 I<|ab (.a 3 I<|.k [2,3,4] I)<|aj<|bz 21 (.raw (.bool (!q1 ||q2))) [2,3,4] I ?_ ?_
  · refine .a 2 I<|.c rfl (hq1▸gJ T k x) I<|.a 2 I<|?_
    cases q1
    · exact .a 6 I<|.k [21,2,3,4] I
    · exact .a 3 I<|.v (aJ I (rfl)) I<|.v (cf I (hq2)) I<|.a 1 I<|.k [21,2,3,4] I
  refine ag I (fun hc=>?_) (fun hc=>?_)
  · have hno:fS T k x l=false:=by
      unfold fS
      rw[hq1,if_neg]
      intro h
      obtain⟨h1,h2⟩:=Bool.and_eq_true_iff.1 h
      rw[h1,←hq2]at hc
      have h2:=of_decide_eq_true h2
      simp[h2]at hc
    exact ab (.a 1 I<|.k [6] I)<|ao<|⟨_,_,az.of I,ay.pure,by rw[hno];rfl⟩
  · obtain ⟨h1, rfl⟩ := Bool.or_eq_false_iff.1 hc
    have h1:q1=true:=by simpa using h1
    subst h1
    have hln:(l.length:Int)=T.nodes:=by have:=ff hq2;simpa using this
    have hP:fS T k x l=(dW k x (fun n=>qI (fq l n)) l.length&&(dW k x (fun n=>sP (ql T k x n) (fq l n)) l.length||dW k x (fun n=>nN (fq l n)) l.length)):=by
      unfold fS
      rw[if_pos (by rw[hq1,decide_eq_true hln];rfl)]
    refine ai<|ab (.a 2 I<|.k [2,3,4,7,8] I)<|aj<|ab (.a 1 I<|.k [2,3,4,7,8,9] I)<|au<|eH [2,3,4,7,8,9] I<|bq (fun r st=>∃i,i≤l.length∧dW k x (fun n=>qI (fq l n)) i=true∧r=l.length - i∧st=⟨[(2,av l),(3,.bb (bC T) 0),(4,.bb (cC k x) 0),(7,flag (dW k x (fun n=>sP (ql T k x n) (fq l n)) i)),(8,flag (dW k x (fun n=>nN (fq l n)) i)),(9,num i)],[]⟩) l.length ⟨0,by omega,rfl,by omega,rfl⟩ ?_
    rintro r st ⟨i,hi,hO0,rfl,rfl⟩
    have hE:=ic k x (fun n=>sP (ql T k x n) (fq l n)) i
    have hL:=ic k x (fun n=>nN (fq l n)) i
    have hO:=ic k x (fun n=>qI (fq l n)) i
    obtain⟨eb,heb⟩:∃b,dW k x (fun n=>sP (ql T k x n) (fq l n)) i=b:=⟨_,rfl⟩
    obtain⟨lb,hlb⟩:∃b,dW k x (fun n=>nN (fq l n)) i=b:=⟨_,rfl⟩
    rw[heb]at hE ⊢
    rw[hlb]at hL ⊢
    rw[hO0]at hO
    refine aj<|ab (.a 4 I<|.k [2,3,4,7,8,9,25] I)<|ag I (fun hc=>?_) (fun hc=>?_)
    · have hlt:i<l.length:=by have:=tt hc;omega
      obtain⟨g,hg⟩:∃g,oY k x i=g:=⟨_,rfl⟩
      obtain⟨c,hcb⟩:∃c,ql T k x i=c:=⟨_,rfl⟩
      obtain⟨s,hs⟩:∃s,fq l i=s:=⟨_,rfl⟩
      have hsl:l.getD i 0=s:=hs
      simp only[hg,hcb,hs]at hE hL hO
      refine ai<|aj<|au<|ab (.a 2 I<|.v (aN (i) I) I<|.v (aJ I ((aB l i hlt).trans (by rw[hsl]))) I<|.a 1 I<|.k [2,3,4,7,8,9,10] I)<|aj<|ab (.a 2 I<|.c rfl (hg▸kH k x i) I<|.k [2,3,4,7,8,9,10,34] I)<|ag I (fun hc=>?_) (fun hc=>?_)
      · rw[hc,Bool.true_or,Bool.and_true]at hE hL hO
        refine ln (aY (ks:=[2,3,4,7,8,9]) I) ?_
        refine bd<|aC (.a 1 I<|.v (aU I) I<|.a 1 I<|.k [2,3,4,7,8,9] I) ?_
        exact⟨l.length - (i+1),by omega,i+1,by omega,hO,rfl,by rw[hE,hL];rfl⟩
      · have hg0:oY k x i=false:=hg.trans hc
        rw[hc,Bool.false_or]at hE hL hO
        have hco:=C4 T k x i hq1
        rw[hg0,hcb,Bool.not_false,Bool.true_and]at hco
        obtain⟨p0,hp0⟩:∃q,decide (s<0)=q:=⟨_,rfl⟩
        obtain⟨p4,hp4⟩:∃q,decide (s>3)=q:=⟨_,rfl⟩
        obtain⟨n0,hn0⟩:∃q,decide (s≠0)=q:=⟨_,rfl⟩
        obtain⟨n1,hn1⟩:∃q,decide (s≠1)=q:=⟨_,rfl⟩
        obtain⟨n3,hn3⟩:∃q,decide (s≠3)=q:=⟨_,rfl⟩
        obtain⟨e2,he2⟩:∃q,decide (s=2)=q:=⟨_,rfl⟩
        obtain⟨e3,he3⟩:∃q,decide (s=3)=q:=⟨_,rfl⟩
        have hok:qI s=(!p0 && !p4):=by
          unfold qI
          rw[←hp0,←hp4]
          by_cases h1:0≤s<;>by_cases h2:s≤3<;>simp[h1,h2]<;>omega
        have her:sP c s=(n3&&(n0|| !c)&&(n1||c)):=by
          unfold sP
          rw[←hn3,←hn0,←hn1]
          simp
        have hla:nN s=(e2||e3):=by unfold nN;rw[he2,he3]
        rw[her]at hE
        rw[hla]at hL
        rw[hok]at hO
        refine ai<|aj<|bz 40 (.raw (.bool (p0||p4))) [2,3,4,7,8,9,10] I ?_ ?_
        · refine .a 1 I<|.v (cf I (hp0)) I<|.a 1 I<|?_
          cases p0
          · exact .a 1 I<|.v (cf I (hp4)) I<|.a 1 I<|.k [40,2,3,4,7,8,9,10] I
          · exact .a 3 I<|.k [40,2,3,4,7,8,9,10] I
        refine ag I (fun hc=>?_) (fun hc=>?_)
        · have hbad:dW k x (fun n=>qI (fq l n)) l.length=false:=by
            refine rW hlt hg0 ?_
            show qI (fq l i)=false
            rw[hs,hok]
            cases p0<;>cases p4<;>simp_all
          exact ab (.a 1 I<|.k [6] I)<|ao<|⟨_,_,az.of I,ay.pure,by rw[hP,hbad];rfl⟩
        · have hO1:dW k x (fun n=>qI (fq l n)) (i+1)=true:=by
            rw[hO]
            cases p0<;>cases p4<;>simp_all
          clear hO
          have hO:=hO1
          refine ai<|bz 7 (.raw (.bool (eb&&(n3&&(n0|| !c)&&(n1||c))))) [2,3,4,8,9,10] I ?_ ?_
          · refine .a 2 I<|?_
            cases eb
            · exact .a 25 I<|.k [7,2,3,4,8,9,10] I
            · refine .a 1 I<|.v (cf I (hn3)) I<|.a 2 I<|?_
              cases n3
              · exact .a 21 I<|.k [7,2,3,4,8,9,10] I
              · refine .a 1 I<|.v (cf I (hn0)) I<|.a 1 I<|?_
                cases n0
                · refine .a 3 I<|.c rfl (hco) I<|.a 4 I<|?_
                  cases c
                  · refine .a 1 I<|.v (cf I (hn1)) I<|.a 1 I<|?_
                    cases n1
                    · exact .a 3 I<|.c rfl (hco) I<|.a 3 I<|.k [7,2,3,4,8,9,10] I
                    · exact .a 7 I<|.k [7,2,3,4,8,9,10] I
                  · exact .a 10 I<|.k [7,2,3,4,8,9,10] I
                · refine .a 9 I<|.v (cf I (hn1)) I<|.a 1 I<|?_
                  cases n1
                  · exact .a 3 I<|.c rfl (hco) I<|.a 3 I<|.k [7,2,3,4,8,9,10] I
                  · exact .a 7 I<|.k [7,2,3,4,8,9,10] I
          refine sd 8 (.raw (.bool (lb&&(e2||e3)))) [2,3,4,7,9] I ?_ ?_
          · refine .a 2 I<|?_
            cases lb
            · exact .a 8 I<|.k [8,2,3,4,7,9] I
            · refine .a 1 I<|.v (cf I (he2)) I<|.a 1 I<|?_
              cases e2
              · exact .a 1 I<|.v (cf I (he3)) I<|.a 3 I<|.k [8,2,3,4,7,9] I
              · exact .a 5 I<|.k [8,2,3,4,7,9] I
          refine aC (.a 1 I<|.v (aU I) I<|.a 1 I<|.k [2,3,4,7,8,9] I) ?_
          exact⟨l.length - (i+1),by omega,i+1,by omega,hO,rfl,by rw[hE,hL];rfl⟩
    · have hie:i=l.length:=by have:=ff hc;omega
      subst hie
      refine bd<|bz 6 (.raw (.bool (eb||lb))) [] I ?_ ?_
      · refine .a 2 I<|?_
        cases eb
        · exact .a 3 I<|.k [6] I
        · exact .a 3 I<|.k [6] I
      exact ao<|⟨_,_,az.of I,ay.pure,by rw[hP,hO0,heb,hlb];rfl⟩
noncomputable def Ld(T:ak)(D:List Bool)(g:Int)(d n:Nat):Bool:= !((decide ((n:Int)≠g)&&decide (0≤dN T [] d n))&&decide (dN T D d n<0))
noncomputable def sD(T:ak)(D:List Bool)(g:Int)(d m:Nat):Bool:=(List.range m).all (Ld T D g d)
noncomputable def qZ(T:ak)(D:List Bool)(g d:Int):Bool:=(decide (cD T [] [d]=0)&&decide (cD T D [d]=0))&&sD T D g d.toNat T.nodes.toNat
theorem BK(T:ak)(D:List Bool)(g:Int)(d m:Nat):sD T D g d (m+1)=(sD T D g d m&&Ld T D g d m):=by simp[sD,List.range_succ]
theorem Cv(T:ak)(D:List Bool)(g d:Int):Can Tryz.prog 86 [aP T,bn D,num g,num d] (· =flag (qZ T D g d)):=by
 obtain⟨q1,hq1⟩:∃q,decide (cD T [] [d]≠0)=q:=⟨_,rfl⟩
 obtain⟨q2,hq2⟩:∃q,decide (cD T D [d]≠0)=q:=⟨_,rfl⟩
 have hE:qZ T D g d=(!(q1||q2)&&sD T D g d.toNat T.nodes.toNat):=by
  unfold qZ
  rw[←hq1,←hq2]
  by_cases h1:cD T [] [d]=0<;>by_cases h2:cD T D [d]=0<;>simp[h1,h2]
 have hA:=mR T [] d
 have hB:=mR T D d
 unfold dY at hA hB
 rw[hE]
 refine aH Tryz.func86 I Tryz.ntmps86 I<|ab (.a 2 I<|.k [1,2,3,4] I)<|ab (.a 2 I<|.v (s4 I (ah.cons ay.pure<|ah.cons ay.bM<|ah.cons ay.pure ah.nil) (hA)) I<|.a 5 I<|.k [1,2,3,4,9,10] I)<|ab (.a 3 I<|.c rfl (hB) I<|.a 5 I<|.k [2,4,9,10,11,12] I)<|aj<|bz 32 (.raw (.bool (q1||q2))) [2,4,9,11] I ?_ ?_
 ·refine .a 1 I<|.v (cf I (hq1)) I<|.a 1 I<|?_
  cases q1
  ·exact .a 1 I<|.v (cf I (hq2)) I<|.a 1 I<|.k [32,2,4,9,11] I
  ·exact .a 3 I<|.k [32,2,4,9,11] I
 refine ag I (fun h1=>?_) (fun h1=>?_)
 ·rw[h1]
  exact ab (.a 1 I<|.k [8] I)<|ao<|⟨_,_,az.of I,ay.pure,rfl⟩
 ·obtain⟨h2,h3⟩:=Bool.or_eq_false_iff.1 h1
  have e1:cD T [] [d]=0:=by rw[h2]at hq1;simpa using hq1
  have e2:cD T D [d]=0:=by rw[h3]at hq2;simpa using hq2
  obtain⟨hv,hf,hn⟩:=tU e2
  have hdn:=aT.1 (hn d (by simp))
  obtain⟨y,hy⟩:=Int.eq_ofNat_of_zero_le hdn.1
  subst hy
  rw[Int.toNat_natCast]
  have hdl:(y:Int)<T.nodes:=hdn.2
  obtain⟨ha1,_⟩:=dv (D:=[]) hv (dir:=false) hdl
  obtain⟨hb1,_⟩:=dv (D:=D) hv (dir:=false) hdl
  have hNl:=(aM hv).nodes
  obtain⟨N,hNN⟩:∃N:Nat,T.nodes=(N:Int):=⟨T.nodes.toNat,by omega⟩
  have hNt:T.nodes.toNat=N:=by omega
  rw[if_pos e1,if_pos e2,hNt,h1]
  have hst:∀m,sD T D g y (m+1)=(sD T D g y m&& !((decide ((m:Int)≠g)&&decide (0≤(bG T [] y false).getD m 0))&&decide ((bG T D y false).getD m 0<0))):=fun m=>BK T D g y m
  have hlow:∀m,m<N→sD T D g y (m+1)=false→sD T D g y N=false:=fun m hm h=>mC h (by omega)
  generalize bG T [] y false=A at*
  generalize bG T D y false=B at*
  refine ai<|aj<|ab (.a 1 I<|.k [2,4,9,11,13] I)<|au<|eH [2,4,9,11,13] I<|bq (fun r s=>∃m,m≤N∧r=N - m∧sD T D g y m=true∧s=⟨[(2,num g),(4,.bb (bC T) 0),(9,av A),(11,av B),(13,num m)],[]⟩) N ⟨0,by omega,by omega,rfl,rfl⟩ ?_
  rintro r s ⟨m,hm,rfl,hw,rfl⟩
  refine aj<|ab (.a 2 I<|.v (aJ I ((show some (num T.nodes)=some (num (N:Int)) by rw[hNN]))) I<|.a 1 I<|.k [2,4,9,11,13,36] I)<|ag I (fun h5=>?_) (fun h5=>?_)
  ·have hlt:m<N:=by have:=tt h5;omega
   obtain⟨q3,hq3⟩:∃q,decide ((m:Int)≠g)=q:=⟨_,rfl⟩
   obtain⟨q4,hq4⟩:∃q,decide (0≤A.getD m 0)=q:=⟨_,rfl⟩
   obtain⟨q5,hq5⟩:∃q,decide (B.getD m 0<0)=q:=⟨_,rfl⟩
   have hs:=hst m
   rw[hw,Bool.true_and,hq3,hq4,hq5]at hs
   refine ai<|aj<|au<|bz 55 (.raw (.bool ((q3&&q4)&&q5))) [2,4,9,11,13] I ?_ ?_
   ·refine .a 2 I<|.v (cf I (hq3)) I<|.a 1 I<|?_
    cases q3
    ·exact .a 13 I<|.k [55,2,4,9,11,13] I
    ·refine .a 2 I<|.v (aN (m) I) I<|.v (aJ I (aB A m (by omega))) I<|.v (cf I (hq4)) I<|.a 2 I<|?_
     cases q4
     ·exact .a 6 I<|.k [55,2,4,9,11,13] I
     ·exact .a 2 I<|.v (aN (m) I) I<|.v (aJ I (aB B m (by omega))) I<|.v (cf I (hq5)) I<|.a 1 I<|.k [55,2,4,9,11,13] I
   refine ag I (fun h6=>?_) (fun h6=>?_)
   ·rw[h6]at hs
    exact ab (.a 1 I<|.k [8] I)<|ao<|⟨_,_,az.of I,ay.pure,by rw[hlow m hlt hs];rfl⟩
   ·rw[h6]at hs
    refine ai<|aC (.a 1 I<|.v (aU I) I<|.a 1 I<|.k [2,4,9,11,13] I) ?_
    exact⟨N - (m+1),by omega,m+1,by omega,rfl,hs,rfl⟩
  ·have hme:m=N:=by have:=ff h5;omega
   subst hme
   exact bd<|ab (.a 1 I<|.k [8] I)<|ao<|⟨_,_,az.of I,ay.pure,by rw[hw];rfl⟩
theorem EI{T:ak}{D:List Bool}{g:Int}{d:Nat}(h:qZ T D g d=true){m:Nat}(hm:(m:Int)<T.nodes)(hg:(m:Int)≠g)(h0:0≤dN T [] d m):0≤dN T D d m:=by
 unfold qZ sD at h
 rw[Int.toNat_natCast]at h
 have h2:=List.all_eq_true.1 (Bool.and_eq_true_iff.1 h).2 m (List.mem_range.2 (by omega))
 unfold Ld at h2
 simp only[Bool.not_eq_true',Bool.and_eq_false_iff,decide_eq_false_iff_not]at h2
 omega
noncomputable def qP(T:ak)(k x:Int):List Bool:=if ej T k x=0 then aF T k x else []
def Jf(k x:Int):Int:=if k=2 then x else -1
noncomputable def yQ(c:vi):Bool:= !ov c&&(((fS c.T c.k c.x c.S&& !oY c.k c.x c.n)&& !oY c.k c.x c.d)&&gR c.T (qP c.T c.k c.x) c.n c.d)
noncomputable def uL(c:vi):Bool:=(yQ c&&uD c.T c.k c.x)&&qZ c.T (qP c.T c.k c.x) (Jf c.k c.x) c.d
def Av(c:vi):Bool:=dW c.k c.x (fun n=>nN (fq c.S n)) c.S.length
theorem nx(T:ak)(k x:Int):Can Tryz.prog 32 [aP T,ca k x] (· = .tuple [bn (qP T k x),num (ej T k x)]):=mI T k x
theorem Ci(k x:Int):Can Tryz.prog 87 [ca k x] (· =num (Jf k x)):=by
 obtain⟨q1,hq1⟩:∃q,decide (k=2)=q:=⟨_,rfl⟩
 refine aH Tryz.func87 I Tryz.ntmps87 I<|ab (.a 2 I<|.k [1] I)<|aj<|ab (.a 2 I<|.v (cf I (hq1)) I<|.k [1,5] I)<|ag I (fun h1=>?_) (fun h1=>?_)
 ·have h1:k=2:=by rw[h1]at hq1;exact tt hq1
  exact ab (.a 3 I<|.k [2] I)<|ao<|⟨_,_,az.of I,ay.pure,by unfold Jf;rw[if_pos h1];rfl⟩
 ·have h1:¬k=2:=by rw[h1]at hq1;exact ff hq1
  exact ai<|ab (.a 1 I<|.k [2] I)<|ao<|⟨_,_,az.of I,ay.pure,by unfold Jf;rw[if_neg h1];rfl⟩
theorem xS(c:vi)(hy:ov c=true):Can Tryz.prog 29 [qj c] (· =flag false):=by
 have hla:=p9 c
 rw[hy]at hla
 refine aH Tryz.func29 I Tryz.ntmps29 I<|ab (.a 2 I<|.k [1] I)<|aj<|bz 30 (.raw (.bool (true))) [1] I ?_ ?_
 ·exact .a 1 I<|.c rfl (hla) I<|.a 24 I<|.k [30,1] I
 refine ag I (fun hc=>?_) (fun hc=>?_)
 ·exact ab (.a 1 I<|.k [2] I)<|ao<|⟨_,_,az.of I,ay.pure,rfl⟩
 ·cases hc
theorem xy(c:vi)(hy:ov c=false):Can Tryz.prog 29 [qj c] (· =flag (((fS c.T c.k c.x c.S&& !oY c.k c.x c.n)&& !oY c.k c.x c.d)&&gR c.T (qP c.T c.k c.x) c.n c.d)):=by
 obtain⟨s1,s2,s3⟩:=xF hy
 have hla:=p9 c
 rw[hy]at hla
 have hpm:=BC c.T c.k c.x c.S (by omega)
 have hg1:=kH c.k c.x c.n
 have hg2:=kH c.k c.x c.d
 obtain⟨q1,hq1⟩:∃q,fS c.T c.k c.x c.S=q:=⟨_,rfl⟩
 obtain⟨q2,hq2⟩:∃q,oY c.k c.x c.n=q:=⟨_,rfl⟩
 obtain⟨q3,hq3⟩:∃q,oY c.k c.x c.d=q:=⟨_,rfl⟩
 rw[hq1]at hpm
 rw[hq2]at hg1
 rw[hq3]at hg2
 rw[hq1,hq2,hq3]
 refine aH Tryz.func29 I Tryz.ntmps29 I<|ab (.a 2 I<|.k [1] I)<|aj<|bz 30 (.raw (.bool ((!q1 ||q2)||q3))) [1] I ?_ ?_
 ·refine .a 1 I<|.c rfl (hla) I<|.a 2 I<|.v (eU I (rfl) I) I<|.a 4 I<|.c rfl (hpm) I<|.a 3 I<|?_
  cases q1
  ·exact .a 13 I<|.k [30,1] I
  ·refine .a 4 I<|.c rfl (hg1) I<|.a 2 I<|?_
   cases q2
   ·exact .a 4 I<|.c rfl (hg2) I<|.a 1 I<|.k [30,1] I
   ·exact .a 6 I<|.k [30,1] I
 refine ag I (fun h1=>?_) (fun h1=>?_)
 ·skip
  exact ab (.a 1 I<|.k [2] I)<|ao<|⟨_,_,az.of I,ay.pure,by cases q1<;>cases q2<;>cases q3<;>first|rfl|cases h1⟩
 ·have h2:((q1&& !q2)&& !q3)=true:=by cases q1<;>cases q2<;>cases q3<;>first|rfl|cases h1
  rw[h2]
  exact ai<|ab (.a 1 I<|.v (eU I (rfl) I) I<|.a 2 I<|.c rfl (nx c.T c.k c.x) I<|.a 5 I<|.k [1,3] I)<|ab (.a 1 I<|.v (eU I (rfl) I) I<|.a 5 I<|.c rfl (nJ c.T (qP c.T c.k c.x) c.n c.d) I<|.a 1 I<|.k [2] I)<|ao<|⟨_,_,az.of I,ay.pure,by rw[Bool.true_and];rfl⟩
theorem xt(c:vi):Can Tryz.prog 29 [qj c] (· =flag (yQ c)):=by
 unfold yQ
 cases hy:ov c with
 |true=>exact xS c hy
 |false=>exact xy c hy
theorem rD(c:vi):Can Tryz.prog 31 [qj c] (· =flag (uL c)):=by
 have hpr:=xt c
 have hcv:=EW c.T c.k c.x
 have hsf:=Cv c.T (qP c.T c.k c.x) (Jf c.k c.x) c.d
 unfold uL
 obtain⟨q1,hq1⟩:∃q,yQ c=q:=⟨_,rfl⟩
 obtain⟨q2,hq2⟩:∃q,uD c.T c.k c.x=q:=⟨_,rfl⟩
 obtain⟨q3,hq3⟩:∃q,qZ c.T (qP c.T c.k c.x) (Jf c.k c.x) c.d=q:=⟨_,rfl⟩
 rw[hq1]at hpr
 rw[hq2]at hcv
 rw[hq3]at hsf
 rw[hq1,hq2,hq3]
 refine aH Tryz.func31 I Tryz.ntmps31 I<|ab (.a 2 I<|.k [1] I)<|ab (.a 1 I<|.v (eU I (rfl) I) I<|.a 2 I<|.c rfl (nx c.T c.k c.x) I<|.a 5 I<|.k [1,3] I)<|iJ mixed (by kernel_rfl) 2 (.raw (.bool ((q1&&q2)&&q3))) [] I ?_ ?_
 ·refine .a 1 I<|.v [13] (dU I (hpr)) I I<|.a 1 I<|?_
  cases q1
  ·exact .a 18 I<|.k [2] I
  ·refine .a 1 I<|.v [16] (eU I (rfl) I) I I<|.a 2 I<|.v [17,19] (dU I (hcv)) I I<|.a 2 I<|?_
   cases q2
   ·exact .a 11 I<|.k [2] I
   ·exact .a 1 I<|.v [23] (eU I (rfl) I) I I<|.a 3 I<|.v [27] (dU I (Ci c.k c.x)) I I<|.a 2 I<|.v [24,25,28,30] (dU I (hsf)) I I<|.a 2 I<|.k [2] I
 exact ao<|⟨_,_,az.of I,ay.pure,rfl⟩
theorem CX(c:vi)(hl:c.S.length≤1000):Can Tryz.prog 30 [qj c] (· =flag (Av c)):=by
 obtain⟨S,hS⟩:∃S,c.S=S:=⟨_,rfl⟩
 unfold Av
 rw[hS]at hl ⊢
 refine aH Tryz.func30 I Tryz.ntmps30 I<|ab (.a 2 I<|.k [1] I)<|aj<|ab (.a 1 I<|.v (aJ I ((show some (av c.S)=some (av S) by rw[hS]))) I<|.a 2 I<|.k [1,6,7,8] I)<|au<|eH [1,6,7,8] I<|bq (fun r s=>∃m,m≤S.length∧r=S.length - m∧dW c.k c.x (fun n=>nN (fq S n)) m=true∧s=⟨[(1,.bb (yF c) 0),(6,av S),(7,num S.length),(8,num m)],[]⟩) S.length ⟨0,by omega,by omega,rfl,rfl⟩ ?_
 rintro r s ⟨m,hm,rfl,hw,rfl⟩
 refine ab (.a 1 I<|.k [1,6,7,8,9] I)<|aj<|ag I (fun h1=>?_) (fun h1=>?_)
 ·have hlt:m<S.length:=by have:=tt h1;omega
  have hs:=ic c.k c.x (fun n=>nN (fq S n)) m
  rw[hw,Bool.true_and]at hs
  have hgn:=kH c.k c.x m
  obtain⟨v,hv⟩:∃v,fq S m=v:=⟨_,rfl⟩
  obtain⟨q1,hq1⟩:∃q,oY c.k c.x m=q:=⟨_,rfl⟩
  obtain⟨q2,hq2⟩:∃q,decide (v≠2)=q:=⟨_,rfl⟩
  obtain⟨q3,hq3⟩:∃q,decide (v≠3)=q:=⟨_,rfl⟩
  have hla:nN (fq S m)=(!q2 || !q3):=by
   rw[hv]
   unfold nN
   rw[←hq2,←hq3]
   by_cases e1:v=2<;>by_cases e2:v=3<;>simp[e1,e2]
  rw[hla,hq1]at hs
  rw[hq1]at hgn
  refine ai<|aj<|au<|ab (.a 1 I<|.v (aN (m) I) I<|.v (aJ I ((aB S m hlt).trans (by rw[show S.getD m 0=v from hv]))) I<|.a 2 I<|.k [1,3,4,6,7,8] I)<|bz 25 (.raw (.bool ((!q1 &&q2)&&q3))) [1,6,7,8] I ?_ ?_
  ·refine .a 3 I<|.c rfl (hgn) I<|.a 2 I<|?_
   cases q1
   ·refine .a 1 I<|.v (cf I (hq2)) I<|.a 2 I<|?_
    cases q2
    ·exact .a 3 I<|.k [25,1,6,7,8] I
    ·exact .a 1 I<|.v (cf I (hq3)) I<|.a 1 I<|.k [25,1,6,7,8] I
   ·exact .a 7 I<|.k [25,1,6,7,8] I
  refine ag I (fun h2=>?_) (fun h2=>?_)
  ·have hbad:dW c.k c.x (fun n=>nN (fq S n)) S.length=false:=by
    refine rW hlt (by rw[hq1];cases q1<;>first|rfl|cases h2) ?_
    show nN (fq S m)=false
    rw[hla]
    cases q1<;>cases q2<;>cases q3<;>first|rfl|cases h2
   exact ab (.a 1 I<|.k [2] I)<|ao<|⟨_,_,az.of I,ay.pure,by rw[hbad];rfl⟩
  ·have hs2:dW c.k c.x (fun n=>nN (fq S n)) (m+1)=true:=by rw[hs];cases q1<;>cases q2<;>cases q3<;>first|rfl|cases h2
   refine ai<|aC (.v (aU I) I<|.a 1 I<|.k [1,6,7,8] I) ?_
   exact⟨S.length - (m+1),by omega,m+1,by omega,rfl,hs2,rfl⟩
 ·have hme:m=S.length:=by have:=ff h1;omega
  subst hme
  exact bd<|ab (.a 1 I<|.k [2] I)<|ao<|⟨_,_,az.of I,ay.pure,by rw[hw];rfl⟩
section
variable {T:ak} {tb:Nat→de} {p0:dx} {Φ Ψ:Nat→Nat→List bV→Prop}
end
section
variable {T:ak} {k x:Int} {d:Nat} {st:Nat→Int} {p0:dx}
theorem u6.here{late:Bool}{u n:Nat}{s:List bV}(h:u6 T k x d st p0 late u n s):¬Gn k x n:=by
 rcases h with⟨h,_⟩|⟨q,_,_,_,h,_⟩
 ·exact h.here
 ·exact h.here
end
structure KH (T:ak) (k x:Int) (S:List Int) (s d:Nat) (late:Bool):Prop where
 Ga:T.nodes≤12
 Lk:T.ae.length≤16
 len:(S.length:Int)=T.nodes
 valid:aq T=true
 comp:(aq T&&cj T k x)=true
 Lp:qP T k x=aF T k x
 ok:B4 T k x S=0
 perm:Perm T k x late (fq S)
 src:(s:Int)<T.nodes
 dst:(d:Int)<T.nodes
 reach:gV T (aF T k x) s d=0
 there:¬Gn k x d
 KU:Open T k x d s []
theorem Fw{T:ak}{k x n d:Int}{S:List Int}(h:yQ ⟨T,k,x,S,n,d⟩=true):∃s e:Nat,n=(s:Int)∧d=(e:Int)∧KH T k x S s e (Av ⟨T,k,x,S,n,d⟩):=by
 unfold yQ at h
 simp only[Bool.and_eq_true,Bool.not_eq_true']at h
 obtain⟨h1,⟨⟨h2,h3⟩,h4⟩,h5⟩:=h
 obtain⟨s1,s2,_⟩:=xF h1
 obtain⟨hv,hc,hl,_,late,hpm,hla⟩:=HX h2
 have hvc:(aq T&&cj T k x)=true:=by rw[hv,hc];rfl
 have hm:qP T k x=aF T k x:=by unfold qP ej;rw[if_pos hvc,if_pos rfl]
 rw[hm]at h5
 have h5:=tt h5
 obtain⟨a,b,rfl,rfl,ha,hb,_⟩:=mU h5
 have h6:=h5
 rw[kE hv (du T k x) ha hb]at h6
 refine⟨a,b,rfl,rfl,⟨s1,s2,hl,hv,hvc,hm,?_,?_,ha,hb,h5,nv.1 h4,⟨rfl,ha,nv.1 h3,?_⟩⟩⟩
 ·unfold B4
  rw[hvc,decide_eq_true hl];simp[h2]
 ·rw[hla]at hpm;exact hpm
 ·split at h6
  ·cases h6
  ·omega
theorem EH{T:ak}{k x n:Int}{S:List Int}{d:Nat}(h:uL ⟨T,k,x,S,n,(d:Int)⟩=true)(hm:qP T k x=aF T k x):uD T k x=true∧∀m:Nat,(m:Int)<T.nodes→¬Gn k x m→0≤dN T [] d m→0≤dN T (aF T k x) d m:=by
 unfold uL at h
 simp only[Bool.and_eq_true]at h
 obtain⟨⟨_,h2⟩,h3⟩:=h
 rw[hm]at h3
 refine⟨h2,fun m hml hg h0=>EI h3 hml (fun e=>hg ?_) h0⟩
 unfold Jf at e
 split at e
 ·rename_i hk
  exact⟨hk,e.symm⟩
 ·omega
theorem Ha{c:vi}(h:uL c=true):yQ c=true:=by
 unfold uL at h
 simp only[Bool.and_eq_true]at h
 exact h.1.1
def wz(O:Out):List bV:=if O.cS=0 then O.eo.stack else []
def rC(O:Out):PV:=.tuple [av O.ax,cc (wz O),num O.cS]
theorem fR(p:dx)(c:Int)(h:c≠0):rC (eu p c)= .tuple [av [],cc [],num c]:=by
 unfold rC wz eu
 rw[if_neg h]
theorem lf(p:dx)(s:List bV)(l:List Int):rC (cB p s l)= .tuple [av l,cc s,num 0]:=rfl
set_option maxHeartbeats 2000000 in
theorem uF(T:ak)(x:de)(p:dx)(s:List bV)(K:Out)(hx:cT T x=true)(hs:s.length≤40)(hK:0<s.length→Can Tryz.prog 194 [aP T,fw x,dB p,cc []] (· =rC K)):
    Can Tryz.prog 194 [aP T,fw x,dB p,cc s] (· =rC (dy T x p s K)):=by
  have hv:aq T=true:=by unfold cT at hx;simp only[Bool.and_eq_true]at hx;exact hx.1.1.1.1
  obtain⟨n,hn⟩:∃n,x.node=n:=⟨_,rfl⟩
  have hn0:0≤n:=by unfold cT at hx;simp only[Bool.and_eq_true]at hx;have:=(aT.1 hx.1.1.1.2).1;omega
  obtain⟨R,hRR⟩:∃R,dy T x p s K=R:=⟨_,rfl⟩
  rw[hRR]
  unfold dy at hRR
  obtain⟨c5,hc5⟩:∃q,decide ((s.length:Int)=0)=q:=⟨_,rfl⟩
  obtain⟨c6,hc6⟩:∃q,decide (p.dst=n)=q:=⟨_,rfl⟩
  obtain⟨c7,hc7⟩:∃q,decide (255≤p.dG)=q:=⟨_,rfl⟩
  obtain⟨c8,hc8⟩:∃q,decide (p.dG<0)=q:=⟨_,rfl⟩
  rw[hc5,hn,hc6,hc7,hc8]at hRR
  refine aH Tryz.func194 I Tryz.ntmps194 I<|ab (.a 6 I<|.k [3,4,5,6] I)<|aj<|bz 24 (.raw (.bool (c5&&c6))) [3,4,5,6] I ?_ ?_
  · refine .a 2 I<|.v (cf I (hc5)) I<|.a 1 I<|?_
    cases c5
    · exact .a 6 I<|.k [24,3,4,5,6] I
    · exact .a 1 I<|.v (aJ I ((rfl:(cL p)[2]? =some (num p.dst)))) I<|.a 1 I<|.v (aJ I ((show(eL x)[0]? =some (num n) by rw[←hn];rfl))) I<|.v (cf I (hc6)) I<|.a 1 I<|.k [24,3,4,5,6] I
  refine ag I (fun h1=>?_) (fun h1=>?_)
  · rw[if_pos h1]at hRR
    subst hRR
    exact ab (.a 3 I<|.k [8,9,10] I)<|ao<|⟨_,_,az.of I,ay.aX (ah.cons ay.bM<|ah.cons ay.bM<|ah.cons ay.pure ah.nil),rfl⟩
  · rw [if_neg (by rw [h1]; simp)] at hRR
    refine ai<|aj<|bz 32 (.raw (.bool (c8||c7))) [3,4,5,6] I ?_ ?_
    · refine .a 1 I<|.v (aJ I ((rfl:(cL p)[5]? =some (num p.dG)))) I<|.v (cf I (hc8)) I<|.a 1 I<|?_
      cases c8
      · exact .a 1 I<|.v (aJ I ((rfl:(cL p)[5]? =some (num p.dG)))) I<|.v (cf I (hc7)) I<|.a 1 I<|.k [32,3,4,5,6] I
      · exact .a 4 I<|.k [32,3,4,5,6] I
    refine ag I (fun h2=>?_) (fun h2=>?_)
    · rw[if_pos (by rw[Bool.or_comm];exact h2)]at hRR
      subst hRR
      rw[fR _ _ (by decide)]
      exact ab (.a 3 I<|.k [8,9,10] I)<|ao<|⟨_,_,az.of I,ay.aX (ah.cons ay.bM<|ah.cons ay.bM<|ah.cons ay.pure ah.nil),rfl⟩
    · rw [if_neg (by rw [Bool.or_comm, h2]; simp)] at hRR
      clear hc5 hc6 hc7 hc8 h1 h2
      refine ai ?_
      obtain⟨v,hv0⟩:∃v,p.dst=v:=⟨_,rfl⟩
      refine ab (.a 1 I<|.v (aJ I ((show(cL p)[2]? =some (num v) by rw[←hv0];rfl))) I<|.a 1 I<|.k [3,4,5,6,11] I)<|aj<|ab (.a 3 I<|.k [3,4,5,6,11,37] I)<|ag I (fun h3=>?_) (fun h3=>?_)
      · have hne:0<s.length:=by have:=tt h3;omega
        obtain⟨a,l,hs'⟩:∃a l,s=a::l:=by
          cases s with
          |nil=>exact absurd hne (by simp)
          |cons a l=>exact⟨a,l,rfl⟩
        have h0:s[0]? =some a:=by rw[hs'];rfl
        rw[hs']at hRR
        dsimp only at hRR
        rw[←hs']at hRR
        clear hv0
        obtain⟨v,hv0⟩:∃v,a.num=v:=⟨_,rfl⟩
        obtain⟨kd,hkd⟩:∃v,a.kind=v:=⟨_,rfl⟩
        rw[hv0,hkd]at hRR
        refine aO<|aw 1 I<|bw (aN (0) I (by omega) (by omega)) I<|bw (eU I (gv s 0 a h0) I) I<|aw 2 I<|aE [3,4,5,6,12] I ?_
        rw[hv0,hkd]
        refine ab (.a 2 I<|.k [3,4,5,6,12,42] I)<|au<|ab (.a 2 I<|.k [3,4,5,6,12,42,43] I)<|ag I (fun h4=>?_) (fun h4=>?_)
        · rw[if_neg (by have:=tt h4;omega),if_pos (tt h4)]at hRR
          refine aj<|ep mixed (by kernel_rfl) (.a 3 I<|.v [45,47] (dU I (mB T hv v)) I I<|.a 1 I<|.v [49] (aJ I ((show(eL x)[0]? =some (num n) by rw[←hn];rfl))) I I<|.a 1 I<|.k [3,4,5,6,12,51] I) ?_
          refine ag I (fun h6=>?_) (fun h6=>?_)
          · have h6':(!(eQ T v)||decide (bm T v.toNat≠n))=true:=by
              cases hb:eQ T v with
              |false=>rfl
              |true=>
                have h7:=tt h6
                obtain⟨b1,b2⟩:=cW.1 hb
                unfold nr at h7
                rw[if_pos ⟨b1,b2⟩]at h7
                simp[h7]
            rw[if_pos h6']at hRR
            subst hRR
            rw[fR _ _ (by decide)]
            exact ab (.a 3 I<|.k [8,9,10] I)<|ao<|⟨_,_,az.of I,ay.aX (ah.cons ay.bM<|ah.cons ay.bM<|ah.cons ay.pure ah.nil),rfl⟩
          · have h6':(!(eQ T v)||decide (bm T v.toNat≠n))=false:=by
              have h7:=ff h6
              unfold nr at h7
              by_cases hb:0≤v∧v<2*(T.ae.length:Int)
              · rw[if_pos hb]at h7
                rw[cW.2 hb]
                simp[Decidable.not_not.1 h7]
              · rw[if_neg hb]at h7
                omega
            rw[if_neg (by rw[h6'];simp)]at hRR
            refine ai<|aj<|ab (.a 1 I<|.v (aJ I ((rfl:(eL x)[2]? =some (av x.down)))) I<|.a 2 I<|.c rfl (HO x.down v (by have:=ra hx;omega)) I<|.k [3,4,5,6,12,56] I)<|ag I (fun h7=>?_) (fun h7=>?_)
            · rw[if_pos (tt h7)]at hRR
              subst hRR
              exact ab (.a 3 I<|.v (s4 I (ah.cons ay.pure<|ah.cons ay.pure<|ah.cons ay.pure<|ah.cons ay.bM ah.nil) (hK hne)) I<|.a 6 I<|.k [8,9,10] I)<|ao<|⟨_,_,az.of I,ay.aX (ah.cons (ay.pure (p:=av K.ax))<|ah.cons (ay.pure (p:=cc (wz K)))<|ah.cons ay.pure ah.nil),rfl⟩
            · rw[if_neg (ff h7)]at hRR
              subst hRR
              subst hs'
              refine ai<|ep mixed (by kernel_rfl) (.a 4 I<|.v [67] (gu I (ba.el.get I) I I) I I<|.a 3 I<|.k [8,9,10] I) ?_
              exact ao<|⟨_,_,az.of I,ay.aX (ah.cons (ay.pure (p:=av [v]))<|ah.cons (ay.pure (p:=cc l))<|ah.cons ay.pure ah.nil),rfl⟩
        · have hk2:=ff h4
          refine ab (.a 2 I<|.k [3,4,5,6,12,69] I)<|ag I (fun h8=>?_) (fun h8=>?_)
          · rw[if_pos (tt h8)]at hRR
            obtain⟨K1,hK1,hK1n,hK1p⟩:∃K1,K1=K∧(s.length=0→K1=eu p 1)∧(0<s.length→K1=K):=⟨_,rfl,fun h=>absurd h (by omega),fun h=>rfl⟩
            rw[←hK1]at hRR
            clear hK1 h3 h4 h8 hs' hv0 h0 hk2
            refine aC (.a 3 I<|.k [3,4,5,6,11] I) ?_
            refine aj ?_
            unfold C8 at hRR
            obtain⟨q1,hq1⟩:∃q,decide (v<0)=q:=⟨_,rfl⟩
            obtain⟨q2,hq2⟩:∃q,decide (T.nodes≤v)=q:=⟨_,rfl⟩
            have hnb:bu T v=(!(q1||q2)):=by
              rw[←hq1,←hq2]
              cases hb:bu T v with
              |true=>have:=aT.1 hb;simp;omega
              |false=>
                have h9:¬(0≤v∧v<T.nodes):=fun h=>by rw[aT.2 h]at hb;cases hb
                simp;omega
            have hes:q1=false→q2=false→x.dr[v.toNat]? =some (dh x v)∧(dh x v).push.length≤40∧(dh x v).ax.length≤1000∧v<(x.dr.length:Int)∧0≤v:=fun h h'=>by
              obtain⟨k,rfl,g1,g2,g3⟩:=km hx (hnb.trans (by rw[h,h'];rfl))
              have:=(List.getElem?_eq_some_iff.1 g1).1
              exact⟨g1,g2,g3,by omega,by omega⟩
            obtain⟨e,he⟩:∃e,dh x v=e:=⟨_,rfl⟩
            obtain⟨I7,hc12⟩:∃q,decide ((e.ax.length:Int)=0)=q:=⟨_,rfl⟩
            rw[he]at hes hRR
            refine bz 90 (.raw (.bool ((q1||q2)||I7))) [3,4,5,6,11] I ?_ ?_
            · refine .a 1 I<|.v (cf I (hq1)) I<|.a 1 I<|?_
              cases q1
              · refine .a 3 I<|.v (cf I (hq2)) I<|.a 2 I<|?_
                cases q2
                · exact .a 1 I<|.v (aJ I ((rfl:(eL x)[1]? =some (iv x.dr)))) I<|.a 1 I<|.v (aN ((v.toNat*3)) I (hes rfl rfl).2.2.2.2 (hes rfl rfl).2.2.2.1) I<|.a 1 I<|.v (aJ I ((oO x.dr v.toNat 0 e (hes rfl rfl).1 (by omega)))) I<|.a 1 I<|.v (cf I (hc12)) I<|.a 1 I<|.k [90,3,4,5,6,11] I
                · exact .a 9 I<|.k [90,3,4,5,6,11] I
              · exact .a 15 I<|.k [90,3,4,5,6,11] I
            refine ag I (fun h9=>?_) (fun h9=>?_)
            · rw[if_neg (by rw[hnb];intro h;obtain⟨g1,g2⟩:=Bool.and_eq_true_iff.1 h;have g2:=tt g2;rw[decide_eq_false (by omega)]at hc12;subst hc12;revert h9 g1;cases q1<;>cases q2<;>simp)]at hRR
              refine aj<|ab (.a 3 I<|.k [4,5,6,93] I)<|ag I (fun h11=>?_) (fun h11=>?_)
              · have hne:0<s.length:=by have:=tt h11;omega
                rw[hK1p hne]at hRR
                subst hRR
                exact ab (.a 3 I<|.v (s4 I (ah.cons ay.pure<|ah.cons ay.pure<|ah.cons ay.pure<|ah.cons ay.bM ah.nil) (hK hne)) I<|.a 6 I<|.k [8,9,10] I)<|ao<|⟨_,_,az.of I,ay.aX (ah.cons (ay.pure (p:=av K.ax))<|ah.cons (ay.pure (p:=cc (wz K)))<|ah.cons ay.pure ah.nil),rfl⟩
              · rw[hK1n (by have:=ff h11;omega)]at hRR
                subst hRR
                rw[fR _ _ (by decide)]
                exact ai<|ab (.a 3 I<|.k [8,9,10] I)<|ao<|⟨_,_,az.of I,ay.aX (ah.cons ay.bM<|ah.cons ay.bM<|ah.cons ay.pure ah.nil),rfl⟩
            · obtain⟨h9,h10⟩:=Bool.or_eq_false_iff.1 h9
              obtain⟨rfl,rfl⟩:=Bool.or_eq_false_iff.1 h9
              subst h10
              rw[hnb,if_pos (by have:=ff hc12;simp;omega)]at hRR
              obtain⟨g1,g2,g3,g4,g5⟩:=hes rfl rfl
              subst hRR
              obtain⟨c,hc⟩:∃q,e.rep=q:=⟨_,rfl⟩
              have hE:fA p s e=if c then(if 32<(e.push++s.drop 1).length then eu p 5 else cB p (e.push++s.drop 1) e.ax) else cB p s e.ax:=by unfold fA;rw[hc]
              rw[hE]
              refine ai<|aO<|aw 1 I<|bw (aJ I ((rfl:(eL x)[1]? =some (iv x.dr)))) I<|aw 1 I<|bw (aN ((v.toNat*3)) I g5 g4) I<|bw (eU I ((jg x.dr v.toNat e g1)) I) I<|aw 2 I<|aE [3,13] I ?_
              refine aj<|ab (.a 1 I<|.v (aJ I ((show(gF e)[1]? =some (flag c) by rw[←hc];rfl))) I<|.a 1 I<|.k [3,13,108] I)<|ag I (fun h12=>?_) (fun h12=>?_)
              · obtain rfl:c=false:=by simpa using h12
                rw[if_neg (by simp)]
                refine aO<|b7 (cJ I (ba.sl.get I)) I<|aw 1 I<|bw (aJ I ((rfl:(gF e)[0]? =some (av e.ax)))) I<|b7 (bh I (ba.rk.get I) I I I (show(aK e.ax).length=e.ax.length*1 by simp[aK]) ⟨by unfold maxLen;omega,by omega⟩) I<|aw 4 I<|aE [8,9,10] I ?_
                exact ao<|⟨_,_,az.of I,ay.aX (ah.cons (ay.qn (ys:=aK e.ax) (m:=e.ax.length) I (by simp) (by simp))<|ah.cons (ay.pure (p:=cc s))<|ah.cons ay.pure ah.nil),rfl⟩
              · obtain rfl:c=true:=by simpa using h12
                rw[if_pos rfl]
                refine ai<|aO<|b7 (cJ I (ba.sl.get I)) I<|aw 1 I<|bw (aJ I ((rfl:(gF e)[2]? =some (cc e.push)))) I<|b7 (bh I (ba.rk.get I) I I I (fN e.push) ⟨by unfold maxLen;omega,by omega⟩) I<|aw 1 I<|aE [3,13,14] I ?_
                refine aj<|ab (.a 3 I<|.k [3,13,14,120] I)<|ag I (fun h13=>?_) (fun h13=>?_)
                · obtain⟨a,l,rfl⟩:∃a l,s=a::l:=by
                    cases s with
                    |nil=>exact absurd (tt h13) (by simp)
                    |cons a l=>exact⟨a,l,rfl⟩
                  refine bI<|aw 2 I<|bw (gu I (ba.el.get I) I I) I<|b7 (bh I (ba.rk.get I) I I I (fN l) ⟨by simp at hs;unfold maxLen;omega,by simp at hs;omega⟩) I<|aw 1 I<|aE [13,14] I ?_
                  refine aj<|ab (.a 3 I<|.k [13,14,127] I)<|ag I (fun h14=>?_) (fun h14=>?_)
                  · rw[if_pos (by have h14:=tt h14;simp at h14 ⊢;omega),fR _ _ (by decide)]
                    exact ab (.a 3 I<|.k [8,9,10] I)<|ao<|⟨_,_,az.of I,ay.aX (ah.cons ay.bM<|ah.cons ay.bM<|ah.cons ay.pure ah.nil),rfl⟩
                  · rw[if_neg (by have h14:=ff h14;simp at h14 ⊢;omega),lf]
                    have h14:=ff h14
                    refine ai<|aO<|b7 (cJ I (ba.sl.get I)) I<|aw 1 I<|bw (aJ I ((rfl:(gF e)[0]? =some (av e.ax)))) I<|b7 (bh I (ba.rk.get I) I I I (show(aK e.ax).length=e.ax.length*1 by simp[aK]) ⟨by unfold maxLen;omega,by omega⟩) I<|aw 4 I<|aE [8,9,10] I ?_
                    exact ao<|⟨_,_,az.of I,ay.aX (ah.cons (ay.qn (ys:=aK e.ax) (m:=e.ax.length) I (by simp) (by simp))<|ah.cons (ay.qn (ys:=dR (e.push++List.drop 1 _)) (m:=(e.push++List.drop 1 _).length) I (by simp[dR]) (by simp))<|ah.cons ay.pure ah.nil),rfl⟩
                · obtain rfl:s=[]:=by
                    cases s with
                    |nil=>rfl
                    |cons a l=>exact absurd (ff h13) (by simp)
                  refine ai<|aj<|ab (.a 3 I<|.k [13,14,127] I)<|ag I (fun h14=>?_) (fun h14=>?_)
                  · rw[if_pos (by have h14:=tt h14;simp at h14 ⊢;omega),fR _ _ (by decide)]
                    exact ab (.a 3 I<|.k [8,9,10] I)<|ao<|⟨_,_,az.of I,ay.aX (ah.cons ay.bM<|ah.cons ay.bM<|ah.cons ay.pure ah.nil),rfl⟩
                  · rw[if_neg (by have h14:=ff h14;simp at h14 ⊢;omega),lf]
                    have h14:=ff h14
                    refine ai<|aO<|b7 (cJ I (ba.sl.get I)) I<|aw 1 I<|bw (aJ I ((rfl:(gF e)[0]? =some (av e.ax)))) I<|b7 (bh I (ba.rk.get I) I I I (show(aK e.ax).length=e.ax.length*1 by simp[aK]) ⟨by unfold maxLen;omega,by omega⟩) I<|aw 4 I<|aE [8,9,10] I ?_
                    exact ao<|⟨_,_,az.of I,ay.aX (ah.cons (ay.qn (ys:=aK e.ax) (m:=e.ax.length) I (by simp) (by simp))<|ah.cons (ay.qn (ys:=dR (e.push++List.drop 1 _)) (m:=(e.push++List.drop 1 _).length) I (by simp[dR]) (by simp))<|ah.cons ay.pure ah.nil),rfl⟩
          · rw[if_neg (ff h8),if_neg hk2]at hRR
            subst hRR
            rw[fR _ _ (by decide)]
            exact ab (.a 3 I<|.k [8,9,10] I)<|ao<|⟨_,_,az.of I,ay.aX (ah.cons ay.bM<|ah.cons ay.bM<|ah.cons ay.pure ah.nil),rfl⟩
      · have hs':s=[]:=by
          cases s with
          |nil=>rfl
          |cons a l=>exact absurd (ff h3) (by simp)
        rw[hs']at hRR
        dsimp only at hRR
        rw[←hs',hv0]at hRR
        obtain⟨K1,hK1,hK1n,hK1p⟩:∃K1,K1=eu p 1∧(s.length=0→K1=eu p 1)∧(0<s.length→K1=K):=⟨_,rfl,fun _=>rfl,fun h=>absurd h (by rw[hs'];simp)⟩
        rw[←hK1]at hRR
        clear hK1 h3 hs' hv0
        refine ai<|aj ?_
        unfold C8 at hRR
        obtain⟨q1,hq1⟩:∃q,decide (v<0)=q:=⟨_,rfl⟩
        obtain⟨q2,hq2⟩:∃q,decide (T.nodes≤v)=q:=⟨_,rfl⟩
        have hnb:bu T v=(!(q1||q2)):=by
          rw[←hq1,←hq2]
          cases hb:bu T v with
          |true=>have:=aT.1 hb;simp;omega
          |false=>
            have h9:¬(0≤v∧v<T.nodes):=fun h=>by rw[aT.2 h]at hb;cases hb
            simp;omega
        have hes:q1=false→q2=false→x.dr[v.toNat]? =some (dh x v)∧(dh x v).push.length≤40∧(dh x v).ax.length≤1000∧v<(x.dr.length:Int)∧0≤v:=fun h h'=>by
          obtain⟨k,rfl,g1,g2,g3⟩:=km hx (hnb.trans (by rw[h,h'];rfl))
          have:=(List.getElem?_eq_some_iff.1 g1).1
          exact⟨g1,g2,g3,by omega,by omega⟩
        obtain⟨e,he⟩:∃e,dh x v=e:=⟨_,rfl⟩
        obtain⟨I7,hc12⟩:∃q,decide ((e.ax.length:Int)=0)=q:=⟨_,rfl⟩
        rw[he]at hes hRR
        refine bz 90 (.raw (.bool ((q1||q2)||I7))) [3,4,5,6,11] I ?_ ?_
        · refine .a 1 I<|.v (cf I (hq1)) I<|.a 1 I<|?_
          cases q1
          · refine .a 3 I<|.v (cf I (hq2)) I<|.a 2 I<|?_
            cases q2
            · exact .a 1 I<|.v (aJ I ((rfl:(eL x)[1]? =some (iv x.dr)))) I<|.a 1 I<|.v (aN ((v.toNat*3)) I (hes rfl rfl).2.2.2.2 (hes rfl rfl).2.2.2.1) I<|.a 1 I<|.v (aJ I ((oO x.dr v.toNat 0 e (hes rfl rfl).1 (by omega)))) I<|.a 1 I<|.v (cf I (hc12)) I<|.a 1 I<|.k [90,3,4,5,6,11] I
            · exact .a 9 I<|.k [90,3,4,5,6,11] I
          · exact .a 15 I<|.k [90,3,4,5,6,11] I
        refine ag I (fun h9=>?_) (fun h9=>?_)
        · rw[if_neg (by rw[hnb];intro h;obtain⟨g1,g2⟩:=Bool.and_eq_true_iff.1 h;have g2:=tt g2;rw[decide_eq_false (by omega)]at hc12;subst hc12;revert h9 g1;cases q1<;>cases q2<;>simp)]at hRR
          refine aj<|ab (.a 3 I<|.k [4,5,6,93] I)<|ag I (fun h11=>?_) (fun h11=>?_)
          · have hne:0<s.length:=by have:=tt h11;omega
            rw[hK1p hne]at hRR
            subst hRR
            exact ab (.a 3 I<|.v (s4 I (ah.cons ay.pure<|ah.cons ay.pure<|ah.cons ay.pure<|ah.cons ay.bM ah.nil) (hK hne)) I<|.a 6 I<|.k [8,9,10] I)<|ao<|⟨_,_,az.of I,ay.aX (ah.cons (ay.pure (p:=av K.ax))<|ah.cons (ay.pure (p:=cc (wz K)))<|ah.cons ay.pure ah.nil),rfl⟩
          · rw[hK1n (by have:=ff h11;omega)]at hRR
            subst hRR
            rw[fR _ _ (by decide)]
            exact ai<|ab (.a 3 I<|.k [8,9,10] I)<|ao<|⟨_,_,az.of I,ay.aX (ah.cons ay.bM<|ah.cons ay.bM<|ah.cons ay.pure ah.nil),rfl⟩
        · obtain⟨h9,h10⟩:=Bool.or_eq_false_iff.1 h9
          obtain⟨rfl,rfl⟩:=Bool.or_eq_false_iff.1 h9
          subst h10
          rw[hnb,if_pos (by have:=ff hc12;simp;omega)]at hRR
          obtain⟨g1,g2,g3,g4,g5⟩:=hes rfl rfl
          subst hRR
          obtain⟨c,hc⟩:∃q,e.rep=q:=⟨_,rfl⟩
          have hE:fA p s e=if c then(if 32<(e.push++s.drop 1).length then eu p 5 else cB p (e.push++s.drop 1) e.ax) else cB p s e.ax:=by unfold fA;rw[hc]
          rw[hE]
          refine ai<|aO<|aw 1 I<|bw (aJ I ((rfl:(eL x)[1]? =some (iv x.dr)))) I<|aw 1 I<|bw (aN ((v.toNat*3)) I g5 g4) I<|bw (eU I ((jg x.dr v.toNat e g1)) I) I<|aw 2 I<|aE [3,13] I ?_
          refine aj<|ab (.a 1 I<|.v (aJ I ((show(gF e)[1]? =some (flag c) by rw[←hc];rfl))) I<|.a 1 I<|.k [3,13,108] I)<|ag I (fun h12=>?_) (fun h12=>?_)
          · obtain rfl:c=false:=by simpa using h12
            rw[if_neg (by simp)]
            refine aO<|b7 (cJ I (ba.sl.get I)) I<|aw 1 I<|bw (aJ I ((rfl:(gF e)[0]? =some (av e.ax)))) I<|b7 (bh I (ba.rk.get I) I I I (show(aK e.ax).length=e.ax.length*1 by simp[aK]) ⟨by unfold maxLen;omega,by omega⟩) I<|aw 4 I<|aE [8,9,10] I ?_
            exact ao<|⟨_,_,az.of I,ay.aX (ah.cons (ay.qn (ys:=aK e.ax) (m:=e.ax.length) I (by simp) (by simp))<|ah.cons (ay.pure (p:=cc s))<|ah.cons ay.pure ah.nil),rfl⟩
          · obtain rfl:c=true:=by simpa using h12
            rw[if_pos rfl]
            refine ai<|aO<|b7 (cJ I (ba.sl.get I)) I<|aw 1 I<|bw (aJ I ((rfl:(gF e)[2]? =some (cc e.push)))) I<|b7 (bh I (ba.rk.get I) I I I (fN e.push) ⟨by unfold maxLen;omega,by omega⟩) I<|aw 1 I<|aE [3,13,14] I ?_
            refine aj<|ab (.a 3 I<|.k [3,13,14,120] I)<|ag I (fun h13=>?_) (fun h13=>?_)
            · obtain⟨a,l,rfl⟩:∃a l,s=a::l:=by
                cases s with
                |nil=>exact absurd (tt h13) (by simp)
                |cons a l=>exact⟨a,l,rfl⟩
              refine bI<|aw 2 I<|bw (gu I (ba.el.get I) I I) I<|b7 (bh I (ba.rk.get I) I I I (fN l) ⟨by simp at hs;unfold maxLen;omega,by simp at hs;omega⟩) I<|aw 1 I<|aE [13,14] I ?_
              refine aj<|ab (.a 3 I<|.k [13,14,127] I)<|ag I (fun h14=>?_) (fun h14=>?_)
              · rw[if_pos (by have h14:=tt h14;simp at h14 ⊢;omega),fR _ _ (by decide)]
                exact ab (.a 3 I<|.k [8,9,10] I)<|ao<|⟨_,_,az.of I,ay.aX (ah.cons ay.bM<|ah.cons ay.bM<|ah.cons ay.pure ah.nil),rfl⟩
              · rw[if_neg (by have h14:=ff h14;simp at h14 ⊢;omega),lf]
                have h14:=ff h14
                refine ai<|aO<|b7 (cJ I (ba.sl.get I)) I<|aw 1 I<|bw (aJ I ((rfl:(gF e)[0]? =some (av e.ax)))) I<|b7 (bh I (ba.rk.get I) I I I (show(aK e.ax).length=e.ax.length*1 by simp[aK]) ⟨by unfold maxLen;omega,by omega⟩) I<|aw 4 I<|aE [8,9,10] I ?_
                exact ao<|⟨_,_,az.of I,ay.aX (ah.cons (ay.qn (ys:=aK e.ax) (m:=e.ax.length) I (by simp) (by simp))<|ah.cons (ay.qn (ys:=dR (e.push++List.drop 1 _)) (m:=(e.push++List.drop 1 _).length) I (by simp[dR]) (by simp))<|ah.cons ay.pure ah.nil),rfl⟩
            · obtain rfl:s=[]:=by
                cases s with
                |nil=>rfl
                |cons a l=>exact absurd (ff h13) (by simp)
              refine ai<|aj<|ab (.a 3 I<|.k [13,14,127] I)<|ag I (fun h14=>?_) (fun h14=>?_)
              · rw[if_pos (by have h14:=tt h14;simp at h14 ⊢;omega),fR _ _ (by decide)]
                exact ab (.a 3 I<|.k [8,9,10] I)<|ao<|⟨_,_,az.of I,ay.aX (ah.cons ay.bM<|ah.cons ay.bM<|ah.cons ay.pure ah.nil),rfl⟩
              · rw[if_neg (by have h14:=ff h14;simp at h14 ⊢;omega),lf]
                have h14:=ff h14
                refine ai<|aO<|b7 (cJ I (ba.sl.get I)) I<|aw 1 I<|bw (aJ I ((rfl:(gF e)[0]? =some (av e.ax)))) I<|b7 (bh I (ba.rk.get I) I I I (show(aK e.ax).length=e.ax.length*1 by simp[aK]) ⟨by unfold maxLen;omega,by omega⟩) I<|aw 4 I<|aE [8,9,10] I ?_
                exact ao<|⟨_,_,az.of I,ay.aX (ah.cons (ay.qn (ys:=aK e.ax) (m:=e.ax.length) I (by simp) (by simp))<|ah.cons (ay.qn (ys:=dR (e.push++List.drop 1 _)) (m:=(e.push++List.drop 1 _).length) I (by simp[dR]) (by simp))<|ah.cons ay.pure ah.nil),rfl⟩
theorem CT(T:ak)(x:de)(p:dx)(hx:cT T x=true):Can Tryz.prog 194 [aP T,fw x,dB p,cc []] (· =rC (dy T x p [] (eu p 1))):=
 uF T x p [] (eu p 1) hx (by simp) (fun h=>absurd h (by simp))
theorem Bz(T:ak)(x:de)(p:dx)(s:List bV)(hx:cT T x=true)(hs:s.length≤40):Can Tryz.prog 194 [aP T,fw x,dB p,cc s] (· =rC (dy T x p s (dy T x p [] (eu p 1)))):=
 uF T x p s _ hx hs (fun _=>CT T x p hx)
def Jr(p:dx)(O:Out):Prop:=O=⟨[],⟨p.id,p.src,p.dst,p.ku,[],p.dG⟩, -1⟩∨(∃s l,O=cB p s l∧0≤p.dG∧p.dG<255)∨∃c,O=eu p c∧c≠0∧c≠ -1
theorem C2{p:dx}{s:List bV}{e:i6}(h:0≤p.dG∧p.dG<255):Jr p (fA p s e):=by
 unfold fA
 split
 ·split
  ·exact .inr (.inr ⟨5,rfl,by decide,by decide⟩)
  ·exact .inr (.inl ⟨_,_,rfl,h⟩)
 ·exact .inr (.inl ⟨_,_,rfl,h⟩)
theorem FT{T:ak}{x:de}{p:dx}{s:List bV}{v:Int}{K:Out}(h:0≤p.dG∧p.dG<255)(hK:Jr p K):Jr p (C8 T x p s v K):=by
 unfold C8
 split
 ·exact C2 h
 ·exact hK
theorem ti{T:ak}{x:de}{p:dx}{s:List bV}{K:Out}(hK:Jr p K):Jr p (dy T x p s K):=by
 have d1:∀c:Int,c≠0→c≠ -1→Jr p (eu p c):=fun c h1 h2=>.inr (.inr ⟨c,rfl,h1,h2⟩)
 unfold dy
 split
 ·exact .inl rfl
 ·split
  ·exact d1 4 (by decide) (by decide)
  ·rename_i h2
   have h:0≤p.dG∧p.dG<255:=by simp at h2;omega
   split
   ·exact FT h (d1 1 (by decide) (by decide))
   ·split
    ·exact FT h hK
    ·split
     ·split
      ·exact d1 2 (by decide) (by decide)
      ·split
       ·exact hK
       ·exact .inr (.inl ⟨_,_,rfl,h⟩)
     ·exact d1 1 (by decide) (by decide)
set_option maxHeartbeats 2000000 in
theorem uJ(T:ak)(x:de)(p:dx)(hps:p.stack.length≤1000):Can Tryz.prog 169 [aP T,fw x,dB p] (· =vv (dj T x p)):=by
 obtain⟨c1,hc1⟩:∃q,cT T x=q:=⟨_,rfl⟩
 obtain⟨n,hn⟩:∃n,x.node=n:=⟨_,rfl⟩
 obtain⟨v,hv0⟩:∃v,p.dst=v:=⟨_,rfl⟩
 obtain⟨q1,hq1⟩:∃q,decide (v<0)=q:=⟨_,rfl⟩
 obtain⟨q2,hq2⟩:∃q,decide (T.nodes≤v)=q:=⟨_,rfl⟩
 have hnb:bu T v=(!(q1||q2)):=by
  rw[←hq1,←hq2]
  cases hb:bu T v with
  |true=>have:=aT.1 hb;simp;omega
  |false=>
   have h9:¬(0≤v∧v<T.nodes):=fun h=>by rw[aT.2 h]at hb;cases hb
   simp;omega
 unfold dj
 rw[hc1,hv0,hnb,Bool.not_not]
 refine aH Tryz.func169 I Tryz.ntmps169 I<|aO<|aw 2 I<|b7 (fD I I I) I<|aw 3 I<|aE [3,4,5,7] I ?_
 refine aj<|au<|bz 13 (.raw (.bool (((!c1)||q1)||q2))) [3,4,5,7] I ?_ ?_
 ·refine .a 2 I<|.c rfl (hc1▸qd T x) I<|.a 2 I<|?_
  cases c1
  ·exact .a 12 I<|.k [13,3,4,5,7] I
  ·refine .a 1 I<|.v (aJ I ((show(cL p)[2]? =some (num v) by rw[←hv0];rfl))) I<|.v (cf I (hq1)) I<|.a 2 I<|?_
   cases q1
   ·exact .a 1 I<|.v (aJ I ((show(cL p)[2]? =some (num v) by rw[←hv0];rfl))) I<|.a 2 I<|.v (cf I (hq2)) I<|.a 2 I<|.k [13,3,4,5,7] I
   ·exact .a 7 I<|.k [13,3,4,5,7] I
 refine ag I (fun h1=>?_) (fun h1=>?_)
 ·rw[if_pos (by rw[←Bool.or_assoc];exact h1)]
  refine iw 2 20 mixed (
   .val [5] I (cR I (ba.tk.get I) I I I) I I<|
   .val [] I (aZ I) I I<|
   .nil) (by kernel_rfl) I I (aY (ks:=[6,7,30]) I) ?_
  refine aw 2 I<|aE [6,7,8] I ?_
  exact ao<|⟨_,_,az.of I,ay.aX (ah.cons ay.bM<|ah.cons (ay.pure (p:=dB p))<|ah.cons ay.pure ah.nil),rfl⟩
 ·rw[if_neg (by rw[←Bool.or_assoc,h1];simp)]
  obtain⟨h1a,hq2f⟩:=Bool.or_eq_false_iff.1 h1
  obtain⟨h1b,hq1f⟩:=Bool.or_eq_false_iff.1 h1a
  obtain rfl:c1=true:=by simpa using h1b
  clear h1 h1a h1b
  refine ab (.a 1 I<|.v (aR I (ba.tk.get I) I I (rfl:(cL p)[4]? =some (cc p.stack))) I<|.a 3 I<|.k [3,4,5,7,31] I)<|ag I (fun h2=>?_) (fun h2=>?_)
  ·rw[if_pos (tt h2)]
   refine iw 2 20 mixed (
    .val [5] I (cR I (ba.tk.get I) I I I) I I<|
    .val [] I (aZ I) I I<|
    .nil) (by kernel_rfl) I I (aY (ks:=[6,7,36]) I) ?_
   refine aw 2 I<|aE [6,7,8] I ?_
   exact ao<|⟨_,_,az.of I,ay.aX (ah.cons ay.bM<|ah.cons (ay.pure (p:=dB p))<|ah.cons ay.pure ah.nil),rfl⟩
  ·rw[if_neg (ff h2)]
   have h32:p.stack.length≤32:=by have:=ff h2;omega
   refine ai<|aO<|b7 (cJ I (ba.sl.get I)) I<|aw 1 I<|bw (aR I (ba.tk.get I) I I (rfl:(cL p)[4]? =some (cc p.stack))) I<|b7 (bh I (ba.rk.get I) I I I (fN p.stack) ⟨by unfold maxLen;omega,by omega⟩) I<|aw 1 I<|aE [3,4,5,7,9] I ?_
   refine oo 3 (σ':=[some (.cells 66 (cL p)),some (.cells 66 [num 0,num 0,num 0,num 0,.raw (.slice none 0 0),num 0]),none,none]) I ⟨rfl,rfl,fun m hm=>?_⟩ (.cons 3 I (.same _)<|.cons 4 I (.same _)<|.cons 5 I (.same _)<|.cons 7 I (.same _)<|.cons 9 I .own .nil) ?_
   ·match m,hm with
    |0,_=>exact .inl rfl
    |1,_=>exact .inl rfl
    |2,_=>exact .inl rfl
    |m+4,_=>exact .inl rfl
   refine aj<|au<|eH [3,4,5,7,9] I<|bq (fun r st=>∃s:List bV,s.length≤32∧r=s.length∧eD ⟨1,n⟩ p.stack=eD ⟨1,n⟩ s∧st=⟨[(3,.bb (bC T) 0),(4,.bb (eL x) 0),(5,.ptr 0 0),(7,.ptr 1 0),(9,cc s)],[some (.cells 66 (cL p)),some (.cells 66 [num 0,num 0,num 0,num 0,.raw (.slice none 0 0),num 0]),none,none]⟩) p.stack.length ⟨p.stack,h32,rfl,rfl,by simp[cc,dR]⟩ ?_
   rintro r st ⟨s,hs,rfl,hsk,rfl⟩
   obtain⟨e1,he1⟩:∃q,decide (0<(s.length:Int))=q:=⟨_,rfl⟩
   obtain⟨a,ha⟩:∃a,s.getD 0 ⟨0,0⟩=a:=⟨_,rfl⟩
   obtain⟨e2,he2⟩:∃q,decide (a=(⟨1,n⟩:bV))=q:=⟨_,rfl⟩
   refine aj<|iJ mixed (by kernel_rfl) 52 (.raw (.bool (e1&&e2))) [3,4,5,7,9] I ?_ ?_
   ·refine .a 2 I<|.v [42] (cf I (he1)) I I<|.a 1 I<|?_
    cases e1
    ·exact .a 8 I<|.k [52,3,4,5,7,9] I
    ·exact .a 1 I<|.v [45] (aN (0) I (by omega) (by have:=tt he1;omega)) I I<|.v [46] (eU I (gv s 0 a (by rw[←ha];have:=tt he1;rw[List.getD_eq_getElem?_getD,List.getElem?_eq_getElem (by omega)];rfl)) I) I I<|.a 1 I<|.v [48] (aJ I ((show(eL x)[0]? =some (num n) by rw[←hn];rfl))) I I<|.a 1 I<|.v [47,50] (wN I I (b:=⟨1,n⟩) I he2) I I<|.a 1 I<|.k [52,3,4,5,7,9] I
   refine ag I (fun h3=>?_) (fun h3=>?_)
   ·obtain⟨rfl,rfl⟩:=Bool.and_eq_true_iff.1 h3
    obtain⟨l,rfl⟩:∃l,s=(⟨1,n⟩:bV)::l:=by
     have h4:=tt he2
     cases s with
     |nil=>exact absurd (tt he1) (by simp)
     |cons b l=>exact⟨l,by rw[←h4,←ha];rfl⟩
    simp only[eD,if_true]at hsk
    refine ai<|au<|aC (.a 1 I<|.v (gu I (ba.el.get I) I I) I<|.a 1 I<|.k [3,4,5,7,9] I) ?_
    exact⟨l.length,by simp,l,by simp at hs;omega,rfl,hsk,rfl⟩
   ·have hsk:eD ⟨1,n⟩ p.stack=s:=by
     rw[hsk]
     cases s with
     |nil=>rfl
     |cons b l=>
      have e1t:e1=true:=by rw[←he1];simp
      rw[e1t,Bool.true_and]at h3
      rw[h3]at he2
      have h5:=ff he2
      simp only[eD]
      rw[if_neg (by rw[←ha]at h5;exact h5)]
    rw[hn,hsk]
    clear he1 ha he2 h3
    refine bd ?_
    obtain⟨O,hO⟩:∃O,dy T x p s (dy T x p [] (eu p 1))=O:=⟨_,rfl⟩
    have hok:Jr p O:=by rw[←hO];exact ti (ti (.inr (.inr ⟨1,rfl,by decide,by decide⟩)))
    have hcan:=Bz T x p s hc1 (by omega)
    rw[hO]at hcan ⊢
    refine ab (.a 2 I<|.v (cR I (ba.tk.get I) I I I) I<|.a 1 I<|.c rfl (hcan) I<|.a 7 I<|.k [5,7,10,11,12] I)<|aj<|au<|ab (.a 3 I<|.k [5,7,10,11,12,64] I)<|ag I (fun h6=>?_) (fun h6=>?_)
    ·have h6:=tt h6
     obtain rfl:O=⟨[],⟨p.id,p.src,p.dst,p.ku,[],p.dG⟩, -1⟩:=by
      rcases hok with h|⟨s,l,rfl,_⟩|⟨c,rfl,h,h'⟩
      ·exact h
      ·exact absurd h6 (by simp[cB])
      ·exact absurd h6 h'
     refine bI<|aw 2 I<|aE [5,7,10,12] I ?_
     refine iw 4 20 mixed (
      .val [10] I (aZ I) I I<|
      .val [5] I (cR I (ba.tk.get I) I I I) I I<|
      .late [12] I (ju rfl rfl) inferInstance rfl rfl<|
      .val [77] I (aZ I) I I<|
      .nil) (by kernel_rfl) I I (aY (ks:=[6,7,78,79]) I) ?_
     refine aw 2 I<|aE [6,7,8] I ?_
     refine ao ?_
     first
      |exact⟨_,_,az.of I,ay.aX (ah.cons ay.pure<|ah.cons (ay.gY (ys:=cL ⟨p.id,p.src,p.dst,p.ku,[],p.dG⟩) (ah.cons ay.pure<|ah.cons ay.pure<|ah.cons ay.pure<|ah.cons ay.pure<|ah.cons ay.bM<|ah.cons ay.pure ah.nil))<|ah.cons ay.pure ah.nil),rfl⟩
      |exact⟨_,_,az.of I,ay.aX (ah.cons ay.pure<|ah.cons (ay.pure (p:=dB ⟨p.id,p.src,p.dst,p.ku,s',p.dG+1⟩))<|ah.cons ay.pure ah.nil),rfl⟩
      |exact⟨_,_,az.of I,ay.aX (ah.cons ay.pure<|ah.cons (ay.pure (p:=dB p))<|ah.cons ay.pure ah.nil),rfl⟩
    ·have h6:=ff h6
     replace hok:=hok.resolve_left (fun h=>h6 (by rw[h]))
     refine ab (.a 3 I<|.k [5,7,10,11,12,68] I)<|ag I (fun h7=>?_) (fun h7=>?_)
     ·have h7:=tt h7
      obtain⟨s',l,rfl,hh⟩:=hok.resolve_right (by rintro⟨c,rfl,h,_⟩;exact h h7)
      refine aO<|aw 3 I<|aE [5,7,10,12] I ?_
      refine bI<|aw 1 I<|bw (aR I (ba.tk.get I) I I I) I<|bw (aU I (hn:=(show In64 (p.dG+1) by unfold In64;omega))) I<|aw 2 I<|aE [5,7,10,12] I ?_
      refine iw 4 20 mixed (
       .val [10] I (aZ I) I I<|
       .val [5] I (cR I (ba.tk.get I) I I I) I I<|
       .late [12] I (ju rfl rfl) inferInstance rfl rfl<|
       .val [77] I (aZ I) I I<|
       .nil) (by kernel_rfl) I I (aY (ks:=[6,7,78,79]) I) ?_
      refine aw 2 I<|aE [6,7,8] I ?_
      refine ao ?_
      first
       |exact⟨_,_,az.of I,ay.aX (ah.cons ay.pure<|ah.cons (ay.gY (ys:=cL ⟨p.id,p.src,p.dst,p.ku,[],p.dG⟩) (ah.cons ay.pure<|ah.cons ay.pure<|ah.cons ay.pure<|ah.cons ay.pure<|ah.cons ay.bM<|ah.cons ay.pure ah.nil))<|ah.cons ay.pure ah.nil),rfl⟩
       |exact⟨_,_,az.of I,ay.aX (ah.cons ay.pure<|ah.cons (ay.pure (p:=dB ⟨p.id,p.src,p.dst,p.ku,s',p.dG+1⟩))<|ah.cons ay.pure ah.nil),rfl⟩
       |exact⟨_,_,az.of I,ay.aX (ah.cons ay.pure<|ah.cons (ay.pure (p:=dB p))<|ah.cons ay.pure ah.nil),rfl⟩
     ·have h7:=ff h7
      obtain⟨c,rfl,_⟩:=hok.resolve_left (by rintro⟨s',l,rfl,_⟩;exact h7 rfl)
      refine ai<|iw 4 20 mixed (
       .val [10] I (aZ I) I I<|
       .val [5] I (cR I (ba.tk.get I) I I I) I I<|
       .late [12] I (ju rfl rfl) inferInstance rfl rfl<|
       .val [77] I (aZ I) I I<|
       .nil) (by kernel_rfl) I I (aY (ks:=[6,7,78,79]) I) ?_
      refine aw 2 I<|aE [6,7,8] I ?_
      refine ao ?_
      first
       |exact⟨_,_,az.of I,ay.aX (ah.cons ay.pure<|ah.cons (ay.gY (ys:=cL ⟨p.id,p.src,p.dst,p.ku,[],p.dG⟩) (ah.cons ay.pure<|ah.cons ay.pure<|ah.cons ay.pure<|ah.cons ay.pure<|ah.cons ay.bM<|ah.cons ay.pure ah.nil))<|ah.cons ay.pure ah.nil),rfl⟩
       |exact⟨_,_,az.of I,ay.aX (ah.cons ay.pure<|ah.cons (ay.pure (p:=dB ⟨p.id,p.src,p.dst,p.ku,s',p.dG+1⟩))<|ah.cons ay.pure ah.nil),rfl⟩
       |exact⟨_,_,az.of I,ay.aX (ah.cons ay.pure<|ah.cons (ay.pure (p:=dB p))<|ah.cons ay.pure ah.nil),rfl⟩
structure Sq where
 n:Nat
 s:List bV
 a:PV
 x:PV
 cS:Int
 LC:Int
 lu:Int
def kF(p0:dx)(q:Sq):List PV:=[num q.n,num p0.id,num p0.src,num p0.dst,num p0.ku,cc q.s,num 0,q.a,q.x,num q.cS,num q.LC,num q.lu]
def gL(p0:dx)(L:List Sq):List PV:=L.flatMap (kF p0)
def qo(n:Nat)(s:List bV):Sq:=⟨n,s,.raw (.slice none 0 0),.raw (.slice none 0 0),0,0,0⟩
abbrev eV(p0:dx)(L:List Sq):Option cK:=some (.row 119 12 L.length (gL p0 L))
theorem oC(p0:dx)(L:List Sq):(gL p0 L).length=L.length*12:=rA _ 12 (fun _=>rfl) L
theorem eA{p0:dx}{L:List Sq}{i:Nat}{q:Sq}(j:Nat)(h:L[i]? =some q)(hj:j<12){v:PV}(hv:(kF p0 q)[j]? =some v):(gL p0 L)[i*12+j]? =some v:=(flat_get (kF p0) 12 (fun _=>rfl) L i j q h hj).trans hv
theorem wa{p0:dx}{L:List Sq}{i:Nat}{q:Sq}(h:L[i]? =some q):((gL p0 L).drop (i*12)).take 12=kF p0 q:=ki (kF p0) 12 (fun _=>rfl) L i q h
theorem yr{α:Type}(f:α→List PV)(s:Nat)(hf:∀a,(f a).length=s):∀(l:List α) (i j:Nat) (a b:α) (v:PV),l[i]? =some a→j<s→f b=(f a).set j v→(l.flatMap f).set (i*s+j) v=(l.set i b).flatMap f
 | [],i,j,a,b,v,h,_,_=>by simp at h
 |c::l,0,j,a,b,v,h,hj,hb=>by
  simp at h;subst h
  rw[List.flatMap_cons,List.set_cons_zero,List.flatMap_cons,Nat.zero_mul,Nat.zero_add,hb,List.set_append_left _ _ (by rw[hf];exact hj)]
 |c::l,i+1,j,a,b,v,h,hj,hb=>by
  have:=yr f s hf l i j a b v (by simpa using h) hj hb
  have e1:(i+1)*s=i*s+s:=Nat.succ_mul i s
  have e2:(i+1)*s+j - s=i*s+j:=by omega
  have e3:(f c).length≤(i+1)*s+j:=by rw[hf];omega
  rw[List.flatMap_cons,List.set_append_right _ _ e3,hf,e2,this,List.set_cons_succ,List.flatMap_cons]
theorem uR{p0:dx}{L:List Sq}{i:Nat}{q b:Sq}(j:Nat)(h:L[i]? =some q)(hj:j<12){v:PV}(hb:kF p0 b=(kF p0 q).set j v):(gL p0 L).set (i*12+j) v=gL p0 (L.set i b):=yr (kF p0) 12 (fun _=>rfl) L i j q b v h hj hb
theorem Ej(p0:dx)(L:List Sq)(q:Sq):gL p0 L++kF p0 q=gL p0 (L++[q]):=by simp[gL]
def GP(T:ak)(tbs:List de)(j:Nat)(rest:cg):cg:=some (.cells 122 (bC T++[eE tbs,.own (j+1)]))::rest
def At(L:List Sq)(i:Nat)(n:Nat)(s:List bV):Prop:=∃q,L[i]? =some q∧q.n=n∧q.s=s
def K6(T:ak)(p0:dx)(tbs:List de)(L:List Sq)(j:Nat)(rest:cg)(n:Nat)(s:List bV)(r:PV)(σ':cg):Prop:=
 ∃(i:Nat) (L':List Sq) (j':Nat) (rest':cg),r=num (i:Int)∧σ'=GP T tbs j' rest'∧rest'[j']? =some (eV p0 L')∧gE j rest rest'∧(j'=j∨rest.length≤j')∧At L' i n s∧(L'=L∨L'=L++[qo n s]∧∀k,¬At L k n s)
instance (p0:dx) (n:Nat) (s:List bV):dD (kF p0 (qo n s)):=by unfold kF qo;infer_instance
set_option maxHeartbeats 2000000 in
theorem xl(T:ak)(p0:dx)(tbs:List de)(L:List Sq)(hL:L.length≤100000)(j:Nat)(rest:cg)(hj:rest[j]? =some (eV p0 L))(n:Nat)(p:dx)(hp:cV p p.stack=cV p0 p.stack):
  bU Tryz.prog 168 [.ptr 0 0,num n,dB p] (GP T tbs j rest) (K6 T p0 tbs L j rest n p.stack):=by
 have hjl:=(List.getElem?_eq_some_iff.1 hj).1
 refine ct Tryz.func168 I Tryz.ntmps168 I<|aO<|b7 (cq.to (fD I I I) (p':=.ptr (rest.length+1) 0) (σ'':=GP T tbs j (rest++[some (.cells 66 (cL p))])) I I) I<|aw 1 I<|aE [0,1,5] I ?_
 refine aO<|aw 1 I<|bc (cq.to (cd (i:=rest.length+1) (off:=5) I (ba.tk.get I) I I (show(GP T tbs j (rest++[some (.cells 66 (cL p))]))[rest.length+1]? =_ from cU rfl) (Nat.le_of_ble_eq_true rfl)) (σ'':=GP T tbs j (rest++[some (.cells 66 (cL (cV p0 p.stack)))])) I (by rw[←hp];simp[GP,cL,cV];rfl)) I I<|aE [0,1,5] I ?_
 obtain⟨r1,hr1⟩:∃r1,rest++[some (.cells 66 (cL (cV p0 p.stack)))]=r1:=⟨_,rfl⟩
 have l1:r1.length=rest.length+1:=by rw[←hr1];simp
 have k1:gE j rest r1:=hr1▸(gE.refl j rest).app _
 have b1:r1[rest.length]? =some (some (.cells 66 (cL (cV p0 p.stack)))):=hr1▸cU rfl
 have j1:r1[j]? =some (eV p0 L):=hr1▸bS hj
 rw[hr1]
 refine aj<|ab (.a 1 I<|.k [0,1,5,7] I)<|au<|eH [0,1,5,7] I<|bq (fun r st=>∃i:Nat,i≤L.length∧r=L.length - i∧(∀k,k<i→¬At L k n p.stack)∧st=⟨[(0,.ptr 0 0),(1,num n),(5,.ptr (rest.length+1) 0),(7,num i)],GP T tbs j r1⟩) L.length ⟨0,by omega,by omega,fun k hk=>absurd hk (by omega),rfl⟩ ?_
 rintro r st ⟨i,hi,rfl,hno,rfl⟩
 refine aj<|ab (.a 4 I<|.v (aR I (ba.tk.get I) I I I) I<|.v (nQ I (ba.el.get I) I j1) I<|.a 1 I<|.k [0,1,5,7,15] I)<|ag I (fun hc=>?_) (fun hc=>?_)
 ·have hlt:i<L.length:=by have:=tt hc;omega
  obtain⟨q,hq⟩:∃q,L[i]? =some q:=⟨_,List.getElem?_eq_getElem hlt⟩
  obtain⟨e1,he1⟩:∃b,decide ((q.n:Int)=n)=b:=⟨_,rfl⟩
  obtain⟨e2,he2⟩:∃b,decide (q.s=p.stack)=b:=⟨_,rfl⟩
  refine ai<|aj<|au<|iJ mixed (by kernel_rfl) 41 (.raw (.bool (e1&&e2))) [0,1,5,7] I ?_ ?_
  ·refine .a 3 I<|.v [20] (aR I (ba.tk.get I) I I I) I I<|.a 1 I<|.v [21,22] (b9 I (ba.el.get I) I j1 rfl (by omega) (by omega) I) I I<|.a 1 I<|.v [24] (aR I (ba.tk.get I) I j1 (eA 0 hq (by omega) I)) I I<|.a 1 I<|.v [25,26] (cf I (he1)) I I<|.a 1 I<|?_
   cases e1
   ·exact .a 13 I<|.k [41,0,1,5,7] I
   ·exact .a 3 I<|.v [31] (aR I (ba.tk.get I) I I I) I I<|.a 1 I<|.v [32,33] (b9 I (ba.el.get I) I j1 rfl (by omega) (by omega) I) I I<|.a 2 I<|.v [36] (aR I (ba.tk.get I) I j1 (eA 5 hq (by omega) I)) I I<|.a 1 I<|.v [38] (aR I (ba.tk.get I) I b1 rfl) I I<|.v [37,39] (dU I (he2▸Bw q.s p.stack)) I I<|.a 1 I<|.k [41,0,1,5,7] I
  refine ag I (fun h3=>?_) (fun h3=>?_)
  ·obtain⟨rfl,rfl⟩:=Bool.and_eq_true_iff.1 h3
   have hat:At L i n p.stack:=⟨q,hq,by have:=tt he1;omega,tt he2⟩
   exact ab (.a 2 I<|.k [6] I)<|ao<|⟨_,az.of I,i,L,j,r1,rfl,rfl,j1,k1,.inl rfl,hat,.inl rfl⟩
  ·have hno':∀k,k<i+1→¬At L k n p.stack:=fun k hk h=>by
    by_cases hki:k<i
    ·exact hno k hki h
    ·obtain rfl:k=i:=by omega
     obtain⟨q',g1,g2,g3⟩:=h
     rw[hq]at g1
     cases g1
     rcases Bool.and_eq_false_iff.1 h3 with rfl|rfl
     ·exact ff he1 (by rw[g2])
     ·exact ff he2 g3
   refine ai<|aC (.a 1 I<|.v (aU I) I<|.a 1 I<|.k [0,1,5,7] I) ?_
   exact⟨L.length - (i+1),by omega,i+1,by omega,rfl,hno',rfl⟩
 ·have hie:i=L.length:=by have:=ff hc;omega
  subst hie
  refine bd<|iw 9 20 mixed (
   .late [0] I (ju rfl rfl) inferInstance rfl rfl<|
   .val [0] I (aZ I) I I<|
   .val [44] I (aZ I) I I<|
   .val [45] I (aZ I) I I<|
   .val [46] I (aR I (ba.tk.get I) I I I) I I<|
   .val [1] I (aZ I) I I<|
   .val [5] I (cR I (ba.tk.get I) I b1 rfl) I I<|
   .val [48,49] I (aZ I) I I<|
   .val [50] I (aZ I) I I<|
   .nil) (by kernel_rfl) I I (aY (ks:=[0,43,47,51]) I) ?_
  refine b7 (cq.to (σ:=GP T tbs j r1) (bh (m:=1) (n:=L.length) (xs:=gL p0 L) (ys:=kF p0 (qo n p.stack)) I (ba.rk.get I) I j1 rfl rfl ⟨by unfold maxLen;omega,by omega⟩) (p':=.own (rest.length+1+1)) (σ'':=GP T tbs j (r1.set j none++[eV p0 (L++[qo n p.stack])])) (by rw[←l1];rfl) (by unfold eV;rw[List.length_append,←Ej];rfl)) I<|aw 2 I<|bc (cq.to (cd I (ba.tk.get I) I I I (Nat.le_of_ble_eq_true rfl)) (σ'':=GP T tbs (rest.length+1) (r1.set j none++[eV p0 (L++[qo n p.stack])])) I I) I I<|aE [0] I ?_
  obtain⟨r2,hr2⟩:∃r2,r1.set j none++[eV p0 (L++[qo n p.stack])]=r2:=⟨_,rfl⟩
  have k2:gE j rest r2:=hr2▸(k1.put (.inl rfl) _).app _
  have j2:r2[rest.length+1]? =some (eV p0 (L++[qo n p.stack])):=hr2▸cU (by simp[l1])
  rw[hr2]
  exact ab (.a 3 I<|.v (aR I (ba.tk.get I) I I I) I<|.v (nQ I (ba.el.get I) I j2) I<|.v (aU I (hc:=(show((L++[qo n p.stack]).length:Int) - 1=(L.length:Int) by rw[List.length_append];simp))) I<|.a 1 I<|.k [6] I)<|ao<|⟨_,az.of I,L.length,L++[qo n p.stack],rest.length+1,r2,rfl,rfl,j2,k2,.inr (by omega),⟨qo n p.stack,by simp,rfl,rfl⟩,.inr ⟨rfl,fun k h=>by
   obtain⟨q',g1,g2⟩:=h
   exact hno k (List.getElem?_eq_some_iff.1 g1).1 ⟨q',g1,g2⟩⟩⟩
section
variable (T:ak) (tb:Nat→de) (p0:dx) (Φ:Nat→Nat→List bV→Prop)
def wH(L:List Sq)(q:Sq):Prop:=∃js:List Int,q=⟨q.n,q.s,av (bL T tb p0 q.n q.s).ax,av js,(bL T tb p0 q.n q.s).cS,0,0⟩∧js.length=(bL T tb p0 q.n q.s).ax.length∧
 ∀(m:Nat) a,(bL T tb p0 q.n q.s).ax[m]? =some a→∃jm:Nat,js[m]? =some (jm:Int)∧At L jm (aS T a.toNat).toNat (bL T tb p0 q.n q.s).eo.stack
structure ko (L:List Sq) (i i':Nat):Prop where
 st:∀(k:Nat) (q:Sq),L[k]? =some q→∃u,Φ u q.n q.s
 JN:∀(k k' n:Nat) (s:List bV),At L k n s→At L k' n s→k=k'
 dn:∀(k:Nat) (q:Sq),k<i→L[k]? =some q→wH T tb p0 L q
 nw:∀(k:Nat) (q:Sq),i'≤k→L[k]? =some q→q=qo q.n q.s
end
section
variable {T:ak} {tb:Nat→de} {p0:dx} {Φ:Nat→Nat→List bV→Prop}
theorem At.app{L M:List Sq}{k n:Nat}{s:List bV}(h:At L k n s):At (L++M) k n s:=by
 obtain⟨q,h1,h2⟩:=h
 exact⟨q,by rw[List.getElem?_append_left (List.getElem?_eq_some_iff.1 h1).1];exact h1,h2⟩
theorem At.put{L:List Sq}{i k n:Nat}{s:List bV}{q q':Sq}(hq:L[i]? =some q)(h1:q'.n=q.n)(h2:q'.s=q.s):At (L.set i q') k n s↔At L k n s:=by
 have hil:=(List.getElem?_eq_some_iff.1 hq).1
 unfold At
 by_cases hk:k=i
 ·subst hk
  rw[List.getElem?_set,if_pos rfl,if_pos hil,hq]
  constructor
  ·rintro⟨x,hx,a,b⟩;cases hx;exact⟨q,rfl,by rw[←h1];exact a,by rw[←h2];exact b⟩
  ·rintro⟨x,hx,a,b⟩;cases hx;exact⟨q',rfl,by rw[h1];exact a,by rw[h2];exact b⟩
 ·rw[List.getElem?_set,if_neg (Ne.symm hk)]
theorem At.up{L:List Sq}{i k n:Nat}{s:List bV}{q q':Sq}(h:At L k n s)(hq:L[i]? =some q)(h1:q'.n=q.n)(h2:q'.s=q.s):At (L.set i q') k n s:=(At.put hq h1 h2).2 h
theorem wH.mono{L L':List Sq}{q:Sq}(hm:∀k n s,At L k n s→At L' k n s)(h:wH T tb p0 L q):wH T tb p0 L' q:=by
 obtain⟨js,h1,h2,h3⟩:=h
 refine⟨js,h1,h2,fun m a ha=>?_⟩
 obtain⟨jm,g1,g2⟩:=h3 m a ha
 exact⟨jm,g1,hm _ _ _ g2⟩
theorem ko.put{L:List Sq}{i i':Nat}(h:ko T tb p0 Φ L i i')(hi:i'≤i+1){q q':Sq}(hq:L[i]? =some q)(h1:q'.n=q.n)(h2:q'.s=q.s):ko T tb p0 Φ (L.set i q') i (i+1) where
 st:=fun k x hx=>by
  by_cases hk:k=i
  ·subst hk
   rw[List.getElem?_set,if_pos rfl,if_pos (List.getElem?_eq_some_iff.1 hq).1]at hx
   cases hx
   rw[h1,h2];exact h.st _ _ hq
  ·rw[List.getElem?_set,if_neg (Ne.symm hk)]at hx
   exact h.st _ _ hx
 JN:=fun k k' n s a b=>h.JN k k' n s ((At.put hq h1 h2).1 a) ((At.put hq h1 h2).1 b)
 dn:=fun k x hk hx=>by
  rw[List.getElem?_set,if_neg (by omega)]at hx
  exact(h.dn k x hk hx).mono fun k n s a=>(At.put hq h1 h2).2 a
 nw:=fun k x hk hx=>by
  rw[List.getElem?_set,if_neg (by omega)]at hx
  exact h.nw k x (by omega) hx
theorem ko.add{L L':List Sq}{i i' u n:Nat}{s:List bV}(h:ko T tb p0 Φ L i i')(hi:i≤L.length)(hΦ:Φ u n s)(hL:L'=L∨L'=L++[qo n s]∧∀k,¬At L k n s):ko T tb p0 Φ L' i i':=by
 rcases hL with rfl|⟨rfl,hno⟩
 ·exact h
 ·have key:∀k q,(L++[qo n s])[k]? =some q→L[k]? =some q∨(k=L.length∧q=qo n s):=fun k q hk=>by
   by_cases hkl:k<L.length
   ·rw[List.getElem?_append_left hkl]at hk;exact .inl hk
   ·rw[List.getElem?_append_right (by omega)]at hk
    have:=(List.getElem?_eq_some_iff.1 hk).1
    simp only[List.length_singleton]at this
    have hk0:k - L.length=0:=by omega
    rw[hk0]at hk
    simp at hk
    exact .inr ⟨by omega,hk.symm⟩
  have key2:∀k n' s',At (L++[qo n s]) k n' s'→At L k n' s'∨(k=L.length∧n'=n∧s'=s):=fun k n' s' ⟨q,h1,h2,h3⟩=>by
   rcases key k q h1 with h4|⟨h4,rfl⟩
   ·exact .inl ⟨q,h4,h2,h3⟩
   ·exact .inr ⟨h4,h2.symm,h3.symm⟩
  refine⟨fun k q hq=>?_,fun k k' n' s' a b=>?_,fun k q hk hq=>?_,fun k q hk hq=>?_⟩
  ·rcases key k q hq with hq|⟨_,rfl⟩
   ·exact h.st k q hq
   ·exact⟨u,hΦ⟩
  ·rcases key2 _ _ _ a with a2|⟨a2,e1,e2⟩
   ·rcases key2 _ _ _ b with b2|⟨b2,e1,e2⟩
    ·exact h.JN _ _ _ _ a2 b2
    ·rw[e1,e2]at a2;exact absurd a2 (hno _)
   ·rcases key2 _ _ _ b with b2|⟨b2,_,_⟩
    ·rw[e1,e2]at b2;exact absurd b2 (hno _)
    ·omega
  ·rcases key k q hq with hq|⟨h1,_⟩
   ·exact(h.dn k q hk hq).mono fun _ _ _ a=>a.app
   ·omega
  ·rcases key k q hq with hq|⟨_,rfl⟩
   ·exact h.nw k q hk hq
   ·rfl
theorem ko.next{L:List Sq}{i:Nat}{q:Sq}(h:ko T tb p0 Φ L i (i+1))(hq:L[i]? =some q)(hd:wH T tb p0 L q):ko T tb p0 Φ L (i+1) (i+1) where
 st:=h.st
 JN:=h.JN
 dn:=fun k x hk hx=>by
  by_cases hki:k=i
  ·subst hki;rw[hq]at hx;cases hx;exact hd
  ·exact h.dn k x (by omega) hx
 nw:=h.nw
theorem ko.JM{U:List (Nat×List bV)}(hU:∀ {u n s},Φ u n s→(n,s)∈U){L:List Sq}{i i':Nat}(h:ko T tb p0 Φ L i i'):L.length≤U.length:=by
 have:=oW (L.map fun q=>(q.n,q.s)) U (by
  unfold List.Nodup
  rw[List.pairwise_map,List.pairwise_iff_getElem]
  intro a b ha hb hab he
  have e1:L[a]? =some L[a]:=List.getElem?_eq_getElem ha
  have e2:L[b]? =some L[b]:=List.getElem?_eq_getElem hb
  injection he with e3 e4
  have:=h.JN a b _ _ ⟨_,e1,rfl,rfl⟩ ⟨_,e2,e3.symm,e4.symm⟩
  omega) (fun x hx=>by
  obtain⟨q,hq,rfl⟩:=List.mem_map.1 hx
  obtain⟨k,hk⟩:=List.getElem?_of_mem hq
  obtain⟨u,hu⟩:=h.st k q hk
  exact hU hu)
 rwa [List.length_map]at this
theorem jK.put{i k:Nat}{blk:cK}{xs:List PV}{x v:PV}(hx:xs[k]? =some x)(h:AY i blk x v):jK i blk xs (xs.set k v):=by
 refine⟨by simp,fun j a b ha hb=>?_⟩
 by_cases hjk:j=k
 ·subst hjk
  rw[hx]at ha
  cases ha
  rw[List.getElem?_set,if_pos rfl,if_pos (List.getElem?_eq_some_iff.1 hx).1]at hb
  cases hb
  exact h
 ·rw[List.getElem?_set,if_neg (Ne.symm hjk),ha]at hb
  cases hb
  exact .same _
theorem Gs{tbs:List de}{j i:Nat}{blk:cK}{rest:cg}{x:Option cK}(hi:rest[i]? =some x):zb (i+1) blk (GP T tbs j rest) (GP T tbs j (rest.set i none)):=by
 refine⟨by simp[GP],aW hi,fun m hm=>.inl ?_⟩
 match m,hm with
 |0,_=>rfl
 |m+1,hm=>
  show(rest.set i none)[m]? =rest[m]?
  rw[List.getElem?_set,if_neg (by omega)]
theorem HH{tbs:List de}{j i jr:Nat}{blk:cK}{rest:cg}{L:List Sq}{q q':Sq}(hne:j≠jr){x:Option cK}(hr:rest[jr]? =some x)(hj:rest[j]? =some (eV p0 L))(hq:L[i]? =some q){v:PV}(hq':kF p0 q'=(kF p0 q).set 8 v)(hf:AY (jr+1) blk q.x v):
  zb (jr+1) blk (GP T tbs j rest) (GP T tbs j ((rest.set jr none).set j (eV p0 (L.set i q')))):=by
 refine⟨by simp[GP],aD (aW hr) hne,fun m hm=>?_⟩
 match m,hm with
 |0,_=>exact .inl rfl
 |m+1,hm=>
  by_cases hmj:m=j
  ·subst hmj
   refine .inr ⟨_,_,hj,aW (aD hj (by omega)),?_⟩
   rw[List.length_set,←uR 8 hq (by omega) hq']
   exact .row (jK.put (eA 8 hq (by omega) I) hf)
  ·refine .inl ?_
   show((rest.set jr none).set j _)[m]? =rest[m]?
   rw[List.getElem?_set,if_neg (by omega),List.getElem?_set,if_neg (by omega)]
end
section
variable {T:ak} {tb:Nat→de} {p0:dx} {Φ:Nat→Nat→List bV→Prop}
def K3(T:ak)(tb:Nat→de)(p0:dx)(Φ:Nat→Nat→List bV→Prop)(tbs:List de)(n:Nat)(s:List bV)(r:PV)(σ':cg):Prop:=
 ∃(L:List Sq) (j:Nat) (rest:cg),r= .tuple [.ptr 0 0,flag true]∧σ'=GP T tbs j rest∧rest[j]? =some (eV p0 L)∧ko T tb p0 Φ L L.length L.length∧At L 0 n s
abbrev qi(js:List Int):Option cK:=some (.row 3 1 js.length (aK js))
structure Ln (T:ak) (tb:Nat→de) (p0:dx) (Φ:Nat→Nat→List bV→Prop) (L:List Sq) (j:Nat) (rest:cg) (i n:Nat) (s:List bV) (nb jr:Nat) (k:Nat) (js:List Int) (n0:Nat) (s0:List bV):Prop where
 row:rest[j]? =some (eV p0 L)
 Lx:At L 0 n0 s0
 ex:ko T tb p0 Φ L i (i+1)
 at_:L[i]? =some ⟨n,s,av (bL T tb p0 n s).ax,.own (jr+1),(bL T tb p0 n s).cS,0,0⟩
 K5:rest[nb]? =some (some (cK.cells 66 (cL (bL T tb p0 n s).eo)))
 KF:rest[jr]? =some (qi js)
 Kg:j≠jr
 Lq:nb≠jr
 KT:nb≠j
 lj:js.length=k
 hd:∀(m:Nat) a,m<k→(bL T tb p0 n s).ax[m]? =some a→∃jm:Nat,js[m]? =some (jm:Int)∧At L jm (aS T a.toNat).toNat (bL T tb p0 n s).eo.stack
theorem Dk(xs:List PV)(k:Nat)(p:PV)(h:k<xs.length):over xs k [p]=xs.set k p:=by
 unfold over
 rw[List.set_eq_take_append_cons_drop,if_pos h]
 rfl
theorem vh{tbs:List de}{j:Nat}{rest:cg}{L:List Sq}{i:Nat}{q b:Sq}(c:Nat)(h:L[i]? =some q)(hc:c<12){v:PV}(hb:kF p0 b=(kF p0 q).set c v):
  (GP T tbs j rest).set (j+1) (some ((cK.row 119 12 L.length (gL p0 L)).qa (over (gL p0 L) (i*12+c) [v])))=GP T tbs j (rest.set j (eV p0 (L.set i b))):=by
 have hil:=(List.getElem?_eq_some_iff.1 h).1
 rw[Dk _ _ _ (by rw[oC];omega),uR c h hc hb]
 unfold GP eV
 rw[List.length_set]
 rfl
set_option maxHeartbeats 4000000 in
theorem w7(R:iK T tb p0 Φ)(hv:aq T=true)(h12:T.nodes≤12){U:List (Nat×List bV)}(hU:∀ {u n s},Φ u n s→(n,s)∈U)(hUl:U.length≤20000)(tbs:List de)(htb:∀n:Nat,(n:Int)<T.nodes→tbs[n]? =some (tb n))
  {u n:Nat} {p:dx} (hΦ:Φ u n p.stack) (hp:cV p p.stack=cV p0 p.stack):
  bU Tryz.prog 136 [aP T,eE tbs,dB p,num n] [] (K3 T tb p0 Φ tbs n p.stack):=by
 refine ct Tryz.func136 I Tryz.ntmps136 I<|ab (.a 4 I<|.k [1,3,4,6] I)<|aO<|aw 3 I<|b7 (fD I I I) I<|aw 1 I<|aE [1,3,4,6,10] I ?_
 refine cz 0 4 119 12 I I ?_
 refine eF (σ':=GP T tbs 0 [eV p0 []]) I ?_
 refine aO<|aw 3 I<|cN I I (bU.mono (xl T p0 tbs [] (by simp) 0 [eV p0 []] I n p hp) (fun y σ' h=>?_))
 obtain⟨i0,L0,j0,rest0,rfl,rfl,hj0,_,_,hat,hL0⟩:=h
 refine aE [1,4,10] I ?_
 obtain⟨rfl,rfl⟩:L0=[qo n p.stack]∧i0=0:=by
  obtain⟨q,h1,_⟩:=hat
  have:=(List.getElem?_eq_some_iff.1 h1).1
  rcases hL0 with rfl|⟨rfl,_⟩
  ·simp at this
  ·exact⟨rfl,by simp at this;exact this⟩
 have hE0:ko T tb p0 Φ [qo n p.stack] 0 0:=ko.add (L:=[]) ⟨fun k q h=>by simp at h,fun k k' n s ⟨q,h,_⟩=>by simp at h,fun k q _ h=>by simp at h,fun k q _ h=>by simp at h⟩ (by simp) hΦ hL0
 refine aj<|ab (.a 1 I<|.k [1,4,10,11] I)<|au<|eH [1,4,10,11] I<|bq (fun r st=>∃(i:Nat) (L:List Sq) (j:Nat) (rest:cg),i≤L.length∧r=U.length - i∧rest[j]? =some (eV p0 L)∧ko T tb p0 Φ L i i∧At L 0 n p.stack∧st=⟨[(1,eE tbs),(4,.bb (bC T) 0),(10,.ptr 0 0),(11,num i)],GP T tbs j rest⟩) U.length ⟨0,_,j0,rest0,by simp,by omega,hj0,hE0,hat,rfl⟩ ?_
 clear hj0 hE0 hat hL0
 rintro r st ⟨i,L,j,rest,hi,rfl,hj,hE,hat,rfl⟩
 have hfew:=hE.JM hU
 refine aj<|ab (.a 4 I<|.v (aR I (ba.tk.get I) I I I) I<|.v (nQ I (ba.el.get I) I hj) I<|.a 1 I<|.k [1,4,10,11,32] I)<|ag I (fun hc=>?_) (fun hc=>?_)
 ·have hlt:i<L.length:=by have:=tt hc;omega
  obtain⟨q,hq⟩:∃q,L[i]? =some q:=⟨_,List.getElem?_eq_getElem hlt⟩
  have hq0:=hE.nw i q (Nat.le_refl _) hq
  obtain⟨u1,hu1⟩:=hE.st i q hq
  obtain⟨m,s,rfl⟩:∃m s,q=qo m s:=⟨_,_,hq0⟩
  replace hu1:Φ u1 m s:=hu1
  have hmn:=R.node hu1
  obtain⟨hsm,hsl⟩:=R.small hu1
  have htn:=htb m hmn
  refine ai<|aj<|au<|aj<|ab (.a 2 I<|.k [1,4,10,11,36] I)<|ag I (fun h=>?_) (fun hc=>?_)
  ·have h:=tt h
   exact absurd h (by omega)
  ·refine ai<|aO<|aw 3 I ?_
   refine bw (aR I (ba.tk.get I) I I I) I ?_
   refine aw 1 I ?_
   refine bw (b9 (i:=(i:Int)) I (ba.el.get I) I hj rfl (by omega) (by omega) I) I ?_
   refine bw (fh I (ba.tk.get I) I hj (wa hq) I) I ?_
   refine b7 (cq.to (nd I (ba.zk.get I)) (p':=.ptr (rest.length+1) 0) (σ'':=GP T tbs j (rest++[some (cK.cells 119 [num 0,num 0,num 0,num 0,num 0,.raw (.slice none 0 0),num 0,.raw (.slice none 0 0),.raw (.slice none 0 0),num 0,num 0,num 0])])) I I) I ?_
   refine bc (cq.to (σ:=GP T tbs j (rest++[some (cK.cells 119 [num 0,num 0,num 0,num 0,num 0,.raw (.slice none 0 0),num 0,.raw (.slice none 0 0),.raw (.slice none 0 0),num 0,num 0,num 0])])) (mQ (i:=rest.length+1) (off:=0) (ys:=kF p0 (qo m s)) I (ba.tk.get I) I I I I (show(rest++[some (cK.cells 119 [num 0,num 0,num 0,num 0,num 0,.raw (.slice none 0 0),num 0,.raw (.slice none 0 0),.raw (.slice none 0 0),num 0,num 0,num 0])])[rest.length]? =_ from cU rfl) (Nat.le_of_ble_eq_true rfl)) (σ'':=GP T tbs j (rest++[some (cK.cells 119 (kF p0 (qo m s)))])) I (by simp[GP];rfl)) I I ?_
   refine aE [1,4,10,11,12] I ?_
   obtain⟨r1,hr1⟩:∃r1,rest++[some (cK.cells 119 (kF p0 (qo m s)))]=r1:=⟨_,rfl⟩
   have l1:r1.length=rest.length+1:=by rw[←hr1];simp
   have b1:r1[rest.length]? =some (some (cK.cells 119 (kF p0 (qo m s)))):=hr1▸cU rfl
   have j1:r1[j]? =some (eV p0 L):=hr1▸bS hj
   rw[hr1]
   refine oo (rest.length+1) (show(GP T tbs j r1)[rest.length+1]? =_ from b1) (Gs b1) (.cons 1 I (.same _)<|.cons 4 I (.same _)<|.cons 10 I (.same _)<|.cons 11 I (.same _)<|.cons 12 I (.ptr 0) .nil) ?_
   have hjr:j<rest.length:=(List.getElem?_eq_some_iff.1 hj).1
   obtain⟨r2,hr2⟩:∃r2,r1.set rest.length none=r2:=⟨_,rfl⟩
   have l2:r2.length=rest.length+1:=by rw[←hr2];simp[l1]
   have j2:r2[j]? =some (eV p0 L):=hr2▸aD j1 (by omega)
   rw[hr2]
   clear hr2 j1 b1 l1 hr1 r1
   have hO:dj T (tb m) (cV p0 s)=bL T tb p0 m s:=rfl
   have hbr:=R.step hu1
   have hpk:=fun h=>J5.eo R hu1 h
   obtain⟨O,hOO⟩:∃O,bL T tb p0 m s=O:=⟨_,rfl⟩
   rw[hOO]at hO hbr hpk
   have htl:=(List.getElem?_eq_some_iff.1 htn).1
   have hal:O.ax.length≤1000:=by
    rcases hbr with h|⟨h,_⟩
    ·rw[h];simp
    ·exact h
   refine vk 20 2 (GP T tbs j r2::GP T tbs j (r2++[some (cK.cells 66 [num 0,num 0,num 0,num 0,.raw (.slice none 0 0),num 0])])::GP T tbs j (r2++[some (cK.cells 66 (cL O.eo))])::[]) (⟨aP T,none,0,1⟩::⟨_,none,0,1⟩::⟨_,none,0,1⟩::⟨num m,none,0,1⟩::⟨_,none,0,1⟩::⟨fw (tb m),none,0,1⟩::⟨_,none,0,1⟩::⟨dB (cV p0 s),none,0,1⟩::⟨vv O,none,0,1⟩::⟨vv O,none,0,1⟩::⟨av O.ax,none,0,1⟩::⟨dB O.eo,none,0,1⟩::⟨num O.cS,none,0,2⟩::⟨.ptr (rest.length+2) 0,some 0,0,0⟩::⟨_,none,1,1⟩::⟨_,some 1,0,0⟩::⟨_,none,2,2⟩::[]) _ mixed ?grd1 rfl rfl rfl rfl (.cons (.val [4] I I (yz (bZ (aZ I) (bZ (aZ I) df))) I I)<|.cons (.val [1] I I (yz (bZ (aZ I) (bZ (aZ I) df))) I I)<|.cons (.val [12] I I (yz (bZ (aZ I) (bZ (aZ I) df))) I I)<|.cons (.val [48] I I (yz (bZ (aZ I) (bZ (aZ I) df))) I I)<|.cons (.val [47,49] I I (yz (bZ (aN ((m*3)) I) (bZ (aN ((m*3)) I) df))) I I)<|.cons (.val [50] I I (yz (bZ (eU I (kz tbs m (tb m) htn) I) (bZ (eU I (kz tbs m (tb m) htn) I) df))) I I)<|.cons (.val [12] I I (yz (bZ (aZ I) (bZ (aZ I) df))) I I)<|.cons (.val [52] I I (yz (bZ (eU I ((rfl:((kF p0 (qo m s)).drop 1).take 6=cL (cV p0 s))) I) (bZ (eU I ((rfl:((kF p0 (qo m s)).drop 1).take 6=cL (cV p0 s))) I) df))) I I)<|.cons (.val [46,51,53] I I (yz (bZ (dU I (hO▸uJ T (tb m) (cV p0 s) hsl)) (bZ (dU I (hO▸uJ T (tb m) (cV p0 s) hsl)) df))) I I)<|.cons (.val [54] I I (yz (bZ (aZ I) (bZ (aZ I) df))) I I)<|.cons (.val [45] I I (yz (bZ (aZ I) (bZ (aZ I) df))) I I)<|.cons (.val [45] I I (yz (bZ (aZ I) (bZ (aZ I) df))) I I)<|.cons (.val [45] I I (yz (bZ (aZ I) (bZ (aZ I) (bZ (aZ I) df)))) I I)<|.cons (.py [] I I I I (cq.to (σ:=GP T tbs j r2) (nd I (ba.zk.get I)) (p':=.ptr (rest.length+2) 0) (σ'':=GP T tbs j (r2++[some (cK.cells 66 [num 0,num 0,num 0,num 0,.raw (.slice none 0 0),num 0])])) (by simp[GP,l2]) I) I I)<|.cons (.val [55] I I (yz (bZ (aZ I) df)) I I)<|.cons (.ll [14,56] I I I I (cq.to (σ:=GP T tbs j (r2++[some (cK.cells 66 [num 0,num 0,num 0,num 0,.raw (.slice none 0 0),num 0])])) (mQ (i:=rest.length+2) (off:=0) (ys:=cL O.eo) I (ba.tk.get I) I I I I (show(r2++[some (cK.cells 66 [num 0,num 0,num 0,num 0,.raw (.slice none 0 0),num 0])])[rest.length+1]? =_ from cU l2) (Nat.le_of_ble_eq_true rfl)) (σ'':=GP T tbs j (r2++[some (cK.cells 66 (cL O.eo))])) I (by rw[show rest.length+2=r2.length+1 by omega];simp[GP];rfl)) I)<|.cons (.val [57] I I (yz (bZ (aZ I) df)) I I) .nil) (aY (ks:=[1,4,10,11,13,14,15]) I) ?_
   case grd1=>kernel_rfl
   obtain⟨r3,hr3⟩:∃r3,r2++[some (cK.cells 66 (cL O.eo))]=r3:=⟨_,rfl⟩
   have l3:r3.length=rest.length+2:=by rw[←hr3];simp[l2]
   have j3:r3[j]? =some (eV p0 L):=hr3▸bS j2
   have n3:r3[rest.length+1]? =some (some (cK.cells 66 (cL O.eo))):=hr3▸cU l2
   rw[hr3]
   clear hr3 j2 l2 r2
   have hb7:i*12+12≤(gL p0 L).length:=by rw[oC];omega
   have hq1:(L.set i ⟨m,s,av O.ax,.raw (.slice none 0 0),0,0,0⟩)[i]? =some ⟨m,s,av O.ax,.raw (.slice none 0 0),0,0,0⟩:=aW hq
   refine vk 20 2 (GP T tbs j r3::GP T tbs j (r3.set j (eV p0 (L.set i ⟨m,s,av O.ax,.raw (.slice none 0 0),0,0,0⟩)))::GP T tbs j ((r3.set j (eV p0 (L.set i ⟨m,s,av O.ax,.raw (.slice none 0 0),0,0,0⟩))).set j (eV p0 ((L.set i ⟨m,s,av O.ax,.raw (.slice none 0 0),0,0,0⟩).set i ⟨m,s,av O.ax,.raw (.slice none 0 0),O.cS,0,0⟩)))::[]) (⟨_,none,0,0⟩::⟨_,none,0,0⟩::⟨_,none,0,0⟩::⟨.own (j+1),none,0,0⟩::⟨_,none,0,0⟩::⟨_,none,0,0⟩::⟨_,none,0,0⟩::⟨_,none,0,0⟩::⟨.own (j+1),none,0,0⟩::⟨_,none,0,1⟩::⟨_,none,0,0⟩::⟨_,none,0,1⟩::⟨.ptr (j+1) (i*12),none,0,0⟩::⟨_,none,0,0⟩::⟨_,some 0,0,0⟩::⟨.ptr (j+1) (i*12),none,1,1⟩::⟨_,none,1,1⟩::⟨_,some 1,0,0⟩::[]) _ mixed ?grd2 rfl rfl rfl rfl (.cons (.val [10] I I (yz (bZ (aZ I) df)) I I)<|.cons (.val [58] I I (yz (bZ (aZ I) df)) I I)<|.cons (.val [59] I I (yz (bZ (aZ I) df)) I I)<|.cons (.val [60] I I (yz (bZ (aR I (ba.tk.get I) I I I) df)) I I)<|.cons (.val [11] I I (yz (bZ (aZ I) df)) I I)<|.cons (.val [10] I I (yz (bZ (aZ I) df)) I I)<|.cons (.val [63] I I (yz (bZ (aZ I) df)) I I)<|.cons (.val [64] I I (yz (bZ (aZ I) df)) I I)<|.cons (.val [65] I I (yz (bZ (aR I (ba.tk.get I) I I I) df)) I I)<|.cons (.val [11] I I (yz (bZ (aZ I) (bZ (aZ I) df))) I I)<|.cons (.val [13] I I (yz (bZ (aZ I) df)) I I)<|.cons (.val [15] I I (yz (bZ (aZ I) (bZ (aZ I) df))) I I)<|.cons (.val [61,62] I I (yz (bZ (b9 I (ba.el.get I) I j3 rfl (by omega) (by omega) I) df)) I I)<|.cons (.val [70] I I (yz (bZ (aZ I) df)) I I)<|.cons (.ll [68,71] I I I I (cq.to (σ:=GP T tbs j r3) (cd I (ba.tk.get I) I I j3 (show i*12+7<(gL p0 L).length by omega)) (σ'':=GP T tbs j (r3.set j (eV p0 (L.set i ⟨m,s,av O.ax,.raw (.slice none 0 0),0,0,0⟩)))) I (vh 7 hq (by omega) I)) I)<|.cons (.val [66,67] I I (yz (bZ (b9 I (ba.el.get I) I (aW j3) I (by omega) (by rw[List.length_set];omega) I) df)) I I)<|.cons (.val [72] I I (yz (bZ (aZ I) df)) I I)<|.cons (.ll [69,73] I I I I (cq.to (σ:=GP T tbs j (r3.set j (eV p0 (L.set i ⟨m,s,av O.ax,.raw (.slice none 0 0),0,0,0⟩)))) (cd I (ba.tk.get I) I I (aW j3) (show i*12+9<(gL p0 (L.set i _)).length by rw[oC,List.length_set];omega)) (σ'':=GP T tbs j ((r3.set j (eV p0 (L.set i ⟨m,s,av O.ax,.raw (.slice none 0 0),0,0,0⟩))).set j (eV p0 ((L.set i ⟨m,s,av O.ax,.raw (.slice none 0 0),0,0,0⟩).set i ⟨m,s,av O.ax,.raw (.slice none 0 0),O.cS,0,0⟩)))) I (vh 9 hq1 (by omega) I)) I) .nil) (aY (ks:=[1,4,10,11,13,14]) I) ?_
   case grd2=>kernel_rfl
   rw[List.set_set,List.set_set]
   obtain⟨L2,hL2⟩:∃L2,L.set i (⟨m,s,av O.ax,.raw (.slice none 0 0),O.cS,0,0⟩:Sq)=L2:=⟨_,rfl⟩
   have hE2:ko T tb p0 Φ L2 i (i+1):=by rw[←hL2];exact hE.put (by omega) hq rfl rfl
   have hat2:At L2 0 n p.stack:=by rw[←hL2];exact hat.up hq rfl rfl
   have hq2:L2[i]? =some ⟨m,s,av O.ax,.raw (.slice none 0 0),O.cS,0,0⟩:=hL2▸aW hq
   have ll2:L2.length=L.length:=by rw[←hL2];simp
   rw[hL2]
   obtain⟨r5,hr5⟩:∃r5,r3.set j (eV p0 L2)=r5:=⟨_,rfl⟩
   have l5:r5.length=rest.length+2:=by rw[←hr5];simp[l3]
   have j5:r5[j]? =some (eV p0 L2):=hr5▸aW j3
   have n5:r5[rest.length+1]? =some (some (cK.cells 66 (cL O.eo))):=hr5▸aD n3 (by omega)
   rw[hr5]
   clear hr5 j3 n3 l3 r3 hL2 hq1 hb7 hj hE hat
   refine rZ (j+1) (i*12+8) 3 1 (show(GP T tbs j r5)[j+1]? =_ from j5) (eA 8 hq2 (by omega) I) ?_
   refine eF (σ':=GP T tbs j ((r5++[qi []]).set j (eV p0 (L2.set i ⟨m,s,av O.ax,.own (rest.length+2+1),O.cS,0,0⟩)))) (by rw[show(GP T tbs j r5).length=rest.length+2+1 by simp[GP,l5],uR (p0:=p0) (b:=⟨m,s,av O.ax,.own (rest.length+2+1),O.cS,0,0⟩) (v:=.own (rest.length+2+1)) 8 hq2 (by omega) I];unfold GP eV;rw[List.length_set];rfl) ?_
   have hX:Ln T tb p0 Φ (L2.set i ⟨m,s,av O.ax,.own (rest.length+2+1),O.cS,0,0⟩) j ((r5++[qi []]).set j (eV p0 (L2.set i ⟨m,s,av O.ax,.own (rest.length+2+1),O.cS,0,0⟩))) i m s (rest.length+1) (rest.length+2) 0 [] n p.stack:=by
    refine⟨aW (bS j5),hat2.up hq2 rfl rfl,hE2.put (by omega) hq2 rfl rfl,by rw[hOO];exact aW hq2,by rw[hOO];exact aD (bS n5) (by omega),aD (cU l5) (by omega),by omega,by omega,by omega,rfl,fun z a hz=>absurd hz (by omega)⟩
   obtain⟨L3,hL3⟩:∃L3,L2.set i (⟨m,s,av O.ax,.own (rest.length+2+1),O.cS,0,0⟩:Sq)=L3:=⟨_,rfl⟩
   rw[hL3]at hX ⊢
   obtain⟨r6,hr6⟩:∃r6,(r5++[qi []]).set j (eV p0 L3)=r6:=⟨_,rfl⟩
   rw[hr6]at hX ⊢
   clear hr6 hL3 hq2 j5 n5 l5 r5 hE2 hat2 hq0
   refine ab (.a 1 I<|.k [1,4,10,11,13,14,16] I)<|au<|eH [1,4,10,11,13,14,16] I<|bq (fun r st=>∃(k:Nat) (L:List Sq) (j:Nat) (re:cg) (jr:Nat) (js:List Int),k≤O.ax.length∧r=O.ax.length - k∧Ln T tb p0 Φ L j re i m s (rest.length+1) jr k js n p.stack∧st=⟨[(1,eE tbs),(4,.bb (bC T) 0),(10,.ptr 0 0),(11,num i),(13,av O.ax),(14,.ptr (rest.length+2) 0),(16,num k)],GP T tbs j re⟩) O.ax.length ⟨0,L3,j,r6,rest.length+2,[],by omega,by omega,hX,rfl⟩ ?_
   clear hX
   rintro r st ⟨k,L4,j4,r4,jr,js,hk,rfl,X,rfl⟩
   have hfew4:=X.ex.JM hU
   refine aj<|ab (.a 4 I<|.k [1,4,10,11,13,14,16,77] I)<|ag I (fun hc=>?_) (fun hc=>?_)
   ·have hlt:k<O.ax.length:=by have:=tt hc;omega
    have hne:O.ax≠[]:=fun h=>by rw[h]at hlt;simp at hlt
    have hmem:O.ax.getD k 0∈O.ax:=by rw[List.getD_eq_getElem?_getD,List.getElem?_eq_getElem hlt];exact List.getElem_mem hlt
    obtain⟨b,m2,hab,hb,hm2,u',hu',hΦ'⟩:∃b m2:Nat,O.ax.getD k 0=(b:Int)∧b<2*T.ae.length∧aS T b=(m2:Int)∧∃u',u'<u1∧Φ u' m2 O.eo.stack:=by
     rcases hbr with h|⟨_,_,h⟩
     ·exact absurd h hne
     ·exact h _ hmem
    have hll:=bT hv
    refine ai<|aj<|au<|EO 8 20 [80,81,82,83,84,85,86,87] mixed (by kernel_rfl) (by kernel_rfl) (by kernel_rfl) I (.a 4 I<|.v [82,83] (aN (k) I) I I<|.v [84] (aJ I ((aB _ k hlt).trans (by rw[hab]))) I I<|.v [81,85] (dU I ((show Can Tryz.prog 41 [aP T,num b] (· =num m2) by have h:=gX T hv b hb;rw[hm2]at h;exact h))) I I<|.v [14] (cR (σ:=GP T tbs j4 r4) I (ba.tk.get I) I (X.K5.trans (by rw[hOO])) I) I I<|.k [1,4,10,11,13,14,16,80,86,87] I) ?_
    refine cN I I (bU.mono (xl T p0 tbs L4 (by omega) j4 r4 X.row m2 O.eo (hpk hne)) (fun y σ' h=>?_))
    obtain⟨i1,L1,j1,rest1,rfl,rfl,a1,k1,hj1,hat1,hL1⟩:=h
    refine aw 1 I<|aE [1,4,10,11,13,14,16,17] I ?_
    have hE1:ko T tb p0 Φ L1 i (i+1):=X.ex.add (by have:=(List.getElem?_eq_some_iff.1 X.at_).1;omega) hΦ' hL1
    have hmono:∀k n s,At L4 k n s→At L1 k n s:=fun k n s h=>by
     rcases hL1 with rfl|⟨rfl,_⟩
     ·exact h
     ·exact h.app
    have hq1:L1[i]? =some ⟨m,s,av O.ax,.own (jr+1),O.cS,0,0⟩:=by
     have h0:=X.at_
     rw[hOO]at h0
     rcases hL1 with rfl|⟨rfl,_⟩
     ·exact h0
     ·exact bS h0
    have lj:=X.lj
    have Kg:=X.Kg
    have Lq:=X.Lq
    have KT:=X.KT
    have hjrl:=(List.getElem?_eq_some_iff.1 X.KF).1
    have hnbl:=(List.getElem?_eq_some_iff.1 X.K5).1
    have hk1:=k1.len
    have nb1:rest1[rest.length+1]? =some (some (cK.cells 66 (cL O.eo))):=(k1.same _ hnbl KT).trans (X.K5.trans (by rw[hOO]))
    have KD:rest1[jr]? =some (qi js):=(k1.same _ hjrl (Ne.symm Kg)).trans X.KF
    have hne4:j1≠jr:=by omega
    have hne5:rest.length+1≠j1:=by omega
    have hil1:=(List.getElem?_eq_some_iff.1 hq1).1
    have a2:(rest1.set jr none++[qi (js++[(i1:Int)])])[j1]? =some (eV p0 L1):=bS (aD a1 (by omega))
    refine tO 20 2 (GP T tbs j1 rest1::GP T tbs j1 (rest1.set jr none++[qi (js++[(i1:Int)])])::GP T tbs j1 ((rest1.set jr none++[qi (js++[(i1:Int)])]).set j1 (eV p0 (L1.set i ⟨m,s,av O.ax,.own (rest1.length+1),O.cS,0,0⟩)))::[]) (⟨_,none,0,1⟩::⟨_,none,0,1⟩::⟨_,none,0,1⟩::⟨.own (j1+1),none,0,1⟩::⟨_,none,0,1⟩::⟨_,none,0,0⟩::⟨_,none,0,0⟩::⟨_,none,0,0⟩::⟨.own (j1+1),none,0,0⟩::⟨_,none,0,0⟩::⟨.ptr (j1+1) (i*12),none,0,0⟩::⟨_,none,0,0⟩::⟨.own (jr+1),none,0,0⟩::⟨_,none,0,0⟩::⟨.slice 1 [num (i1:Int)],none,0,0⟩::⟨.own (rest1.length+1),some 0,0,0⟩::⟨.ptr (j1+1) (i*12),none,1,1⟩::⟨_,none,1,1⟩::⟨_,some 1,0,0⟩::[]) _ mixed ?grd3 rfl rfl rfl rfl (.cons (.val [10] I I (yz (bZ (aZ I) (bZ (aZ I) df))) I I)<|.cons (.val [89] I I (yz (bZ (aZ I) (bZ (aZ I) df))) I I)<|.cons (.val [90] I I (yz (bZ (aZ I) (bZ (aZ I) df))) I I)<|.cons (.val [91] I I (yz (bZ (aR I (ba.tk.get I) I I I) (bZ (aR I (ba.tk.get I) I I I) df))) I I)<|.cons (.val [11] I I (yz (bZ (aZ I) (bZ (aZ I) df))) I I)<|.cons (.val [10] I I (yz (bZ (aZ I) df)) I I)<|.cons (.val [94] I I (yz (bZ (aZ I) df)) I I)<|.cons (.val [95] I I (yz (bZ (aZ I) df)) I I)<|.cons (.val [96] I I (yz (bZ (aR I (ba.tk.get I) I I I) df)) I I)<|.cons (.val [11] I I (yz (bZ (aZ I) df)) I I)<|.cons (.val [97,98] I I (yz (bZ (b9 I (ba.el.get I) I a1 rfl (by omega) (by omega) I) df)) I I)<|.cons (.val [99] I I (yz (bZ (aZ I) df)) I I)<|.cons (.val [100] I I (yz (bZ (aR I (ba.tk.get I) I a1 (eA 8 hq1 (by omega) I)) df)) I I)<|.cons (.val [17] I I (yz (bZ (aZ I) df)) I I)<|.cons (.val [102] I I (yz (bZ (aZ I) df)) I I)<|.cons (.py [101,103] I I I I (cq.to (σ:=GP T tbs j1 rest1) (bh (e:=3) (s:=1) (by':=8) (i:=jr+1) (m:=1) (n:=js.length) (xs:=aK js) (ys:=[num (i1:Int)]) I (ba.rk.get I) I KD rfl rfl ⟨by unfold maxLen;omega,by omega⟩) (p':=.own (rest1.length+1)) (σ'':=GP T tbs j1 (rest1.set jr none++[qi (js++[(i1:Int)])])) I (by unfold qi;rw[List.length_append];simp[aK,GP])) I I)<|.cons (.val [92,93] I I (yz (bZ (b9 I (ba.el.get I) I a2 rfl (by omega) (by omega) I) df)) I I)<|.cons (.val [105] I I (yz (bZ (aZ I) df)) I I)<|.cons (.ll [104,106] I I I I (cq.to (σ:=GP T tbs j1 (rest1.set jr none++[qi (js++[(i1:Int)])])) (cd I (ba.tk.get I) I I a2 (show i*12+8<(gL p0 L1).length by rw[oC];omega)) (σ'':=GP T tbs j1 ((rest1.set jr none++[qi (js++[(i1:Int)])]).set j1 (eV p0 (L1.set i ⟨m,s,av O.ax,.own (rest1.length+1),O.cS,0,0⟩)))) I (vh 8 hq1 (by omega) I)) I) .nil) (aY (ks:=[1,4,10,11,13,14,16]) I) ?_
    case grd3=>kernel_rfl
    refine aC (.a 1 I<|.v (aU I) I<|.a 1 I<|.k [1,4,10,11,13,14,16] I) ?_
    refine⟨O.ax.length - (k+1),by omega,k+1,L1.set i ⟨m,s,av O.ax,.own (rest1.length+1),O.cS,0,0⟩,j1,_,rest1.length,js++[(i1:Int)],by omega,rfl,⟨aW a2,(hmono _ _ _ X.Lx).up hq1 rfl rfl,hE1.put (by omega) hq1 rfl rfl,by rw[hOO];exact aW (a:=(⟨m,s,av O.ax,.own (rest1.length+1),O.cS,0,0⟩:Sq)) hq1,by rw[hOO];exact aD (bS (aD nb1 (by omega))) (by omega),aD (cU (by simp)) (by have:=(List.getElem?_eq_some_iff.1 a1).1;omega),by have:=(List.getElem?_eq_some_iff.1 a1).1;omega,by omega,by omega,by simp[lj],fun z a hz ha=>?_⟩,rfl⟩
    by_cases hzk:z<k
    ·obtain⟨jm,g1,g2⟩:=X.hd z a hzk ha
     exact⟨jm,bS g1,(hmono _ _ _ g2).up hq1 rfl rfl⟩
    ·obtain rfl:z=k:=by omega
     rw[hOO]at ha ⊢
     have e1:a=(b:Int):=by rw[←hab,List.getD_eq_getElem?_getD,ha];rfl
     refine⟨i1,cU lj,At.up ?_ hq1 rfl rfl⟩
     rw[e1,Int.toNat_natCast,hm2,Int.toNat_natCast]
     exact hat1
   ·have hke:k=O.ax.length:=by have:=ff hc;omega
    refine oo (jr+1) (show(GP T tbs j4 r4)[jr+1]? =_ from X.KF) (HH (q':=⟨m,s,(av (bL T tb p0 m s).ax),av js,(bL T tb p0 m s).cS,0,0⟩) X.Kg X.KF X.row X.at_ rfl .own) (.cons 1 I (.same _)<|.cons 4 I (.same _)<|.cons 10 I (.same _)<|.cons 11 I (.same _) .nil) ?_
    refine bd<|aC (.a 1 I<|.v (aU I) I<|.a 1 I<|.k [1,4,10,11] I) ?_
    subst hke
    refine⟨U.length - (i+1),by omega,i+1,L4.set i ⟨m,s,(av (bL T tb p0 m s).ax),av js,(bL T tb p0 m s).cS,0,0⟩,j4,(r4.set jr none).set j4 (eV p0 (L4.set i ⟨m,s,(av (bL T tb p0 m s).ax),av js,(bL T tb p0 m s).cS,0,0⟩)),by have:=(List.getElem?_eq_some_iff.1 X.at_).1;rw[List.length_set];omega,rfl,aW (aD X.row (Ne.symm X.Kg)),ko.next (X.ex.put (by omega) X.at_ rfl rfl) (aW X.at_) ⟨js,rfl,by rw[X.lj,hOO],fun z a ha=>?_⟩,X.Lx.up X.at_ rfl rfl,rfl⟩
    have hz:z<O.ax.length:=by rw[←hOO];exact(List.getElem?_eq_some_iff.1 ha).1
    obtain⟨jm,g1,g2⟩:=X.hd z a hz ha
    exact⟨jm,g1,g2.up X.at_ rfl rfl⟩
 ·have hie:i=L.length:=by have:=ff hc;omega
  subst hie
  exact bd<|ab (.a 3 I<|.k [8,9] I)<|ao<|⟨_,az.of I,L,j,rest,rfl,rfl,hj,hE,hat⟩
end
end
end PW
end Go.Proofs.YtnegbdpggideiaaGreatDoor
