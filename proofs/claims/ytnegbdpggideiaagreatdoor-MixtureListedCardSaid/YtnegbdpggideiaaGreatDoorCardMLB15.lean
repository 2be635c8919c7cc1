/- MixtureListed returns true for every input: in permitted states, where all nodes are late or the query is sound, the packet of a node in the state Transition takes its path after the failure. Package-level tables start as the program's text lays them. -/
import Derived.Test.YtnegbdpggideiaaGreatDoorCardMLB14
set_option linter.unusedVariables false
set_option linter.unusedSimpArgs false
set_option maxRecDepth 10000
set_option maxHeartbeats 1000000
namespace Go.Proofs.YtnegbdpggideiaaGreatDoor
namespace PW
open Go.RowKit cE Mem Net fk
theorem Can.mono{P:Program}{f:FuncId}{ps:List PV}{R R':PV→Prop}(h:Can P f ps R)(hr:∀r,R r→R' r):Can P f ps R':=fun F w vs h1 h2 h3=>(h F w vs h1 h2 h3).mono fun _ _ ⟨v,he,hx,r,hR,hv⟩=>⟨v,he,hx,r,hr r hR,hv⟩
section
variable {T:ai} {tb:Nat→dR} {p0:eU}
theorem xL{n m e:Nat}{s s':List bY}{a:Int}{q:List Int}{w:Int}(ho:dj T (tb n) (cS p0 s)=cd (cS p0 s) s' [a])(hm:aS T a.toNat=(m:Int))(h:Br T tb p0 n s q e w):∃q',q=a::q'∧Br T tb p0 m s' q' e w:=by
 cases h with
 |stop h0=>rw[ho]at h0;cases h0
 | @go _ m' _ _ a' p _ ha hm' hr=>
  rw[ho]at ha hr
  have ha:a'∈[a]:=ha
  rw[List.mem_singleton]at ha
  subst ha
  have:m'=m:=by rw[hm']at hm;omega
  subst this
  exact⟨p,rfl,hr⟩
theorem F1{n e:Nat}{s:List bY}{q:List Int}{w:Int}(ho:(dj T (tb n) (cS p0 s)).aI=[])(h:Br T tb p0 n s q e w):q=[]:=by
 cases h with
 |stop _=>rfl
 |go ha _ _=>rw[ho]at ha;cases ha
end
def jH:List Int:=[1,1,0,0]
def mA:eU:=⟨0,0,1,0,[],0⟩
theorem A9:qh cL uH 1=BV.zQ cL uH 1:=BV.CK kp ml (by kernel_rfl)
theorem Fs:rG cL 1 0 jH 0=Hh:=CR
theorem GS:rG cL 1 0 jH 1=BV.zQ cL uH 1:=A9
theorem Gu:rG cL 1 0 jH 2=BV.uI cL [] 2:=BV.Ds kp ml 2
theorem ET:rG cL 1 0 jH 3=G2:=CH
theorem pI:bV cL (rG cL 1 0 jH) mA 0 []=cd (cS mA []) [⟨1,3⟩,⟨1,2⟩,⟨1,1⟩] [7]:=by
 unfold bV;rw[Fs];kernel_rfl
theorem pK:bV cL (rG cL 1 0 jH) mA 3 [⟨1,3⟩,⟨1,2⟩,⟨1,1⟩]=cd (cS mA [⟨1,3⟩,⟨1,2⟩,⟨1,1⟩]) [⟨1,2⟩,⟨1,1⟩] [5]:=by
 unfold bV;rw[ET];kernel_rfl
theorem pM:bV cL (rG cL 1 0 jH) mA 2 [⟨1,2⟩,⟨1,1⟩]=cd (cS mA [⟨1,2⟩,⟨1,1⟩]) [⟨1,1⟩] [3]:=by
 unfold bV;rw[Gu];kernel_rfl
theorem pF:(bV cL (rG cL 1 0 jH) mA 1 [⟨1,1⟩]).aI=[]∧(bV cL (rG cL 1 0 jH) mA 1 [⟨1,1⟩]).dI= -1:=by
 unfold bV;rw[GS];exact⟨by kernel_rfl,by kernel_rfl⟩
def D3(u n:Nat)(s:List bY):Prop:=(u=3∧n=0∧s=[])∨(u=2∧n=3∧s=[⟨1,3⟩,⟨1,2⟩,⟨1,1⟩])∨(u=1∧n=2∧s=[⟨1,2⟩,⟨1,1⟩])∨(u=0∧n=1∧s=[⟨1,1⟩])
theorem AL:Lone cL (rG cL 1 0 jH) mA D3:=by
 refine⟨⟨?_,?_,?_⟩,?_,?_⟩
 ·rintro u n s (⟨_,rfl,_⟩|⟨_,rfl,_⟩|⟨_,rfl,_⟩|⟨_,rfl,_⟩)<;>decide
 ·rintro u n s (⟨_,_,rfl⟩|⟨_,_,rfl⟩|⟨_,_,rfl⟩|⟨_,_,rfl⟩)<;>exact⟨by unfold gE;decide,by decide⟩
 ·rintro u n s (⟨rfl,rfl,rfl⟩|⟨rfl,rfl,rfl⟩|⟨rfl,rfl,rfl⟩|⟨rfl,rfl,rfl⟩)
  ·rw[pI]
   exact .inr ⟨by simp[cd],rfl,fun a ha=>by
    have ha:a∈[(7:Int)]:=ha
    rw[List.mem_singleton]at ha
    subst ha
    exact⟨7,3,rfl,by decide,by kernel_rfl,2,by omega,.inr (.inl ⟨rfl,rfl,rfl⟩)⟩⟩
  ·rw[pK]
   exact .inr ⟨by simp[cd],rfl,fun a ha=>by
    have ha:a∈[(5:Int)]:=ha
    rw[List.mem_singleton]at ha
    subst ha
    exact⟨5,2,rfl,by decide,by kernel_rfl,1,by omega,.inr (.inr (.inl ⟨rfl,rfl,rfl⟩))⟩⟩
  ·rw[pM]
   exact .inr ⟨by simp[cd],rfl,fun a ha=>by
    have ha:a∈[(3:Int)]:=ha
    rw[List.mem_singleton]at ha
    subst ha
    exact⟨3,1,rfl,by decide,by kernel_rfl,0,by omega,.inr (.inr (.inr ⟨rfl,rfl,rfl⟩))⟩⟩
  ·exact .inl pF.1
 ·rintro u n s (⟨_,rfl,rfl⟩|⟨_,rfl,rfl⟩|⟨_,rfl,rfl⟩|⟨_,rfl,rfl⟩)
  ·rw[pI];simp[cd]
  ·rw[pK];simp[cd]
  ·rw[pM];simp[cd]
  ·rw[pF.1];simp
 ·rintro u n s (⟨_,rfl,rfl⟩|⟨_,rfl,rfl⟩|⟨_,rfl,rfl⟩|⟨_,rfl,rfl⟩) ha
  ·rw[pI]at ha;cases ha
  ·rw[pK]at ha;cases ha
  ·rw[pM]at ha;cases ha
  ·exact pF.2
theorem CM{q:List Int}{e:Nat}{w:Int}(h:Br cL (rG cL 1 0 jH) mA 0 [] q e w):q=[7,5,3]:=by
 obtain⟨q1,rfl,h1⟩:=xL (m:=3) pI (by kernel_rfl) h
 obtain⟨q2,rfl,h2⟩:=xL (m:=2) pK (by kernel_rfl) h1
 obtain⟨q3,rfl,h3⟩:=xL (m:=1) pM (by kernel_rfl) h2
 rw[F1 pF.1 h3]
theorem Bv:Can Tryz.prog 33 [aN cL,bS 1 0,aw jH,num 0,num 1] (· = .tuple [aw [7,5,3],num 0]):=by
 have h:=tm (T:=cL) (k:=1) (x:=0) (l:=jH) (s:=0) (d:=1) (Φ:=D3) (by decide) (by kernel_rfl) (by decide) (by decide) AL (U:=[(0,[]),(3,[⟨1,3⟩,⟨1,2⟩,⟨1,1⟩]),(2,[⟨1,2⟩,⟨1,1⟩]),(1,[⟨1,1⟩])])
  (by rintro u n s (⟨_,rfl,rfl⟩|⟨_,rfl,rfl⟩|⟨_,rfl,rfl⟩|⟨_,rfl,rfl⟩)<;>simp) (by decide) (u:=3) (.inl ⟨rfl,rfl,rfl⟩) (by decide)
 exact Can.mono h fun r ⟨q,e,hb,_,hr⟩=>by rw[CM hb]at hr;exact hr
theorem iH:Can Tryz.prog 78 [] (· =aN cL):=by
 refine aG Tryz.func78 rfl Tryz.ntmps78 rfl<|aR<|au 1 rfl<|aH [0] rfl ?_
 refine aR<|au 3 rfl<|aH [0,1] rfl ?_
 refine cq 1 2 127 7 rfl rfl ?_
 refine ak<|ab (.a 1 rfl<|.k [0,1,4] rfl)<|av<|fp [0,1,4] rfl<|bq (fun r s=>∃k,k≤4∧r=4 - k∧s=⟨[(0,.ptr 0 0),(1,.ptr 1 0),(4,num k)],[some (.cells 25 [num 0,.raw (.slice none 0 0),.raw (.slice none 0 0)]),some (.cells 25 [num 4,.raw (.slice none 0 0),.own 2]),some (.row 127 7 k (gv (sq k)))]⟩) 4 ⟨0,by omega,by omega,rfl⟩ ?_
 rintro r s ⟨k,hk,rfl,rfl⟩
 refine ab (.a 1 rfl<|.k [0,1,4,5] rfl)<|ak<|ah rfl (fun hc=>?_) (fun hc=>?_)
 ·have hlt:k<4:=by have:=of_decide_eq_true hc;omega
  refine aj<|ak<|av<|ab (.a 2 rfl<|.k [0,1,2,4] rfl)<|bI<|au 4 rfl<|bE (aT rfl) rfl<|bE (rW rfl rfl rfl (by decide) ((show((k:Int)+1).tmod 4=(((k+1) % 4:Nat):Int) by rw[Int.tmod_eq_emod_of_nonneg (by omega)];omega))) rfl<|bE (Cw rfl (show Tryz.prog.built 125 [(0,.int .i64 1),(1,.int .i64 1)]=some #[.int .i64 1,.int .i64 1] by kernel_rfl)) rfl<|au 2 rfl<|cz (bA rfl (bL.rk.get rfl) rfl rfl rfl rfl (by unfold maxLen;omega)) rfl<|au 2 rfl ?_
  refine ee [0,1,3] (.c 0<|.c 1<|.c 4<|.nil) (.kept rfl (.cells (aE.c<|aE.c<|aE.c<|aE.nil))<|.kept rfl (.cells (aE.c<|aE.c<|aE.c<|aE.nil))<|.kept rfl (.fm rfl (show _=gv (sq (k+1)) by rw[yK];exact xU _ ⟨(k:Int),(((k+1) % 4:Nat):Int),1,1,0,1,0⟩))<|.nil) rfl rfl (aZ ?_)
  refine aB (.v (aT rfl) rfl<|.a 1 rfl<|.k [0,1,4] rfl) ?_
  exact⟨4 - (k+1),by omega,k+1,by omega,rfl,rfl⟩
 ·have hke:k=4:=by have:=of_decide_eq_false hc;omega
  subst hke
  refine bf<|aR<|au 2 rfl<|aH [0] rfl ?_
  exact aq<|⟨_,_,az.of rfl,aC.ja (an.cons aC.pure<|an.cons aC.b7<|an.cons (aC.fu rfl an.pure) an.nil),rfl⟩
def np(c:uK):Bool:=tooBig c.T||decide ((40:Int)<c.S.length)
theorem vU{c:uK}(h:np c=false):c.T.nodes≤12∧c.T.ae.length≤16∧c.S.length≤40:=by
 unfold np at h
 obtain⟨h1,h2⟩:=Bool.or_eq_false_iff.1 h
 have:=Gw h1
 have:=of_decide_eq_false h2
 omega
theorem o6(c:uK):Can Tryz.prog 24 [pC c] (· =flag (np c)):=by
 obtain⟨q1,h1⟩:∃q,decide ((10:Int)<c.T.nodes)=q:=⟨_,rfl⟩
 obtain⟨q2,h2⟩:∃q,decide ((16:Int)<c.T.ae.length)=q:=⟨_,rfl⟩
 obtain⟨q3,h3⟩:∃q,decide ((40:Int)<c.S.length)=q:=⟨_,rfl⟩
 have he:np c=((q1||q2)||q3):=by unfold np tooBig;rw[h1,h2,h3]
 rw[he]
 refine aG Tryz.func24 rfl Tryz.ntmps24 rfl<|ab (.a 2 rfl<|.k [1] rfl)<|bu 2 (.raw (.bool ((q1||q2)||q3))) [] rfl ?_ ?_
 ·refine .a 3 rfl<|.v (cg rfl (h1)) rfl<|.a 1 rfl<|?_
  cases q1
  ·refine .a 4 rfl<|.v (cg rfl (h2)) rfl<|.a 2 rfl<|?_
   cases q2
   ·exact .a 3 rfl<|.v (cg rfl (h3)) rfl<|.a 2 rfl<|.k [2] rfl
   ·exact .a 6 rfl<|.k [2] rfl
  ·exact .a 13 rfl<|.k [2] rfl
 exact aq<|⟨_,_,az.of rfl,aC.pure,rfl⟩
theorem EV:Can Tryz.prog 25 [aN cL,bS 1 0,aw [2,2,3,2]] (· =flag true):=by
 have h:=lI cL 1 0 [2,2,3,2] (by decide)
 rw[show fw cL 1 0 [2,2,3,2]=true by kernel_rfl]at h
 exact h
theorem Fj:Can Tryz.prog 25 [aN cL,bS 1 0,aw [0,1,0,0]] (· =flag false):=by
 have h:=lI cL 1 0 [0,1,0,0] (by decide)
 rw[show fw cL 1 0 [0,1,0,0]=false by kernel_rfl]at h
 exact h
theorem Gf:Can Tryz.prog 25 [aN cL,bS 1 0,aw [1,1,3,2]] (· =flag false):=by
 have h:=lI cL 1 0 [1,1,3,2] (by decide)
 rw[show fw cL 1 0 [1,1,3,2]=false by kernel_rfl]at h
 exact h
theorem jl:Can Tryz.prog 23 [] (· =flag true):=by
 refine aG Tryz.func23 rfl Tryz.ntmps23 rfl<|ab (.a 1 rfl<|.k [] rfl)<|aR<|au 3 rfl<|aH [1] rfl ?_
 refine fT 1 0 0 rfl rfl ?_
 refine dp [] (.cons 1 rfl (Ren.pure (p:=.aX (cn 1 0) 0)) .nil) .nil rfl rfl ?_
 refine ez mixed (by kernel_rfl) (.v [] (dX rfl (iH)) rfl rfl<|.a 2 rfl<|.v [6,7,8] (dX rfl (Bv)) rfl rfl<|.a 5 rfl<|.k [1,2,3] rfl) ?_
 refine mV mixed (by kernel_rfl) 0 (.raw (.bool (true))) [] rfl ?_ ?_
 ·exact .a 5 rfl<|.v [15,16] (dX rfl (se [7,5,3])) rfl rfl<|.a 2 rfl<|.v [] (dX rfl (iH)) rfl rfl<|.a 2 rfl<|.v [20,21,22] (dX rfl (EV)) rfl rfl<|.a 2 rfl<|.v [] (dX rfl (iH)) rfl rfl<|.a 2 rfl<|.v [26,27,28] (dX rfl (Fj)) rfl rfl<|.a 3 rfl<|.v [] (dX rfl (iH)) rfl rfl<|.a 2 rfl<|.v [33,34,35] (dX rfl (Gf)) rfl rfl<|.a 3 rfl<|.k [0] rfl
 exact aq<|⟨_,_,az.of rfl,aC.pure (p:=flag true),rfl⟩
end PW
end Go.Proofs.YtnegbdpggideiaaGreatDoor
namespace Go.Proofs.YtnegbdpggideiaaGreatDoor
namespace PW
open Go.RowKit cE Mem Net fk
theorem jP(k x n:Int):Can Tryz.prog 81 [bS k x,num n] (· =flag (oo k x n)):=by
 obtain⟨q1,hq1⟩:∃q,decide (k=2)=q:=⟨_,rfl⟩
 obtain⟨q2,hq2⟩:∃q,decide (x=n)=q:=⟨_,rfl⟩
 unfold oo
 rw[hq1,hq2]
 refine aG Tryz.func81 rfl Tryz.ntmps81 rfl<|ab (.a 2 rfl<|.k [1,2] rfl)<|bu 4 (.raw (.bool (q1&&q2))) [] rfl ?_ ?_
 ·refine .a 2 rfl<|.v (cg rfl (hq1)) rfl<|.a 1 rfl<|?_
  cases q1
  ·exact .a 6 rfl<|.k [4] rfl
  ·exact .a 3 rfl<|.v (cg rfl (hq2)) rfl<|.a 2 rfl<|.k [4] rfl
 exact aq<|⟨_,_,az.of rfl,aC.pure,rfl⟩
theorem FN(T:ai)(k x:Int)(n:Nat):decide (((cF (ay T k x) (bH T n)).length:Int)>0)=pB T k x n:=by
 unfold pB
 cases h:(List.range (2*T.ae.length)).any fun a=>aL (ay T k x) a&&decide (bb T a=(n:Int))with
 |true=>
  obtain⟨a,h1,h2⟩:=List.any_eq_true.1 h
  obtain⟨h3,h4⟩:=Bool.and_eq_true_iff.1 h2
  have h1:=List.mem_range.1 h1
  have hm:(a:Int)∈cF (ay T k x) (bH T n):=by
   refine List.mem_filter.2 ⟨iS.2 ⟨by rw[cY];omega,by rw[Int.toNat_natCast];exact of_decide_eq_true h4⟩,by rw[Int.toNat_natCast];exact h3⟩
  have:=List.length_pos_of_mem hm
  exact decide_eq_true (by omega)
 |false=>
  refine decide_eq_false fun hp=>?_
  obtain⟨a,ha⟩:=List.exists_mem_of_length_pos (show 0<(cF (ay T k x) (bH T n)).length by omega)
  obtain⟨h1,h2⟩:=List.mem_filter.1 ha
  obtain⟨h3,h4⟩:=iS.1 h1
  obtain⟨h5,h6⟩:=cY.1 h3
  have:=List.any_eq_false.1 h a.toNat (List.mem_range.2 (by omega))
  rw[h2,decide_eq_true h4]at this
  exact this rfl
theorem BM(T:ai)(k x:Int)(n:Nat)(hvc:(ao T&&bW T k x)=true):Can Tryz.prog 64 [aN T,bS k x,num n] (· =flag (!oo k x n&&pB T k x n)):=by
 obtain⟨g,hg⟩:∃g,oo k x n=g:=⟨_,rfl⟩
 obtain⟨c,hc'⟩:∃c,pB T k x n=c:=⟨_,rfl⟩
 have hcd:=(FN T k x n).trans hc'
 rw[hg,hc']
 refine aG Tryz.func64 rfl Tryz.ntmps64 rfl<|ab (.a 3 rfl<|.k [2,3,4] rfl)<|ab (.a 3 rfl<|.c rfl (BB T k x n hvc) rfl<|.a 5 rfl<|.k [2,4,7] rfl)<|bu 6 (.raw (.bool (!g &&c))) [] rfl ?_ ?_
 ·refine .a 2 rfl<|.c rfl (hg▸jP k x n) rfl<|.a 2 rfl<|?_
  cases g
  ·exact .a 2 rfl<|.v (cg rfl (hcd)) rfl<|.a 2 rfl<|.k [6] rfl
  ·exact .a 5 rfl<|.k [6] rfl
 exact aq<|⟨_,_,az.of rfl,aC.pure,rfl⟩
set_option maxHeartbeats 4000000 in
theorem Ai(T:ai)(k x:Int)(l:List Int)(hl:l.length≤1000):Can Tryz.prog 26 [aN T,bS k x,aw l] (· =flag (fw T k x l)):=by
  obtain⟨q1,hq1⟩:∃q,(ao T&&bW T k x)=q:=⟨_,rfl⟩
  obtain⟨q2,hq2⟩:∃q,decide ((l.length:Int)≠T.nodes)=q:=⟨_,rfl⟩
  refine aG Tryz.func26 rfl Tryz.ntmps26 rfl<|ab (.a 3 rfl<|.k [2,3,4] rfl)<|ak<|bu 21 (.raw (.bool (!q1 ||q2))) [2,3,4] rfl ?_ ?_
  · refine .a 2 rfl<|.c rfl (hq1▸gg T k x) rfl<|.a 2 rfl<|?_
    cases q1
    · exact .a 6 rfl<|.k [21,2,3,4] rfl
    · exact .a 3 rfl<|.v (aO rfl (rfl)) rfl<|.v (cg rfl (hq2)) rfl<|.a 1 rfl<|.k [21,2,3,4] rfl
  refine ah rfl (fun hc=>?_) (fun hc=>?_)
  · have hno:fw T k x l=false:=by
      unfold fw
      rw[hq1,if_neg]
      intro h
      obtain⟨h1,h2⟩:=Bool.and_eq_true_iff.1 h
      rw[h1,←hq2]at hc
      have h2:=of_decide_eq_true h2
      simp[h2]at hc
    exact ab (.a 1 rfl<|.k [6] rfl)<|aq<|⟨_,_,az.of rfl,aC.pure,by rw[hno];rfl⟩
  · obtain ⟨h1, rfl⟩ := Bool.or_eq_false_iff.1 hc
    have h1:q1=true:=by simpa using h1
    subst h1
    have hln:(l.length:Int)=T.nodes:=by have:=ff hq2;simpa using this
    have hP:fw T k x l=(dA k x (fun n=>pH (eO l n)) l.length&&(dA k x (fun n=>rS (pB T k x n) (eO l n)) l.length||dA k x (fun n=>nf (eO l n)) l.length)):=by
      unfold fw
      rw[if_pos (by rw[hq1,decide_eq_true hln];rfl)]
    refine aj<|ab (.a 2 rfl<|.k [2,3,4,7,8] rfl)<|ak<|ab (.a 1 rfl<|.k [2,3,4,7,8,9] rfl)<|av<|fp [2,3,4,7,8,9] rfl<|bq (fun r st=>∃i,i≤l.length∧dA k x (fun n=>pH (eO l n)) i=true∧r=l.length - i∧st=⟨[(2,aw l),(3,.aX (bw T) 0),(4,.aX (cn k x) 0),(7,flag (dA k x (fun n=>rS (pB T k x n) (eO l n)) i)),(8,flag (dA k x (fun n=>nf (eO l n)) i)),(9,num i)],[]⟩) l.length ⟨0,by omega,rfl,by omega,rfl⟩ ?_
    rintro r st ⟨i,hi,hO0,rfl,rfl⟩
    have hE:=gL k x (fun n=>rS (pB T k x n) (eO l n)) i
    have hL:=gL k x (fun n=>nf (eO l n)) i
    have hO:=gL k x (fun n=>pH (eO l n)) i
    obtain⟨eb,heb⟩:∃b,dA k x (fun n=>rS (pB T k x n) (eO l n)) i=b:=⟨_,rfl⟩
    obtain⟨lb,hlb⟩:∃b,dA k x (fun n=>nf (eO l n)) i=b:=⟨_,rfl⟩
    rw[heb]at hE ⊢
    rw[hlb]at hL ⊢
    rw[hO0]at hO
    refine ak<|ab (.a 4 rfl<|.k [2,3,4,7,8,9,25] rfl)<|ah rfl (fun hc=>?_) (fun hc=>?_)
    · have hlt:i<l.length:=by have:=tt hc;omega
      obtain⟨g,hg⟩:∃g,oo k x i=g:=⟨_,rfl⟩
      obtain⟨c,hcb⟩:∃c,pB T k x i=c:=⟨_,rfl⟩
      obtain⟨s,hs⟩:∃s,eO l i=s:=⟨_,rfl⟩
      have hsl:l.getD i 0=s:=hs
      simp only[hg,hcb,hs]at hE hL hO
      refine aj<|ak<|av<|ab (.a 2 rfl<|.v (aM (i) rfl) rfl<|.v (aO rfl ((aA l i hlt).trans (by rw[hsl]))) rfl<|.a 1 rfl<|.k [2,3,4,7,8,9,10] rfl)<|ak<|ab (.a 2 rfl<|.c rfl (hg▸jP k x i) rfl<|.k [2,3,4,7,8,9,10,34] rfl)<|ah rfl (fun hc=>?_) (fun hc=>?_)
      · rw[hc,Bool.true_or,Bool.and_true]at hE hL hO
        refine kG (bm (ks:=[2,3,4,7,8,9]) rfl) ?_
        refine bf<|aB (.a 1 rfl<|.v (aT rfl) rfl<|.a 1 rfl<|.k [2,3,4,7,8,9] rfl) ?_
        exact⟨l.length - (i+1),by omega,i+1,by omega,hO,rfl,by rw[hE,hL];rfl⟩
      · have hg0:oo k x i=false:=hg.trans hc
        rw[hc,Bool.false_or]at hE hL hO
        have hco:=BM T k x i hq1
        rw[hg0,hcb,Bool.not_false,Bool.true_and]at hco
        obtain⟨p0,hp0⟩:∃q,decide (s<0)=q:=⟨_,rfl⟩
        obtain⟨p4,hp4⟩:∃q,decide (s>3)=q:=⟨_,rfl⟩
        obtain⟨n0,hn0⟩:∃q,decide (s≠0)=q:=⟨_,rfl⟩
        obtain⟨n1,hn1⟩:∃q,decide (s≠1)=q:=⟨_,rfl⟩
        obtain⟨n3,hn3⟩:∃q,decide (s≠3)=q:=⟨_,rfl⟩
        obtain⟨e2,he2⟩:∃q,decide (s=2)=q:=⟨_,rfl⟩
        obtain⟨e3,he3⟩:∃q,decide (s=3)=q:=⟨_,rfl⟩
        have hok:pH s=(!p0 && !p4):=by
          unfold pH
          rw[←hp0,←hp4]
          by_cases h1:0≤s<;>by_cases h2:s≤3<;>simp[h1,h2]<;>omega
        have her:rS c s=(n3&&(n0|| !c)&&(n1||c)):=by
          unfold rS
          rw[←hn3,←hn0,←hn1]
          simp
        have hla:nf s=(e2||e3):=by unfold nf;rw[he2,he3]
        rw[her]at hE
        rw[hla]at hL
        rw[hok]at hO
        refine aj<|ak<|bu 40 (.raw (.bool (p0||p4))) [2,3,4,7,8,9,10] rfl ?_ ?_
        · refine .a 1 rfl<|.v (cg rfl (hp0)) rfl<|.a 1 rfl<|?_
          cases p0
          · exact .a 1 rfl<|.v (cg rfl (hp4)) rfl<|.a 1 rfl<|.k [40,2,3,4,7,8,9,10] rfl
          · exact .a 3 rfl<|.k [40,2,3,4,7,8,9,10] rfl
        refine ah rfl (fun hc=>?_) (fun hc=>?_)
        · have hbad:dA k x (fun n=>pH (eO l n)) l.length=false:=by
            refine qH hlt hg0 ?_
            show pH (eO l i)=false
            rw[hs,hok]
            cases p0<;>cases p4<;>simp_all
          exact ab (.a 1 rfl<|.k [6] rfl)<|aq<|⟨_,_,az.of rfl,aC.pure,by rw[hP,hbad];rfl⟩
        · have hO1:dA k x (fun n=>pH (eO l n)) (i+1)=true:=by
            rw[hO]
            cases p0<;>cases p4<;>simp_all
          clear hO
          have hO:=hO1
          refine aj<|bu 7 (.raw (.bool (eb&&(n3&&(n0|| !c)&&(n1||c))))) [2,3,4,8,9,10] rfl ?_ ?_
          · refine .a 2 rfl<|?_
            cases eb
            · exact .a 25 rfl<|.k [7,2,3,4,8,9,10] rfl
            · refine .a 1 rfl<|.v (cg rfl (hn3)) rfl<|.a 2 rfl<|?_
              cases n3
              · exact .a 21 rfl<|.k [7,2,3,4,8,9,10] rfl
              · refine .a 1 rfl<|.v (cg rfl (hn0)) rfl<|.a 1 rfl<|?_
                cases n0
                · refine .a 3 rfl<|.c rfl (hco) rfl<|.a 4 rfl<|?_
                  cases c
                  · refine .a 1 rfl<|.v (cg rfl (hn1)) rfl<|.a 1 rfl<|?_
                    cases n1
                    · exact .a 3 rfl<|.c rfl (hco) rfl<|.a 3 rfl<|.k [7,2,3,4,8,9,10] rfl
                    · exact .a 7 rfl<|.k [7,2,3,4,8,9,10] rfl
                  · exact .a 10 rfl<|.k [7,2,3,4,8,9,10] rfl
                · refine .a 9 rfl<|.v (cg rfl (hn1)) rfl<|.a 1 rfl<|?_
                  cases n1
                  · exact .a 3 rfl<|.c rfl (hco) rfl<|.a 3 rfl<|.k [7,2,3,4,8,9,10] rfl
                  · exact .a 7 rfl<|.k [7,2,3,4,8,9,10] rfl
          refine qd 8 (.raw (.bool (lb&&(e2||e3)))) [2,3,4,7,9] rfl ?_ ?_
          · refine .a 2 rfl<|?_
            cases lb
            · exact .a 8 rfl<|.k [8,2,3,4,7,9] rfl
            · refine .a 1 rfl<|.v (cg rfl (he2)) rfl<|.a 1 rfl<|?_
              cases e2
              · exact .a 1 rfl<|.v (cg rfl (he3)) rfl<|.a 3 rfl<|.k [8,2,3,4,7,9] rfl
              · exact .a 5 rfl<|.k [8,2,3,4,7,9] rfl
          refine aB (.a 1 rfl<|.v (aT rfl) rfl<|.a 1 rfl<|.k [2,3,4,7,8,9] rfl) ?_
          exact⟨l.length - (i+1),by omega,i+1,by omega,hO,rfl,by rw[hE,hL];rfl⟩
    · have hie:i=l.length:=by have:=ff hc;omega
      subst hie
      refine bf<|bu 6 (.raw (.bool (eb||lb))) [] rfl ?_ ?_
      · refine .a 2 rfl<|?_
        cases eb
        · exact .a 3 rfl<|.k [6] rfl
        · exact .a 3 rfl<|.k [6] rfl
      exact aq<|⟨_,_,az.of rfl,aC.pure,by rw[hP,hO0,heb,hlb];rfl⟩
end PW
end Go.Proofs.YtnegbdpggideiaaGreatDoor
namespace Go.Proofs.YtnegbdpggideiaaGreatDoor
namespace PW
open Go.RowKit cE Mem Net fk
noncomputable def JL(T:ai)(D:List Bool)(g:Int)(d n:Nat):Bool:= !((decide ((n:Int)≠g)&&decide (0≤dN T [] d n))&&decide (dN T D d n<0))
noncomputable def ra(T:ai)(D:List Bool)(g:Int)(d m:Nat):Bool:=(List.range m).all (JL T D g d)
noncomputable def rz(T:ai)(D:List Bool)(g d:Int):Bool:=(decide (cw T [] [d]=0)&&decide (cw T D [d]=0))&&ra T D g d.toNat T.nodes.toNat
theorem zY(T:ai)(D:List Bool)(g:Int)(d m:Nat):ra T D g d (m+1)=(ra T D g d m&&JL T D g d m):=by simp[ra,List.range_succ]
theorem Bb(T:ai)(D:List Bool)(g d:Int):Can Tryz.prog 86 [aN T,aY D,num g,num d] (· =flag (rz T D g d)):=by
 obtain⟨q1,hq1⟩:∃q,decide (cw T [] [d]≠0)=q:=⟨_,rfl⟩
 obtain⟨q2,hq2⟩:∃q,decide (cw T D [d]≠0)=q:=⟨_,rfl⟩
 have hE:rz T D g d=(!(q1||q2)&&ra T D g d.toNat T.nodes.toNat):=by
  unfold rz
  rw[←hq1,←hq2]
  by_cases h1:cw T [] [d]=0<;>by_cases h2:cw T D [d]=0<;>simp[h1,h2]
 have hA:=oD T [] d
 have hB:=oD T D d
 unfold dr at hA hB
 rw[hE]
 refine aG Tryz.func86 rfl Tryz.ntmps86 rfl<|ab (.a 2 rfl<|.k [1,2,3,4] rfl)<|ab (.a 2 rfl<|.v (Ef rfl (an.cons aC.pure<|an.cons aC.b7<|an.cons aC.pure an.nil) (hA)) rfl<|.a 5 rfl<|.k [1,2,3,4,9,10] rfl)<|ab (.a 3 rfl<|.c rfl (hB) rfl<|.a 5 rfl<|.k [2,4,9,10,11,12] rfl)<|ak<|bu 32 (.raw (.bool (q1||q2))) [2,4,9,11] rfl ?_ ?_
 ·refine .a 1 rfl<|.v (cg rfl (hq1)) rfl<|.a 1 rfl<|?_
  cases q1
  ·exact .a 1 rfl<|.v (cg rfl (hq2)) rfl<|.a 1 rfl<|.k [32,2,4,9,11] rfl
  ·exact .a 3 rfl<|.k [32,2,4,9,11] rfl
 refine ah rfl (fun h1=>?_) (fun h1=>?_)
 ·rw[h1]
  exact ab (.a 1 rfl<|.k [8] rfl)<|aq<|⟨_,_,az.of rfl,aC.pure,rfl⟩
 ·obtain⟨h2,h3⟩:=Bool.or_eq_false_iff.1 h1
  have e1:cw T [] [d]=0:=by rw[h2]at hq1;simpa using hq1
  have e2:cw T D [d]=0:=by rw[h3]at hq2;simpa using hq2
  obtain⟨hv,hf,hn⟩:=sX e2
  have hdn:=aU.1 (hn d (by simp))
  obtain⟨y,hy⟩:=Int.eq_ofNat_of_zero_le hdn.1
  subst hy
  rw[Int.toNat_natCast]
  have hdl:(y:Int)<T.nodes:=hdn.2
  obtain⟨ha1,_⟩:=di (D:=[]) hv (dir:=false) hdl
  obtain⟨hb1,_⟩:=di (D:=D) hv (dir:=false) hdl
  have hNl:=(aK hv).nodes
  obtain⟨N,hNN⟩:∃N:Nat,T.nodes=(N:Int):=⟨T.nodes.toNat,by omega⟩
  have hNt:T.nodes.toNat=N:=by omega
  rw[if_pos e1,if_pos e2,hNt,h1]
  have hst:∀m,ra T D g y (m+1)=(ra T D g y m&& !((decide ((m:Int)≠g)&&decide (0≤(br T [] y false).getD m 0))&&decide ((br T D y false).getD m 0<0))):=fun m=>zY T D g y m
  have hlow:∀m,m<N→ra T D g y (m+1)=false→ra T D g y N=false:=fun m hm h=>lV h (by omega)
  generalize br T [] y false=A at*
  generalize br T D y false=B at*
  refine aj<|ak<|ab (.a 1 rfl<|.k [2,4,9,11,13] rfl)<|av<|fp [2,4,9,11,13] rfl<|bq (fun r s=>∃m,m≤N∧r=N - m∧ra T D g y m=true∧s=⟨[(2,num g),(4,.aX (bw T) 0),(9,aw A),(11,aw B),(13,num m)],[]⟩) N ⟨0,by omega,by omega,rfl,rfl⟩ ?_
  rintro r s ⟨m,hm,rfl,hw,rfl⟩
  refine ak<|ab (.a 2 rfl<|.v (aO rfl ((show some (num T.nodes)=some (num (N:Int)) by rw[hNN]))) rfl<|.a 1 rfl<|.k [2,4,9,11,13,36] rfl)<|ah rfl (fun h5=>?_) (fun h5=>?_)
  ·have hlt:m<N:=by have:=tt h5;omega
   obtain⟨q3,hq3⟩:∃q,decide ((m:Int)≠g)=q:=⟨_,rfl⟩
   obtain⟨q4,hq4⟩:∃q,decide (0≤A.getD m 0)=q:=⟨_,rfl⟩
   obtain⟨q5,hq5⟩:∃q,decide (B.getD m 0<0)=q:=⟨_,rfl⟩
   have hs:=hst m
   rw[hw,Bool.true_and,hq3,hq4,hq5]at hs
   refine aj<|ak<|av<|bu 55 (.raw (.bool ((q3&&q4)&&q5))) [2,4,9,11,13] rfl ?_ ?_
   ·refine .a 2 rfl<|.v (cg rfl (hq3)) rfl<|.a 1 rfl<|?_
    cases q3
    ·exact .a 13 rfl<|.k [55,2,4,9,11,13] rfl
    ·refine .a 2 rfl<|.v (aM (m) rfl) rfl<|.v (aO rfl (aA A m (by omega))) rfl<|.v (cg rfl (hq4)) rfl<|.a 2 rfl<|?_
     cases q4
     ·exact .a 6 rfl<|.k [55,2,4,9,11,13] rfl
     ·exact .a 2 rfl<|.v (aM (m) rfl) rfl<|.v (aO rfl (aA B m (by omega))) rfl<|.v (cg rfl (hq5)) rfl<|.a 1 rfl<|.k [55,2,4,9,11,13] rfl
   refine ah rfl (fun h6=>?_) (fun h6=>?_)
   ·rw[h6]at hs
    exact ab (.a 1 rfl<|.k [8] rfl)<|aq<|⟨_,_,az.of rfl,aC.pure,by rw[hlow m hlt hs];rfl⟩
   ·rw[h6]at hs
    refine aj<|aB (.a 1 rfl<|.v (aT rfl) rfl<|.a 1 rfl<|.k [2,4,9,11,13] rfl) ?_
    exact⟨N - (m+1),by omega,m+1,by omega,rfl,hs,rfl⟩
  ·have hme:m=N:=by have:=ff h5;omega
   subst hme
   exact bf<|ab (.a 1 rfl<|.k [8] rfl)<|aq<|⟨_,_,az.of rfl,aC.pure,by rw[hw];rfl⟩
theorem Dv{T:ai}{D:List Bool}{g:Int}{d:Nat}(h:rz T D g d=true){m:Nat}(hm:(m:Int)<T.nodes)(hg:(m:Int)≠g)(h0:0≤dN T [] d m):0≤dN T D d m:=by
 unfold rz ra at h
 rw[Int.toNat_natCast]at h
 have h2:=List.all_eq_true.1 (Bool.and_eq_true_iff.1 h).2 m (List.mem_range.2 (by omega))
 unfold JL at h2
 simp only[Bool.not_eq_true',Bool.and_eq_false_iff,decide_eq_false_iff_not]at h2
 omega
noncomputable def qO(T:ai)(k x:Int):List Bool:=if dM T k x=0 then ay T k x else []
def H3(k x:Int):Int:=if k=2 then x else -1
noncomputable def tX(c:uK):Bool:= !np c&&(((fw c.T c.k c.x c.S&& !oo c.k c.x c.n)&& !oo c.k c.x c.d)&&fY c.T (qO c.T c.k c.x) c.n c.d)
noncomputable def Da(c:uK):Bool:=(tX c&&rM c.T c.k c.x)&&rz c.T (qO c.T c.k c.x) (H3 c.k c.x) c.d
def wC(c:uK):Bool:=dA c.k c.x (fun n=>nf (eO c.S n)) c.S.length
theorem mL(T:ai)(k x:Int):Can Tryz.prog 32 [aN T,bS k x] (· = .tuple [aY (qO T k x),num (dM T k x)]):=mg T k x
theorem BK(k x:Int):Can Tryz.prog 87 [bS k x] (· =num (H3 k x)):=by
 obtain⟨q1,hq1⟩:∃q,decide (k=2)=q:=⟨_,rfl⟩
 refine aG Tryz.func87 rfl Tryz.ntmps87 rfl<|ab (.a 2 rfl<|.k [1] rfl)<|ak<|ab (.a 2 rfl<|.v (cg rfl (hq1)) rfl<|.k [1,5] rfl)<|ah rfl (fun h1=>?_) (fun h1=>?_)
 ·have h1:k=2:=by rw[h1]at hq1;exact tt hq1
  exact ab (.a 3 rfl<|.k [2] rfl)<|aq<|⟨_,_,az.of rfl,aC.pure,by unfold H3;rw[if_pos h1];rfl⟩
 ·have h1:¬k=2:=by rw[h1]at hq1;exact ff hq1
  exact aj<|ab (.a 1 rfl<|.k [2] rfl)<|aq<|⟨_,_,az.of rfl,aC.pure,by unfold H3;rw[if_neg h1];rfl⟩
theorem vC(c:uK)(hy:np c=true):Can Tryz.prog 29 [pC c] (· =flag false):=by
 have hla:=o6 c
 rw[hy]at hla
 refine aG Tryz.func29 rfl Tryz.ntmps29 rfl<|ab (.a 2 rfl<|.k [1] rfl)<|ak<|bu 30 (.raw (.bool (true))) [1] rfl ?_ ?_
 ·exact .a 1 rfl<|.c rfl (hla) rfl<|.a 24 rfl<|.k [30,1] rfl
 refine ah rfl (fun hc=>?_) (fun hc=>?_)
 ·exact ab (.a 1 rfl<|.k [2] rfl)<|aq<|⟨_,_,az.of rfl,aC.pure,rfl⟩
 ·cases hc
theorem u9(c:uK)(hy:np c=false):Can Tryz.prog 29 [pC c] (· =flag (((fw c.T c.k c.x c.S&& !oo c.k c.x c.n)&& !oo c.k c.x c.d)&&fY c.T (qO c.T c.k c.x) c.n c.d)):=by
 obtain⟨s1,s2,s3⟩:=vU hy
 have hla:=o6 c
 rw[hy]at hla
 have hpm:=Ai c.T c.k c.x c.S (by omega)
 have hg1:=jP c.k c.x c.n
 have hg2:=jP c.k c.x c.d
 obtain⟨q1,hq1⟩:∃q,fw c.T c.k c.x c.S=q:=⟨_,rfl⟩
 obtain⟨q2,hq2⟩:∃q,oo c.k c.x c.n=q:=⟨_,rfl⟩
 obtain⟨q3,hq3⟩:∃q,oo c.k c.x c.d=q:=⟨_,rfl⟩
 rw[hq1]at hpm
 rw[hq2]at hg1
 rw[hq3]at hg2
 rw[hq1,hq2,hq3]
 refine aG Tryz.func29 rfl Tryz.ntmps29 rfl<|ab (.a 2 rfl<|.k [1] rfl)<|ak<|bu 30 (.raw (.bool ((!q1 ||q2)||q3))) [1] rfl ?_ ?_
 ·refine .a 1 rfl<|.c rfl (hla) rfl<|.a 2 rfl<|.v (iF rfl (rfl) rfl) rfl<|.a 4 rfl<|.c rfl (hpm) rfl<|.a 3 rfl<|?_
  cases q1
  ·exact .a 13 rfl<|.k [30,1] rfl
  ·refine .a 4 rfl<|.c rfl (hg1) rfl<|.a 2 rfl<|?_
   cases q2
   ·exact .a 4 rfl<|.c rfl (hg2) rfl<|.a 1 rfl<|.k [30,1] rfl
   ·exact .a 6 rfl<|.k [30,1] rfl
 refine ah rfl (fun h1=>?_) (fun h1=>?_)
 ·skip
  exact ab (.a 1 rfl<|.k [2] rfl)<|aq<|⟨_,_,az.of rfl,aC.pure,by cases q1<;>cases q2<;>cases q3<;>first|rfl|cases h1⟩
 ·have h2:((q1&& !q2)&& !q3)=true:=by cases q1<;>cases q2<;>cases q3<;>first|rfl|cases h1
  rw[h2]
  exact aj<|ab (.a 1 rfl<|.v (iF rfl (rfl) rfl) rfl<|.a 2 rfl<|.c rfl (mL c.T c.k c.x) rfl<|.a 5 rfl<|.k [1,3] rfl)<|ab (.a 1 rfl<|.v (iF rfl (rfl) rfl) rfl<|.a 5 rfl<|.c rfl (mO c.T (qO c.T c.k c.x) c.n c.d) rfl<|.a 1 rfl<|.k [2] rfl)<|aq<|⟨_,_,az.of rfl,aC.pure,by rw[Bool.true_and];rfl⟩
theorem lG(c:uK):Can Tryz.prog 29 [pC c] (· =flag (tX c)):=by
 unfold tX
 cases hy:np c with
 |true=>exact vC c hy
 |false=>exact u9 c hy
theorem xV(c:uK):Can Tryz.prog 31 [pC c] (· =flag (Da c)):=by
 have hpr:=lG c
 have hcv:=B8 c.T c.k c.x
 have hsf:=Bb c.T (qO c.T c.k c.x) (H3 c.k c.x) c.d
 unfold Da
 obtain⟨q1,hq1⟩:∃q,tX c=q:=⟨_,rfl⟩
 obtain⟨q2,hq2⟩:∃q,rM c.T c.k c.x=q:=⟨_,rfl⟩
 obtain⟨q3,hq3⟩:∃q,rz c.T (qO c.T c.k c.x) (H3 c.k c.x) c.d=q:=⟨_,rfl⟩
 rw[hq1]at hpr
 rw[hq2]at hcv
 rw[hq3]at hsf
 rw[hq1,hq2,hq3]
 refine aG Tryz.func31 rfl Tryz.ntmps31 rfl<|ab (.a 2 rfl<|.k [1] rfl)<|ab (.a 1 rfl<|.v (iF rfl (rfl) rfl) rfl<|.a 2 rfl<|.c rfl (mL c.T c.k c.x) rfl<|.a 5 rfl<|.k [1,3] rfl)<|mV mixed (by kernel_rfl) 2 (.raw (.bool ((q1&&q2)&&q3))) [] rfl ?_ ?_
 ·refine .a 1 rfl<|.v [13] (dX rfl (hpr)) rfl rfl<|.a 1 rfl<|?_
  cases q1
  ·exact .a 18 rfl<|.k [2] rfl
  ·refine .a 1 rfl<|.v [16] (iF rfl (rfl) rfl) rfl rfl<|.a 2 rfl<|.v [17,19] (dX rfl (hcv)) rfl rfl<|.a 2 rfl<|?_
   cases q2
   ·exact .a 11 rfl<|.k [2] rfl
   ·exact .a 1 rfl<|.v [23] (iF rfl (rfl) rfl) rfl rfl<|.a 3 rfl<|.v [27] (dX rfl (BK c.k c.x)) rfl rfl<|.a 2 rfl<|.v [24,25,28,30] (dX rfl (hsf)) rfl rfl<|.a 2 rfl<|.k [2] rfl
 exact aq<|⟨_,_,az.of rfl,aC.pure,rfl⟩
theorem AZ(c:uK)(hl:c.S.length≤1000):Can Tryz.prog 30 [pC c] (· =flag (wC c)):=by
 obtain⟨S,hS⟩:∃S,c.S=S:=⟨_,rfl⟩
 unfold wC
 rw[hS]at hl ⊢
 refine aG Tryz.func30 rfl Tryz.ntmps30 rfl<|ab (.a 2 rfl<|.k [1] rfl)<|ak<|ab (.a 1 rfl<|.v (aO rfl ((show some (aw c.S)=some (aw S) by rw[hS]))) rfl<|.a 2 rfl<|.k [1,6,7,8] rfl)<|av<|fp [1,6,7,8] rfl<|bq (fun r s=>∃m,m≤S.length∧r=S.length - m∧dA c.k c.x (fun n=>nf (eO S n)) m=true∧s=⟨[(1,.aX (DA c) 0),(6,aw S),(7,num S.length),(8,num m)],[]⟩) S.length ⟨0,by omega,by omega,rfl,rfl⟩ ?_
 rintro r s ⟨m,hm,rfl,hw,rfl⟩
 refine ab (.a 1 rfl<|.k [1,6,7,8,9] rfl)<|ak<|ah rfl (fun h1=>?_) (fun h1=>?_)
 ·have hlt:m<S.length:=by have:=tt h1;omega
  have hs:=gL c.k c.x (fun n=>nf (eO S n)) m
  rw[hw,Bool.true_and]at hs
  have hgn:=jP c.k c.x m
  obtain⟨v,hv⟩:∃v,eO S m=v:=⟨_,rfl⟩
  obtain⟨q1,hq1⟩:∃q,oo c.k c.x m=q:=⟨_,rfl⟩
  obtain⟨q2,hq2⟩:∃q,decide (v≠2)=q:=⟨_,rfl⟩
  obtain⟨q3,hq3⟩:∃q,decide (v≠3)=q:=⟨_,rfl⟩
  have hla:nf (eO S m)=(!q2 || !q3):=by
   rw[hv]
   unfold nf
   rw[←hq2,←hq3]
   by_cases e1:v=2<;>by_cases e2:v=3<;>simp[e1,e2]
  rw[hla,hq1]at hs
  rw[hq1]at hgn
  refine aj<|ak<|av<|ab (.a 1 rfl<|.v (aM (m) rfl) rfl<|.v (aO rfl ((aA S m hlt).trans (by rw[show S.getD m 0=v from hv]))) rfl<|.a 2 rfl<|.k [1,3,4,6,7,8] rfl)<|bu 25 (.raw (.bool ((!q1 &&q2)&&q3))) [1,6,7,8] rfl ?_ ?_
  ·refine .a 3 rfl<|.c rfl (hgn) rfl<|.a 2 rfl<|?_
   cases q1
   ·refine .a 1 rfl<|.v (cg rfl (hq2)) rfl<|.a 2 rfl<|?_
    cases q2
    ·exact .a 3 rfl<|.k [25,1,6,7,8] rfl
    ·exact .a 1 rfl<|.v (cg rfl (hq3)) rfl<|.a 1 rfl<|.k [25,1,6,7,8] rfl
   ·exact .a 7 rfl<|.k [25,1,6,7,8] rfl
  refine ah rfl (fun h2=>?_) (fun h2=>?_)
  ·have hbad:dA c.k c.x (fun n=>nf (eO S n)) S.length=false:=by
    refine qH hlt (by rw[hq1];cases q1<;>first|rfl|cases h2) ?_
    show nf (eO S m)=false
    rw[hla]
    cases q1<;>cases q2<;>cases q3<;>first|rfl|cases h2
   exact ab (.a 1 rfl<|.k [2] rfl)<|aq<|⟨_,_,az.of rfl,aC.pure,by rw[hbad];rfl⟩
  ·have hs2:dA c.k c.x (fun n=>nf (eO S n)) (m+1)=true:=by rw[hs];cases q1<;>cases q2<;>cases q3<;>first|rfl|cases h2
   refine aj<|aB (.v (aT rfl) rfl<|.a 1 rfl<|.k [1,6,7,8] rfl) ?_
   exact⟨S.length - (m+1),by omega,m+1,by omega,rfl,hs2,rfl⟩
 ·have hme:m=S.length:=by have:=ff h1;omega
  subst hme
  exact bf<|ab (.a 1 rfl<|.k [2] rfl)<|aq<|⟨_,_,az.of rfl,aC.pure,by rw[hw];rfl⟩
end PW
end Go.Proofs.YtnegbdpggideiaaGreatDoor
namespace Go.Proofs.YtnegbdpggideiaaGreatDoor
namespace PW
open Go.RowKit cE Mem Net fk
section
variable {T:ai} {tb:Nat→dR} {p0:eU} {Φ Ψ:Nat→Nat→List bY→Prop}
theorem ib.inter(R:ib T tb p0 Φ)(S:ib T tb p0 Ψ):ib T tb p0 (fun u n s=>Φ u n s∧∃v,Ψ v n s) where
 node:=fun h=>R.node h.1
 small:=fun h=>R.small h.1
 step:=fun {u n s} ⟨h,v,g⟩=>by
  rcases R.step h with h1|⟨h1,h2,h3⟩
  ·exact .inl h1
  ·refine .inr ⟨h1,h2,fun a ha=>?_⟩
   obtain⟨b,m,e1,e2,e3,u',e4,e5⟩:=h3 a ha
   rcases S.step g with g1|⟨_,_,g3⟩
   ·rw[g1]at ha;cases ha
   ·obtain⟨b',m',f1,f2,f3,v',f4,f5⟩:=g3 a ha
    have hb:b'=b:=by omega
    subst hb
    have hm:m'=m:=by rw[e3]at f3;omega
    subst hm
    exact⟨b',m',f1,f2,f3,u',e4,e5,v',f5⟩
theorem Lone.inter(R:Lone T tb p0 Φ)(S:ib T tb p0 Ψ):Lone T tb p0 (fun u n s=>Φ u n s∧∃v,Ψ v n s):=⟨R.runs.inter S,fun h=>R.one h.1,fun h=>R.del h.1⟩
end
section
variable {T:ai} {k x:Int} {d:Nat} {st:Nat→Int} {p0:eU}
theorem BQ(hv:ao T=true)(h12:T.nodes≤12)(hd:(d:Int)<T.nodes)(hp0:p0.dst=(d:Int))(h:Open T k x d d []):Lone T (lr T (ay T k x) st) p0 (fun u n s=>u=0∧n=d∧s=[]):=by
 obtain⟨e1,e2⟩:=qj hv h12 hd h (st d) (p:=cS p0 []) hp0 rfl
 have e1':(bV T (lr T (ay T k x) st) p0 d []).aI=[]:=e1
 refine⟨⟨?_,?_,?_⟩,?_,?_⟩
 ·rintro u n s ⟨_,rfl,_⟩;exact h.node
 ·rintro u n s ⟨_,_,rfl⟩;exact⟨fun g hg=>(by cases hg),by simp⟩
 ·rintro u n s ⟨_,rfl,rfl⟩;exact .inl e1'
 ·rintro u n s ⟨_,rfl,rfl⟩;rw[e1'];simp
 ·rintro u n s ⟨_,rfl,rfl⟩ _;exact e2
theorem yn.here{late:Bool}{u n:Nat}{s:List bY}(h:yn T k x d st p0 late u n s):¬Gn k x n:=by
 rcases h with⟨h,_⟩|⟨q,_,_,_,h,_⟩
 ·exact h.here
 ·exact h.here
def yU(T:ai)(k x:Int)(d:Nat)(st:Nat→Int)(p0:eU)(n:Nat):Prop:=
 ∃(Φ:Nat→Nat→List bY→Prop) (u:Nat),Lone T (lr T (ay T k x) st) p0 Φ∧Φ u n []∧u≤1000∧∀ {u n s},Φ u n s→¬Gn k x n∧(n,s)∈Bm T (lr T (ay T k x) st) p0
theorem Eg(hv:ao T=true)(h12:T.nodes≤12)(h16:T.ae.length≤16)(hd:(d:Int)<T.nodes){late:Bool}(hcv:late=false→rM T k x=true)(hsafe:late=false→∀m:Nat,(m:Int)<T.nodes→¬Gn k x m→0≤dN T [] d m→0≤dN T (ay T k x) d m)
  (hpm:Perm T k x late st) (hp0:p0.dst=(d:Int)) {n b m:Nat} {s':List bY} {q:List Int} (h:Open T k x d n [])
  (h0:dj T (lr T (ay T k x) st n) (cS p0 [])=cd (cS p0 []) s' [(b:Int)]) (hb:b<2*T.ae.length) (hm:aS T b=(m:Int)) (hl:fD T k x d m s' q) (hq:(q.length:Int)+1<T.nodes):yU T k x d st p0 n:=by
 have hW:=rU (st:=st) hv h12 h16 hd hcv hsafe hpm hp0
 have hL:=ye hv h12 h16 hd hp0 h.node h0 hb hm hl
 exact⟨_,q.length+1,hL.inter hW,⟨.inl ⟨rfl,rfl,rfl⟩,_,.inl ⟨h,rfl⟩⟩,by omega,fun⟨_,_,g⟩=>⟨g.here,g.mem⟩⟩
theorem yO(hv:ao T=true)(h12:T.nodes≤12)(h16:T.ae.length≤16)(hd:(d:Int)<T.nodes){late:Bool}(hcv:late=false→rM T k x=true)(hsafe:late=false→∀m:Nat,(m:Int)<T.nodes→¬Gn k x m→0≤dN T [] d m→0≤dN T (ay T k x) d m)
  (hpm:Perm T k x late st) (hp0:p0.dst=(d:Int)) {n:Nat} (h:Open T k x d n []) (h2:st n=2):yU T k x d st p0 n:=by
 by_cases hne:n=d
 ·subst hne
  exact⟨_,0,(BQ hv h12 hd hp0 h).inter (rU (st:=st) hv h12 h16 hd hcv hsafe hpm hp0),⟨⟨rfl,rfl,rfl⟩,_,.inl ⟨h,rfl⟩⟩,by omega,fun⟨_,_,g⟩=>⟨g.here,g.mem⟩⟩
 ·obtain⟨aI,s',e1,e2,e3⟩:=ov hv h12 hd h hne (st:=st n) (by rw[h2];decide) (p:=cS p0 []) hp0 rfl rfl
  cases aI with
  |nil=>exact absurd rfl e2
  |cons a l=>
   obtain⟨b,m,g,hc⟩:=e3 a (by simp)
   rcases hc with⟨h4,_,_⟩|⟨_,q,e4,e5,hL,hq⟩
   ·exact absurd h2 h4
   ·rw[e5,g.eq]at e1
    exact Eg hv h12 h16 hd hcv hsafe hpm hp0 h e1 g.eM g.head hL hq
end
end PW
end Go.Proofs.YtnegbdpggideiaaGreatDoor
namespace Go.Proofs.YtnegbdpggideiaaGreatDoor
namespace PW
open Go.RowKit cE Mem Net fk
structure Jo (T:ai) (k x:Int) (S:List Int) (s d:Nat) (late:Bool):Prop where
 Ir:T.nodes≤12
 JX:T.ae.length≤16
 len:(S.length:Int)=T.nodes
 valid:ao T=true
 comp:(ao T&&bW T k x)=true
 JR:qO T k x=ay T k x
 ok:Au T k x S=0
 perm:Perm T k x late (eO S)
 src:(s:Int)<T.nodes
 dst:(d:Int)<T.nodes
 reach:gu T (ay T k x) s d=0
 there:¬Gn k x d
 JO:Open T k x d s []
theorem CT{T:ai}{k x n d:Int}{S:List Int}(h:tX ⟨T,k,x,S,n,d⟩=true):∃s e:Nat,n=(s:Int)∧d=(e:Int)∧Jo T k x S s e (wC ⟨T,k,x,S,n,d⟩):=by
 unfold tX at h
 simp only[Bool.and_eq_true,Bool.not_eq_true']at h
 obtain⟨h1,⟨⟨h2,h3⟩,h4⟩,h5⟩:=h
 obtain⟨s1,s2,_⟩:=vU h1
 obtain⟨hv,hc,hl,_,late,hpm,hla⟩:=F9 h2
 have hvc:(ao T&&bW T k x)=true:=by rw[hv,hc];rfl
 have hm:qO T k x=ay T k x:=by unfold qO dM;rw[if_pos hvc,if_pos rfl]
 rw[hm]at h5
 have h5:=tt h5
 obtain⟨a,b,rfl,rfl,ha,hb,_⟩:=ma h5
 have h6:=h5
 rw[jQ hv (da T k x) ha hb]at h6
 refine⟨a,b,rfl,rfl,⟨s1,s2,hl,hv,hvc,hm,?_,?_,ha,hb,h5,mM.1 h4,⟨rfl,ha,mM.1 h3,?_⟩⟩⟩
 ·unfold Au
  rw[hvc,decide_eq_true hl];simp[h2]
 ·rw[hla]at hpm;exact hpm
 ·split at h6
  ·cases h6
  ·omega
theorem Dc{T:ai}{k x n:Int}{S:List Int}{d:Nat}(h:Da ⟨T,k,x,S,n,(d:Int)⟩=true)(hm:qO T k x=ay T k x):rM T k x=true∧∀m:Nat,(m:Int)<T.nodes→¬Gn k x m→0≤dN T [] d m→0≤dN T (ay T k x) d m:=by
 unfold Da at h
 simp only[Bool.and_eq_true]at h
 obtain⟨⟨_,h2⟩,h3⟩:=h
 rw[hm]at h3
 refine⟨h2,fun m hml hg h0=>Dv h3 hml (fun e=>hg ?_) h0⟩
 unfold H3 at e
 split at e
 ·rename_i hk
  exact⟨hk,e.symm⟩
 ·omega
theorem DL{T:ai}{k x:Int}{S:List Int}{s d:Nat}{late:Bool}(hP:Jo T k x S s d late)(h:yU T k x d (eO S) ⟨0,s,d,0,[],0⟩ s):Can Tryz.prog 33 [aN T,bS k x,aw S,num s,num d] (fun r=>∃q e,Br T (lr T (ay T k x) (eO S)) ⟨0,s,d,0,[],0⟩ s [] q e (-1)∧r= .tuple [aw q,num 0]):=by
 obtain⟨Φ,u,hL,hΦ,hu,hX⟩:=h
 have hc:∀u n s',Φ u n s'→rG T k x S n=lr T (ay T k x) (eO S) n:=fun u n s' g=>D2 (hX g).1
 refine Can.mono (tm hP.Ir hP.ok hP.src hP.dst (Lone.congr hc hL) (U:=Bm T (lr T (ay T k x) (eO S)) ⟨0,s,d,0,[],0⟩) (fun g=>(hX g).2) ?_ hΦ hu) fun r ⟨q,e,hb,_,hr⟩=>⟨q,e,Br.congr hc hL.runs hb hΦ,hr⟩
 have:=Db (T:=T) (p0:=⟨0,s,d,0,[],0⟩) (lr T (ay T k x) (eO S)) hP.Ir hP.JX
 omega
theorem xE{T:ai}{k x:Int}{S:List Int}{s d:Nat}{late:Bool}(hP:Jo T k x S s d late)(hcv:late=false→rM T k x=true)(hsafe:late=false→∀m:Nat,(m:Int)<T.nodes→¬Gn k x m→0≤dN T [] d m→0≤dN T (ay T k x) d m)(h2:eO S s=2):Can Tryz.prog 33 [aN T,bS k x,aw S,num s,num d] (· = .tuple [aw (b9 T (ay T k x) s d),num 0]):=
 Can.mono (DL hP (yO hP.valid hP.Ir hP.JX hP.dst hcv hsafe hP.perm rfl hP.JO h2)) fun r ⟨q,e,hb,hr⟩=>by
  obtain⟨e1,_⟩:=DU hP.valid hP.Ir hP.dst rfl hb hP.JO h2
  rw[e1]at hr
  exact hr
end PW
end Go.Proofs.YtnegbdpggideiaaGreatDoor
namespace Go.Proofs.YtnegbdpggideiaaGreatDoor
namespace PW
open Go.RowKit cE Mem Net fk
theorem xd(c:uK)(h:tX c=false):Can Tryz.prog 6 [pC c] (· =flag true):=by
 have hpr:=lG c
 rw[h]at hpr
 refine aG Tryz.func6 rfl Tryz.ntmps6 rfl<|ab (.a 2 rfl<|.k [1] rfl)<|ak<|bu 34 (.raw (.bool (true))) [1] rfl ?_ ?_
 ·exact .c rfl (jl) rfl<|.a 3 rfl<|.c rfl (hpr) rfl<|.a 21 rfl<|.k [34,1] rfl
 refine ah rfl (fun hc=>?_) (fun hc=>?_)
 ·exact ab (.c rfl (jl) rfl<|.a 1 rfl<|.k [2] rfl)<|aq<|⟨_,_,az.of rfl,aC.pure,rfl⟩
 ·cases hc
theorem vM(T:ai)(k x:Int)(S:List Int)(n d:Int)(h:tX ⟨T,k,x,S,n,d⟩=true):Can Tryz.prog 6 [pC ⟨T,k,x,S,n,d⟩] (· =flag true):=by
 have hpr:=lG ⟨T,k,x,S,n,d⟩
 have hsn:=xV ⟨T,k,x,S,n,d⟩
 obtain⟨s,e,rfl,rfl,hP⟩:=CT h
 have hSl:=hP.len
 have h12:=hP.Ir
 have hsl:=hP.src
 have hla:=AZ ⟨T,k,x,S,(s:Int),(e:Int)⟩ (show S.length≤1000 by omega)
 rw[h]at hpr
 obtain⟨w1,hw1⟩:∃q,wC ⟨T,k,x,S,(s:Int),(e:Int)⟩=q:=⟨_,rfl⟩
 obtain⟨w2,hw2⟩:∃q,Da ⟨T,k,x,S,(s:Int),(e:Int)⟩=q:=⟨_,rfl⟩
 obtain⟨v,hv⟩:∃v,eO S s=v:=⟨_,rfl⟩
 obtain⟨w3,hw3⟩:∃q,decide (v≠2)=q:=⟨_,rfl⟩
 rw[hw1]at hla
 rw[hw2]at hsn
 refine aG Tryz.func6 rfl Tryz.ntmps6 rfl<|ab (.a 2 rfl<|.k [1] rfl)<|ak<|bu 34 (.raw (.bool ((!w1 && !w2)||w3))) [1] rfl ?_ ?_
 ·refine .c rfl (jl) rfl<|.a 3 rfl<|.c rfl (hpr) rfl<|.a 4 rfl<|.c rfl (hla) rfl<|.a 2 rfl<|?_
  cases w1
  ·refine .a 1 rfl<|.c rfl (hsn) rfl<|.a 4 rfl<|?_
   cases w2
   ·exact .a 8 rfl<|.k [34,1] rfl
   ·exact .a 1 rfl<|.v (aO rfl ((show some (aw S)=some (aw S) from rfl))) rfl<|.a 1 rfl<|.v (aO rfl ((show some (num (s:Int))=some (num (s:Int)) from rfl))) rfl<|.v (aM (s) rfl) rfl<|.v (aO rfl ((aA S s (by omega)).trans (by rw[show S.getD s 0=v from hv]))) rfl<|.v (cg rfl (hw3)) rfl<|.a 1 rfl<|.k [34,1] rfl
  ·exact .a 7 rfl<|.v (aO rfl ((show some (aw S)=some (aw S) from rfl))) rfl<|.a 1 rfl<|.v (aO rfl ((show some (num (s:Int))=some (num (s:Int)) from rfl))) rfl<|.v (aM (s) rfl) rfl<|.v (aO rfl ((aA S s (by omega)).trans (by rw[show S.getD s 0=v from hv]))) rfl<|.v (cg rfl (hw3)) rfl<|.a 1 rfl<|.k [34,1] rfl
 refine ah rfl (fun hc=>?_) (fun hc=>?_)
 ·skip
  exact ab (.c rfl (jl) rfl<|.a 1 rfl<|.k [2] rfl)<|aq<|⟨_,_,az.of rfl,aC.pure,rfl⟩
 ·obtain⟨g1,g2⟩:=Bool.or_eq_false_iff.1 hc
  have h2:eO S s=2:=by rw[hv];rw[g2]at hw3;simpa using hw3
  have hsd:wC ⟨T,k,x,S,(s:Int),(e:Int)⟩=false→rM T k x=true∧∀m:Nat,(m:Int)<T.nodes→¬Gn k x m→0≤dN T [] e m→0≤dN T (ay T k x) e m:=fun hl=>by
   rw[hw1]at hl
   rw[hl]at g1
   refine Dc (hw2.trans ?_) hP.JR
   cases w2<;>first|rfl|cases g1
  have hpt:=xE hP (fun hl=>(hsd hl).1) (fun hl=>(hsd hl).2) h2
  have hrp:=ph T (ay T k x) (s:Int) (e:Int)
  rw[hP.reach]at hrp
  unfold dr at hrp
  rw[if_pos rfl,Int.toNat_natCast,Int.toNat_natCast]at hrp
  have hmk:=mL T k x
  rw[hP.JR]at hmk
  generalize b9 T (ay T k x) s e=P at hpt hrp
  exact aj<|ab (.a 1 rfl<|.v (iF rfl (rfl) rfl) rfl<|.a 2 rfl<|.c rfl (hmk) rfl<|.a 5 rfl<|.k [1,3] rfl)<|ab (.a 1 rfl<|.v (iF rfl (rfl) rfl) rfl<|.a 8 rfl<|.c rfl (hpt) rfl<|.a 5 rfl<|.k [1,3,5,6] rfl)<|ab (.a 1 rfl<|.v (iF rfl (rfl) rfl) rfl<|.a 5 rfl<|.c rfl (hrp) rfl<|.a 5 rfl<|.k [5,6,7,8] rfl)<|ab (.a 9 rfl<|.c rfl (se P) rfl<|.a 2 rfl<|.k [2] rfl)<|aq<|⟨_,_,az.of rfl,aC.pure,rfl⟩
theorem qC(c:uK):Can Tryz.prog 6 [pC c] (· =flag true):=by
 obtain⟨T,k,x,S,n,d⟩:=c
 cases h:tX ⟨T,k,x,S,n,d⟩with
 |false=>exact xd _ h
 |true=>exact vM T k x S n d h
end PW
end Go.Proofs.YtnegbdpggideiaaGreatDoor
namespace Go.Proofs.YtnegbdpggideiaaGreatDoor.mixtureListed
open Go.ChangeShapes Go.WideShapes Go.ChangeAt Go.RowKit
open cE Mem PW
set_option maxRecDepth 100000 in
theorem lifted(os:Os)(started:os.Started)(H:Type)(enc:TypeId×Value→H):
  ReturnsInHanded {} Tryz.checked os 6 .any (fun w args=>(Rows.mixtureListedSpec.pre enc Tryz.prog Tryz.f6 [] false w args∧laidMetH Tryz.prog Rows.mixtureListedRow.laid w)∧sizedMet enc Tryz.prog Tryz.f6 (OpenSpec.ofChange Rows.mixtureListedSpec) false w args)
   (Rows.mixtureListedSpec.post enc Tryz.prog Tryz.f6 false true false false):=by
 refine returnsInHanded_of_change_and (C:=Tryz.checked) (X:=fun w _=>laidMetH Tryz.prog Rows.mixtureListedRow.laid w) (fun _ _ _ hh h=>h.of_heap hh) own started (by kernel_rfl) Tryz.func6
  (ChangeSpec.witness_shaped (enc:=enc) (C:=Tryz.checked) (os:=os) (X:=fun w _=>laidMetH Tryz.prog Rows.mixtureListedRow.laid w) false (World.doorLaid Tryz.prog 400 os) #[.agg #[.int .i64 0,.slice none 0 0,.slice none 0 0,.int .i64 0,.int .i64 0,.slice none 0 0,.int .i64 0,.int .i64 0]] 8 rfl (World.shaped_of_RefB (by kernel_rfl) (by kernel_rfl)) (by kernel_rfl) (by kernel_rfl) (by kernel_rfl) (laidMetH_of_parts3 (fuel:=8) (laidMet_of_run' 8 (by kernel_rfl) (by kernel_rfl)) (by kernel_rfl) (by kernel_rfl))) ?_
 intro W base args ds gs before hval0 hW _ _ hL _
 have hval:∀(j:Nat) t v,Tryz.f6.params[j]? =some t→args[j]? =some v→Value.okWide Tryz.prog W .any base t v:=hval0
 have hW':=hW
 obtain⟨p,q,hA0,hV,rfl,hfz,hnd⟩:=hW
 have hA:DataW.TrodAll enc Tryz.prog W 0 (fun _=>true) true Tryz.f6.params.toList args.toList ds p:=hA0
 rw[Tryz.params6]at hA hval
 obtain⟨v0,vs0,d0,ds0,p0,q0,hargs,rfl,rfl,h0,r0⟩:=trodAll_cons hA
 obtain⟨rfl,rfl,rfl⟩:=trodAll_nil r0
 obtain rfl:args= #[v0]:=by cases args;simp_all
 obtain⟨rfl,rfl⟩:=trodVars_none hV
 have lt0:=IS h0
 obtain⟨c,R0⟩:=Hu (hval 0 50 v0 rfl rfl) h0
 clear hA0 hval0
 refine((qC c) (fun _=>False) W #[v0] (fun _ h=>h.elim) (Ar hL) (aW.cons R0 (aW.nil _ _))).mono fun e W' ⟨x,he,bel,r,hr,hx⟩=>?_
 subst hr
 cases hx
 subst he
 exact⟨_,rfl,_,_,_,[],_,[],hW',trodAll_mk1 (shut_bool Tryz.underlying4 _),(trodAll_cons_mk (Below.trod laidOut (by kernel_rfl) (of_decide_eq_true (by kernel_rfl)) h0 bel lt0) trodAll_mk0),rfl,bel.frame _,fun h=>by cases h⟩
set_option maxRecDepth 100000 in
theorem J1:(Rows.mixtureListedRow.inPlace==Tryz.prog.inPlace 6)=true:=by kernel_rfl
set_option maxRecDepth 100000 in
theorem J6:(Rows.mixtureListedRow.unfollowed==Tryz.prog.unfollowed 6)=true:=by kernel_rfl
set_option maxRecDepth 100000 in
theorem J7:(Rows.mixtureListedRow.recurses==Tryz.prog.recurses 6)=true:=by kernel_rfl
set_option maxRecDepth 100000 in
theorem Kf:(Rows.mixtureListedRow.named==Tryz.prog.varsNamed 6)=true:=by kernel_rfl
set_option maxRecDepth 100000 in
theorem closed:joinedFacts Tryz.prog 6 Tryz.f6 Rows.mixtureListedSpec Rows.mixtureListedRow=true:=by
 unfold joinedFacts
 rw[J1,J6,J7,Kf]
 kernel_rfl
theorem over:Rows.mixtureListedRow.holds Tryz.pinned (OpenSpec.ofChange Rows.mixtureListedSpec):=
 OpenClaim.holds_of_wide 6 Tryz.f6 rfl rfl rfl rfl rfl rfl rfl ⟨rfl,rfl,rfl,rfl,rfl⟩ rfl rfl rfl rfl rfl (by kernel_rfl) Tryz.func6 closed
  (of_decide_eq_true (by kernel_rfl)) (by unfold Func.isWrapper;first|(rw[if_pos (by decide+kernel)];kernel_rfl)|(rw[if_neg (by decide+kernel)];exact⟨rfl,rfl⟩))
  (fun os started H enc _=>lifted os started H enc)
theorem proved:Rows.MixtureListedCardSaid:=
 Claim7.holds_tied_plain_at .later [] [.data,.data,.data] true (true,"3eedc3262a1e22f25a0699067de5cf2e4c3ca5fe316ddc4ea68067e33fe38499") false
  over (fun _ h=>by cases h) (by kernel_rfl) (fun _ h=>by cases h) mixtureListed_row_tie rfl ⟨rfl,rfl⟩ (by kernel_rfl) rfl
  (fun f fn hf hfn=>by
   obtain rfl:f=6:=Option.some.inj ((show Tryz.prog.funcNamed "waypoint/waypointlaw31.MixtureListed" =some 6 by kernel_rfl).symm.trans hf) |>.symm
   obtain rfl:fn=Tryz.f6:=(Option.some.inj (Tryz.func6.symm.trans hfn)).symm
   exact⟨by kernel_rfl,fun j t ht=>by
    rw[Tryz.params6]at ht
    have hm:t∈[50]:=by simpa using Array.mem_of_getElem? ht
    have hall:([50].all fun u=> !Tryz.prog.wantsStandIn u)=true:=by kernel_rfl
    exact(show Tryz.prog.wantsStandIn t=false by simpa using List.all_eq_true.1 hall t hm)⟩)
  (by kernel_rfl)
end Go.Proofs.YtnegbdpggideiaaGreatDoor.mixtureListed
