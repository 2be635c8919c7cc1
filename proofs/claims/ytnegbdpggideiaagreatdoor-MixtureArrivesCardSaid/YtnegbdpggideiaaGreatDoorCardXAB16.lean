/- MixtureArrives returns true for every input: in permitted states every packet to a safe destination that can be reached arrives over every branch, if the component is covered. Package-level tables start as the program's text lays them. -/
import Derived.Test.YtnegbdpggideiaaGreatDoorCardXAB15
set_option linter.unusedVariables false
set_option linter.unusedSimpArgs false
set_option maxRecDepth 10000
set_option maxHeartbeats 1000000
namespace Go.Proofs.YtnegbdpggideiaaGreatDoor
namespace PW
section
open Go.RowKit cE Mem Net eX
theorem Fo:∀(cs:List Int) (b:Int),b≤1001→(∀c∈cs,0≤c)→b≤cs.foldl (fun a c=>min (a+c) 1001) b
 | [],b,_,_=>Int.le_refl _
 |c::cs,b,h,h3=>by
  have:=h3 c (by simp)
  have h4:=Fo cs (min (b+c) 1001) (show min (b+c) 1001≤1001 by omega) (fun x hx=>h3 x (by simp[hx]))
  exact Int.le_trans (show b≤min (b+c) 1001 by omega) h4
section
variable {T:an} {tb:Nat→db} {p0:dw} {Φ:Nat→Nat→List bV→Prop}
def Km(T:an)(tbs:List db)(p0:dw)(M:List Sq):PV:=.ba (bC T++[ev tbs,.slice M.length (gg p0 M)]) 0
def Hm(T:an)(tb:Nat→db)(p0:dw)(M:List Sq):Prop:=∀(k:Nat) q,M[k]? =some q→∃js c t,q=⟨q.n,q.s,aw (bJ T tb p0 q.n q.s).ay,aw js,(bJ T tb p0 q.n q.s).cW,c,t⟩∧js.length=(bJ T tb p0 q.n q.s).ay.length∧
 ∀(m:Nat) a,(bJ T tb p0 q.n q.s).ay[m]? =some a→∃jm:Nat,js[m]? =some (jm:Int)∧At M jm (aS T a.toNat).toNat (bJ T tb p0 q.n q.s).eu.stack
theorem sd:∀ {M:List Sq},(∀q∈M,aK (nB p0 q))→aK (gg p0 M)
 | [],_=>by unfold gg;exact⟨fun i x h=>by simp at h⟩
 |q::M,h=>by
  haveI:=h q (by simp)
  haveI:=sd (M:=M) (fun q hq=>h q (by simp[hq]))
  show aK (nB p0 q++gg p0 M)
  infer_instance
theorem Hm.pure{tbs:List db}{M:List Sq}(h:Hm T tb p0 M):IsPure (Km T tbs p0 M):=by
 haveI:aK (gg p0 M):=sd fun q hq=>by
  obtain⟨k,hk⟩:=List.getElem?_of_mem hq
  obtain⟨js,c,t,h1,_⟩:=h k q hk
  rw[h1]
  unfold nB
  infer_instance
 unfold Km
 infer_instance
end
theorem sH(T:an)(L:List db)(hv:aq T=true)(hL:(L.length:Int)=T.nodes)(hok:∀(i:Nat) x,L[i]? =some x→x.node=(i:Int)∧cQ T x=true):Can Tryz.prog 135 [aN T,ev L] (· =flag true):=by
 have hN:=fY hv
 obtain⟨q1,hq1⟩:∃q,aq T=q:=⟨_,rfl⟩
 obtain⟨q2,hq2⟩:∃q,decide ((L.length:Int)≠T.nodes)=q:=⟨_,rfl⟩
 refine aG Tryz.func135 I Tryz.ntmps135 I<|ab (.a 2 I<|.k [1,2] I)<|aj<|bz 15 (.raw (.bool (!q1 ||q2))) [1,2] I ?_ ?_
 ·refine .a 1 I<|.c rfl (hq1▸fc T) I<|.a 2 I<|?_
  cases q1
  ·exact .a 6 I<|.k [15,1,2] I
  ·exact .a 3 I<|.v (aJ I (rfl)) I<|.v (cc I (hq2)) I<|.a 1 I<|.k [15,1,2] I
 refine ag I (fun hc=>?_) (fun hc=>?_)
 ·rw[←hq1,hv,←hq2,decide_eq_false (by rw[hL];simp)]at hc
  cases hc
 ·refine ai<|aj<|ab (.a 1 I<|.k [1,2,5] I)<|av<|eR [1,2,5] I<|bu (fun r st=>∃i:Nat,i≤L.length∧r=L.length - i∧st=⟨[(1,ev L),(2,.ba (bC T) 0),(5,num i)],[]⟩) L.length ⟨0,by omega,by omega,rfl⟩ ?_
  rintro r st ⟨i,hi,rfl,rfl⟩
  refine aj<|ab (.a 4 I<|.k [1,2,5,19] I)<|ag I (fun hc=>?_) (fun hc=>?_)
  ·have hlt:i<L.length:=by have:=tt hc;omega
   obtain⟨x,hx⟩:∃x,L[i]? =some x:=⟨_,List.getElem?_eq_getElem hlt⟩
   obtain⟨h1,h2⟩:=hok i x hx
   obtain⟨q3,hq3⟩:∃q,decide (x.node≠(i:Int))=q:=⟨_,rfl⟩
   obtain⟨q4,hq4⟩:∃q,cQ T x=q:=⟨_,rfl⟩
   refine ai<|aj<|av<|jk mixed (by kernel_rfl) 37 (.raw (.bool (q3|| !q4))) [1,2,5] I ?_ ?_
   ·refine .a 2 I<|.v [22,23] (aP ((i*3)) I) I I<|.a 1 I<|.v [25] (aJ I ((flat_get eK 3 (fun _=>rfl) L i 0 x hx (by omega)).trans (rfl:(eK x)[0]? =some (num x.node)))) I I<|.a 1 I<|.v [26,27] (cc I (hq3)) I I<|.a 1 I<|?_
    cases q3
    ·exact .a 3 I<|.v [31,32] (aP ((i*3)) I) I I<|.v [33] (fA I (j7 L i x hx) I) I I<|.v [30,34] (dV I (hq4▸pM T x)) I I<|.a 2 I<|.k [37,1,2,5] I
    ·exact .a 8 I<|.k [37,1,2,5] I
   refine ag I (fun hc=>?_) (fun hc=>?_)
   ·rw[←hq3,←hq4,h2,decide_eq_false (by rw[h1];simp)]at hc
    cases hc
   ·refine ai<|aB (.a 1 I<|.v (aU I) I<|.a 1 I<|.k [1,2,5] I) ?_
    exact⟨L.length - (i+1),by omega,i+1,by omega,rfl,rfl⟩
  ·have hie:i=L.length:=by have:=ff hc;omega
   exact bf<|ab (.a 1 I<|.k [4] I)<|ao<|⟨_,_,az.of I,ax.pure,rfl⟩
section
variable {T:an} {tb:Nat→db} {p0:dw} {Φ:Nat→Nat→List bV→Prop}
theorem Cn.pos{n:Nat}{s:List bV}{c:Int}(h:Cn T tb p0 n s c):0<c:=by
 induction h with
 | @mk n s cs h2 _ ih=>
  unfold eV
  split
  ·omega
  ·rename_i hne
   cases cs with
   |nil=>exact absurd (List.eq_nil_of_length_eq_zero h2.symm) hne
   |cons c cs=>
    have h0:=ih 0 (by rw[←h2];simp)
    rw[List.getD_cons_zero]at h0
    have hcs:∀x∈cs,0≤x:=fun x hx=>by
     obtain⟨i,hi⟩:=List.getElem?_of_mem hx
     have hlt:=(List.getElem?_eq_some_iff.1 hi).1
     have:=ih (i+1) (by rw[←h2];simp;exact hlt)
     rw[List.getD_cons_succ,List.getD_eq_getElem?_getD,hi]at this
     have this:0<x:=this
     omega
    have:=Fo cs (min (0+c) 1001) (show min (0+c) 1001≤1001 by omega) hcs
    have h3:JR (c::cs)=cs.foldl (fun a c=>min (a+c) 1001) (min (0+c) 1001):=rfl
    rw[h3]
    have:(0:Int)<min (0+c) 1001:=by omega
    omega
theorem iy.at_{L M:List Sq}{op:List Nat}(h:iy T tb p0 L M op){k n:Nat}{s:List bV}(ha:At L k n s):At M k n s:=by
 obtain⟨q,h1,h2,h3⟩:=ha
 obtain⟨c,t,h4,_⟩:=h.2 k q h1
 exact⟨_,h4,h2,h3⟩
theorem iy.from_{L M:List Sq}{op:List Nat}(h:iy T tb p0 L M op){k:Nat}{q':Sq}(hk:M[k]? =some q'):∃q c t,L[k]? =some q∧q'=q.mark c t:=by
 have hlt:=(List.getElem?_eq_some_iff.1 hk).1
 have e1:L[k]? =some (L[k]'(by rw[←h.1];exact hlt)):=List.getElem?_eq_getElem _
 obtain⟨c,t,h4,_⟩:=h.2 k _ e1
 rw[hk]at h4
 cases h4
 exact⟨_,c,t,e1,rfl⟩
theorem C4{α:Type}{l:List α}{i:Nat}{a:α}(h:l[i]? =some a):l.set i a=l:=by
 apply List.ext_getElem?
 intro k
 rw[List.getElem?_set]
 split
 ·rename_i e
  subst e
  rw[if_pos (List.getElem?_eq_some_iff.1 h).1,h]
 ·rfl
structure KM (T:an) (tb:Nat→db) (p0:dw) (Φ:Nat→Nat→List bV→Prop) (n:Nat) (s:List bV) (M:List Sq):Prop where
 gr:Hm T tb p0 M
 len:M.length≤20000
 st:∀(k:Nat) (q:Sq),M[k]? =some q→∃u,Φ u q.n q.s
 first:∃q,M[0]? =some q∧q.n=n∧q.s=s∧Cn T tb p0 n s q.lq
set_option maxHeartbeats 4000000 in
theorem zc(R:jz T tb p0 Φ)(hv:aq T=true)(h12:T.nodes≤12){U:List (Nat×List bV)}(hU:∀ {u n s},Φ u n s→(n,s)∈U)(hUl:U.length≤20000)(tbs:List db)(htl:(tbs.length:Int)=T.nodes)(htb:∀n:Nat,(n:Int)<T.nodes→tbs[n]? =some (tb n))
  (hok:∀n:Nat,(n:Int)<T.nodes→(tb n).node=(n:Int)∧cQ T (tb n)=true) {u n:Nat} {p:dw} (hΦ:Φ u n p.stack) (hp:dq p p.stack=dq p0 p.stack):
  Can Tryz.prog 92 [aN T,ev tbs,dv p,num n] (fun r=>∃M,r= .tuple [Km T tbs p0 M,num 0]∧KM T tb p0 Φ n p.stack M):=by
 have hn:=R.node hΦ
 have hck:=sH T tbs hv htl (fun i x hx=>by
  have hil:=(List.getElem?_eq_some_iff.1 hx).1
  have:=htb i (by omega)
  rw[this]at hx
  cases hx
  exact hok i (by omega))
 refine aG Tryz.func92 I Tryz.ntmps92 I<|ab (.a 4 I<|.k [1,3,4,6] I)<|aj<|ab (.a 2 I<|.c rfl (hck) I<|.a 1 I<|.k [1,3,4,6,15] I)<|ag I (fun hc=>?_) (fun hc=>?_)
 ·cases hc
 ·refine ai<|aj<|ab (.a 1 I<|.v (cc I ((decide_eq_false (by omega)))) I<|.a 4 I<|.v (cc I ((decide_eq_false (by omega)))) I<|.a 1 I<|.k [1,3,4,6,23] I)<|ag I (fun hc=>?_) (fun hc=>?_)
  ·cases hc
  ·refine ai<|aM<|au 4 I<|cN I I (bU.mono (vY R hv h12 hU hUl tbs htb hΦ hp) (fun y σ' h=>?_))
   obtain⟨L,j,rest,rfl,rfl,hj,hE,hat⟩:=h
   refine au 5 I<|aE [10] I ?_
   obtain⟨q,hq,hqn,hqs⟩:=hat
   have hfew:=hE.Jq hU
   have hjl:=(List.getElem?_eq_some_iff.1 hj).1
   have hok0:iy T tb p0 L L []:=⟨rfl,fun k x hx=>by
    obtain⟨js,e,_⟩:=hE.dn k x (List.getElem?_eq_some_iff.1 hx).1 hx
    refine⟨0,0,?_,.inl ⟨rfl,rfl⟩⟩
    rw[hx,e]
    rfl⟩
   refine eE (σ':=GV T p0 tbs j rest L) (by unfold GV;rw[C4 hj]) ?_
   refine aj<|aM<|au 1 I<|cN I I (bU.mono (zC R L hE (by omega) tbs j rest hjl u 0 q hq (by rw[hqn,hqs];exact hΦ) [] L hok0 (fun k hk=>by cases hk)) (fun y σ' h=>?_))
   obtain⟨M,t,rfl,rfl,hokM,_,hM0,hcn⟩:=h
   refine au 1 I<|aE [10,34] I ?_
   refine ag I (fun hc=>?_) (fun hc=>?_)
   ·cases hc
   ·refine ai<|ab (.a 3 I<|.k [8,9] I)<|ao ?_
    have hgr:Hm T tb p0 M:=fun k q' hk=>by
     obtain⟨q1,c1,t1,e1,rfl⟩:=hokM.from_ hk
     obtain⟨js,e2,e3,e4⟩:=hE.dn k q1 (List.getElem?_eq_some_iff.1 e1).1 e1
     refine⟨js,c1,t1,?_,e3,fun m a ha=>?_⟩
     ·show(⟨q1.n,q1.s,q1.a,q1.x,q1.cW,c1,t1⟩:Sq)=_
      rw[congrArg Sq.a e2,congrArg Sq.x e2,congrArg Sq.cW e2]
      rfl
     ·obtain⟨jm,g1,g2⟩:=e4 m a ha
      exact⟨jm,g1,hokM.at_ g2⟩
    haveI:aK (gg p0 M):=sd fun q hq=>by
     obtain⟨k,hk⟩:=List.getElem?_of_mem hq
     obtain⟨js,c,t,h1,_⟩:=hgr k q hk
     rw[h1]
     unfold nB
     infer_instance
    refine⟨_,_,az.of I,ax.aX (ah.cons (ax.jt (rfl:(GV T p0 tbs j rest M)[0]? =some (some (.cells 122 (bC T++[ev tbs,.own (j+1)])))) (ah.append ah.pure (ah.cons ax.pure (ah.cons (ax.fB (cM hjl) ah.pure) ah.nil))))<|ah.cons ax.pure ah.nil),M,rfl,hgr,by rw[hokM.1];omega,fun k q' hk=>?_,⟨_,hM0,hqn,hqs,by rw[←hqn,←hqs];exact hcn⟩⟩
    obtain⟨q1,c1,t1,e1,rfl⟩:=hokM.from_ hk
    exact hE.st k q1 e1
set_option maxHeartbeats 4000000 in
theorem uQ(R:jz T tb p0 Φ)(hdel:∀ {u n s},Φ u n s→(bJ T tb p0 n s).ay=[]→(bJ T tb p0 n s).cW= -1)(hv:aq T=true)(h12:T.nodes≤12){U:List (Nat×List bV)}(hU:∀ {u n s},Φ u n s→(n,s)∈U)(hUl:U.length≤20000)(tbs:List db)(htl:(tbs.length:Int)=T.nodes)(htb:∀n:Nat,(n:Int)<T.nodes→tbs[n]? =some (tb n))
  (hok:∀n:Nat,(n:Int)<T.nodes→(tb n).node=(n:Int)∧cQ T (tb n)=true) {u n:Nat} {p:dw} (hΦ:Φ u n p.stack) (hp:dq p p.stack=dq p0 p.stack):
  Can Tryz.prog 51 [aN T,ev tbs,dv p,num n] (· = .tuple [flag true,num 0]):=by
 refine aG Tryz.func51 I Tryz.ntmps51 I<|ab (.a 4 I<|.k [1,3,4,6] I)<|aM<|au 4 I<|cN I I (bU.mono (bU.Ab (zc R hv h12 hU hUl tbs htl htb hok hΦ hp)) (fun y σ' h=>?_))
 obtain⟨⟨M,rfl,C⟩,rfl⟩:=h
 refine au 5 I<|aE [10,11] I ?_
 refine aj<|ab (.a 2 I<|.k [10,11,22] I)<|ag I (fun hc=>?_) (fun hc=>?_)
 ·cases hc
 ·haveI:=C.gr.pure (tbs:=tbs)
  have hMl:=C.len
  refine ai<|aj<|ab (.a 1 I<|.k [10,12] I)<|av<|eR [10,12] I<|bu (fun r st=>∃i:Nat,i≤M.length∧r=M.length - i∧st=⟨[(10,Km T tbs p0 M),(12,num i)],[]⟩) M.length ⟨0,by omega,by omega,rfl⟩ ?_
  rintro r st ⟨i,hi,rfl,rfl⟩
  refine aj<|ab (.a 4 I<|.v (aJ I ((rfl:(bC T++[ev tbs,.slice M.length (gg p0 M)])[4]? =some (.slice M.length (gg p0 M))))) I<|.a 2 I<|.k [10,12,30] I)<|ag I (fun hc=>?_) (fun hc=>?_)
  ·have hlt:i<M.length:=by have:=tt hc;omega
   obtain⟨q,hq⟩:∃q,M[i]? =some q:=⟨_,List.getElem?_eq_getElem hlt⟩
   obtain⟨u1,hu1⟩:=C.st i q hq
   obtain⟨js,c,t,hqe,hjl,_⟩:=C.gr i q hq
   have hd1:=hdel hu1
   obtain⟨O,hO⟩:∃O,bJ T tb p0 q.n q.s=O:=⟨_,rfl⟩
   rw[hO]at hqe hjl hd1
   have hqx:(nB p0 q)[8]? =some (aw js):=by rw[hqe];rfl
   have hqw:(nB p0 q)[9]? =some (num O.cW):=by rw[hqe];rfl
   obtain⟨q1,hq1⟩:∃q,decide ((js.length:Int)=0)=q:=⟨_,rfl⟩
   obtain⟨q2,hq2⟩:∃q,decide (O.cW≠ -1)=q:=⟨_,rfl⟩
   refine ai<|aj<|av<|bz 53 (.raw (.bool (q1&&q2))) [10,12] I ?_ ?_
   ·refine .a 3 I<|.v (aJ I ((rfl:(bC T++[ev tbs,.slice M.length (gg p0 M)])[4]? =some (.slice M.length (gg p0 M))))) I<|.a 1 I<|.v (aP ((i*12)) I) I<|.a 1 I<|.v (aJ I ((ei 8 hq (by omega) hqx))) I<|.a 1 I<|.v (cc I (hq1)) I<|.a 1 I<|?_
    cases q1
    ·exact .a 10 I<|.k [53,10,12] I
    ·exact .a 3 I<|.v (aJ I ((rfl:(bC T++[ev tbs,.slice M.length (gg p0 M)])[4]? =some (.slice M.length (gg p0 M))))) I<|.a 1 I<|.v (aP ((i*12)) I) I<|.a 1 I<|.v (aJ I ((ei 9 hq (by omega) hqw))) I<|.v (cc I (hq2)) I<|.a 1 I<|.k [53,10,12] I
   refine ag I (fun hc=>?_) (fun hc=>?_)
   ·have hz:(q1&&q2)=false:=by
     cases q1 with
     |false=>rfl
     |true=>
      cases q2 with
      |false=>rfl
      |true=>exact absurd (hd1 (List.eq_nil_of_length_eq_zero (by have:=tt hq1;omega))) (tt hq2)
    rw[hz]at hc
    cases hc
   ·refine ai<|aB (.a 1 I<|.v (aU I) I<|.a 1 I<|.k [10,12] I) ?_
    exact⟨M.length - (i+1),by omega,i+1,by omega,rfl,rfl⟩
  ·have hke:i=M.length:=by have:=ff hc;omega
   exact bf<|ab (.a 2 I<|.k [8,9] I)<|ao<|⟨_,_,az.of I,ax.pure,rfl⟩
end
theorem Can.LC{P:Program}{f:FuncId}{ps qs:List PV}{R:PV→Prop}(h:ah [] ps qs)(hc:Can P f qs R):Can P f ps R:=fun F w vs hF hG hr=>hc F w vs hF hG ⟨hr.1.trans h.1,fun j c u k1 k2=>by
 have hj:j<ps.length:=by rw[h.1];exact(List.getElem?_eq_some_iff.1 k2).1
 exact(h.2 j ps[j] u (by simp[hj]) k2).plain c (hr.2 j c _ k1 (by simp[hj]))⟩
section
variable {T:an} {k x:Int} {S:List Int} {s d:Nat} {late:Bool}
def Ks(s d:Int):PV:=.agg [num 0,num s,num d,num 0,.raw (.slice none 0 0),num 0]
instance (s d:Int):IsPure (Ks s d):=by unfold Ks;infer_instance
theorem F6(s d:Int):ax [] (Ks s d) (dv ⟨0,s,d,0,[],0⟩):=ax.gV (ah.cons ax.pure<|ah.cons ax.pure<|ah.cons ax.pure<|ah.cons ax.pure<|ah.cons ax.bQ<|ah.cons ax.pure ah.nil)
theorem nT{st:Nat→Int}(hst:st=fL S){p0:dw}:∀u n s',sM T k x d st p0 late u n s'→pR T k x S n=yl T (aI T k x) st n:=fun u n s' g=>by subst hst;exact EH g.here
theorem ya(hP:Jv T k x S s d late)(hcv:late=false→uu T k x=true)(hsafe:late=false→∀m:Nat,(m:Int)<T.nodes→¬Gn k x m→0≤dN T [] d m→0≤dN T (aI T k x) d m){u n:Nat}{s':List bV}(h:sM T k x d (fL S) ⟨0,s,d,0,[],0⟩ late u n s')(ha:(bJ T (yl T (aI T k x) (fL S)) ⟨0,s,d,0,[],0⟩ n s').ay=[]):(bJ T (yl T (aI T k x) (fL S)) ⟨0,s,d,0,[],0⟩ n s').cW= -1:=by
 rcases sr hP.valid hP.FI hP.dst hcv hsafe hP.perm h.Ju (p:=dq ⟨0,s,d,0,[],0⟩ s') I I I with⟨_,_,e3⟩|⟨ay,s2,e1,e2,_⟩
 ·exact e3
 ·have e1':bJ T (yl T (aI T k x) (fL S)) ⟨0,s,d,0,[],0⟩ n s'=cr (dq ⟨0,s,d,0,[],0⟩ s') s2 ay:=e1
  rw[e1']at ha
  exact absurd ha e2
theorem tT(hP:Jv T k x S s d late):∃u,sM T k x d (fL S) ⟨0,s,d,0,[],0⟩ late u s []:=⟨_,.inl ⟨hP.Lv,rfl⟩⟩
theorem HL(hP:Jv T k x S s d late)(hcv:late=false→uu T k x=true)(hsafe:late=false→∀m:Nat,(m:Int)<T.nodes→¬Gn k x m→0≤dN T [] d m→0≤dN T (aI T k x) d m):
  Can Tryz.prog 51 [aN T,ev (mX T k x S S.length),Ks s d,num s] (· = .tuple [flag true,num 0]):=by
 obtain⟨u,hu⟩:=tT hP
 have hv:=hP.valid
 have hl:=hP.len
 have R:=th (st:=fL S) (p0:=⟨0,s,d,0,[],0⟩) hv hP.FI hP.Kv hP.dst hcv hsafe hP.perm rfl
 have htl:((mX T k x S S.length).length:Int)=T.nodes:=by rw[oc];exact hl
 refine Can.LC (ah.cons ax.pure<|ah.cons ax.pure<|ah.cons (F6 _ _)<|ah.cons ax.pure ah.nil) (uQ (R.congr (nT rfl)) (fun g ha=>?_) hv hP.FI (U:=BS T (yl T (aI T k x) (fL S)) ⟨0,s,d,0,[],0⟩) (fun g=>g.mem) ?_ (mX T k x S S.length) htl (fun n hn=>uB (by omega)) (ve hv hP.FI) (p:=⟨0,s,d,0,[],0⟩) hu rfl)
 ·rw[nm (nT rfl) g]at ha ⊢
  exact ya hP hcv hsafe g ha
 ·have:=w7 (T:=T) (p0:=⟨0,s,d,0,[],0⟩) (yl T (aI T k x) (fL S)) hP.FI hP.Kv
  omega
theorem Ej(hP:Jv T k x S s d late)(hcv:late=false→uu T k x=true)(hsafe:late=false→∀m:Nat,(m:Int)<T.nodes→¬Gn k x m→0≤dN T [] d m→0≤dN T (aI T k x) d m):
  Can Tryz.prog 48 [aN T,bY k x,aw S,num s,num d] (· = .tuple [flag true,num 0]):=by
 obtain⟨u,hu⟩:=tT hP
 have hv:=hP.valid
 have R:=th (st:=fL S) (p0:=⟨0,s,d,0,[],0⟩) hv hP.FI hP.Kv hP.dst hcv hsafe hP.perm rfl
 refine uX hP.FI hP.ok hP.src hP.dst (R.congr (nT rfl)) (fun g ha=>?_) (U:=BS T (yl T (aI T k x) (fL S)) ⟨0,s,d,0,[],0⟩) (fun g=>g.mem) ?_ hu
 ·rw[nm (nT rfl) g]at ha ⊢
  exact ya hP hcv hsafe g ha
 ·have:=w7 (T:=T) (p0:=⟨0,s,d,0,[],0⟩) (yl T (aI T k x) (fL S)) hP.FI hP.Kv
  omega
theorem EY(hP:Jv T k x S s d late):Can Tryz.prog 20 [aN T,bY k x,aw S] (· = .tuple [ev (mX T k x S S.length),num 0]):=by
 have h:=tP T k x S (by have:=hP.len;have:=hP.FI;omega) hP.FI
 unfold Dk at h
 rw[hP.ok,if_pos rfl]at h
 exact h
end
theorem vE(c:vP)(h:uN c=false):Can Tryz.prog 12 [qR c] (· =flag true):=by
 have hsn:=rS c
 rw[h]at hsn
 refine aG Tryz.func12 I Tryz.ntmps12 I<|ab (.a 2 I<|.k [1] I)<|aj<|bz 15 (.raw (.bool (true))) [1] I ?_ ?_
 ·exact .c rfl (lM) I<|.a 3 I<|.c rfl (hsn) I<|.a 2 I<|.k [15,1] I
 refine ag I (fun hc=>?_) (fun hc=>?_)
 ·exact ab (.c rfl (lM) I<|.a 1 I<|.k [2] I)<|ao<|⟨_,_,az.of I,ax.pure,rfl⟩
 ·cases hc
theorem uI(T:an)(k x:Int)(S:List Int)(n d:Int)(h:uN ⟨T,k,x,S,n,d⟩=true):Can Tryz.prog 12 [qR ⟨T,k,x,S,n,d⟩] (· =flag true):=by
 have hsn:=rS ⟨T,k,x,S,n,d⟩
 obtain⟨s,e,rfl,rfl,hP⟩:=DW (Gt h)
 obtain⟨hcv,hsafe⟩:=DJ h hP.Lj
 rw[h]at hsn
 have htab:=EY hP
 have harr:=HL hP (fun _=>hcv) (fun _=>hsafe)
 have hmar:=Ej hP (fun _=>hcv) (fun _=>hsafe)
 obtain⟨L,hL⟩:∃L,mX T k x S S.length=L:=⟨_,rfl⟩
 rw[hL]at htab harr
 refine aG Tryz.func12 I Tryz.ntmps12 I<|ab (.a 2 I<|.k [1] I)<|aj<|bz 15 (.raw (.bool (false))) [1] I ?_ ?_
 ·exact .c rfl (lM) I<|.a 3 I<|.c rfl (hsn) I<|.a 2 I<|.k [15,1] I
 refine ag I (fun hc=>?_) (fun hc=>?_)
 ·cases hc
 ·refine ai<|ab (.a 1 I<|.v (fA I (rfl) I) I<|.a 4 I<|.c rfl (htab) I<|.a 5 I<|.k [1,3,4] I)<|aj<|ab (.a 2 I<|.k [1,3,28] I)<|ag I (fun hc=>?_) (fun hc=>?_)
  ·cases hc
  ·exact ai<|ab (.a 1 I<|.v (fA I (rfl) I) I<|.a 8 I<|.c rfl (harr) I<|.a 5 I<|.k [1,5,6] I)<|ab (.a 1 I<|.v (fA I (rfl) I) I<|.a 8 I<|.c rfl (hmar) I<|.a 5 I<|.k [5,6,7,8] I)<|ab (.a 13 I<|.k [2] I)<|ao<|⟨_,_,az.of I,ax.pure,rfl⟩
theorem qe(c:vP):Can Tryz.prog 12 [qR c] (· =flag true):=by
 obtain⟨T,k,x,S,n,d⟩:=c
 cases h:uN ⟨T,k,x,S,n,d⟩with
 |false=>exact vE _ h
 |true=>exact uI T k x S n d h
end
end PW
end Go.Proofs.YtnegbdpggideiaaGreatDoor
namespace Go.Proofs.YtnegbdpggideiaaGreatDoor.mixtureArrives
open Go.ChangeShapes Go.WideShapes Go.ChangeAt Go.RowKit
open cE Mem PW
set_option maxRecDepth 100000 in
theorem lifted(os:Os)(started:os.Started)(H:Type)(enc:TypeId×Value→H):
  ReturnsInHanded {} Tryz.checked os 12 .any (fun w args=>(Rows.mixtureArrivesSpec.pre enc Tryz.prog Tryz.f12 [] false w args∧laidMetH Tryz.prog Rows.mixtureArrivesRow.laid w)∧sizedMet enc Tryz.prog Tryz.f12 (OpenSpec.ofChange Rows.mixtureArrivesSpec) false w args)
   (Rows.mixtureArrivesSpec.post enc Tryz.prog Tryz.f12 false true false false):=by
 refine returnsInHanded_of_change_and (C:=Tryz.checked) (X:=fun w _=>laidMetH Tryz.prog Rows.mixtureArrivesRow.laid w) (fun _ _ _ hh h=>h.of_heap hh) own started (by kernel_rfl) Tryz.func12
  (ChangeSpec.witness_shaped (enc:=enc) (C:=Tryz.checked) (os:=os) (X:=fun w _=>laidMetH Tryz.prog Rows.mixtureArrivesRow.laid w) false (World.doorLaid Tryz.prog 400 os) #[.agg #[.int .i64 0,.slice none 0 0,.slice none 0 0,.int .i64 0,.int .i64 0,.slice none 0 0,.int .i64 0,.int .i64 0]] 8 rfl (World.shaped_of_RefB (by kernel_rfl) (by kernel_rfl)) (by kernel_rfl) (by kernel_rfl) (by kernel_rfl) (laidMetH_of_parts3 (fuel:=8) (laidMet_of_run' 8 (by kernel_rfl) (by kernel_rfl)) (by kernel_rfl) (by kernel_rfl))) ?_
 intro W base args ds gs before hval0 hW _ _ hL _
 have hval:∀(j:Nat) t v,Tryz.f12.params[j]? =some t→args[j]? =some v→Value.okWide Tryz.prog W .any base t v:=hval0
 have hW':=hW
 obtain⟨p,q,hA0,hV,rfl,hfz,hnd⟩:=hW
 have hA:DataW.TrodAll enc Tryz.prog W 0 (fun _=>true) true Tryz.f12.params.toList args.toList ds p:=hA0
 rw[Tryz.params12]at hA hval
 obtain⟨v0,vs0,d0,ds0,p0,q0,hargs,rfl,rfl,h0,r0⟩:=trodAll_cons hA
 obtain⟨rfl,rfl,rfl⟩:=trodAll_nil r0
 obtain rfl:args= #[v0]:=by cases args;simp_all
 obtain⟨rfl,rfl⟩:=trodVars_none hV
 have lt0:=JB h0
 obtain⟨c,R0⟩:=Jj (hval 0 50 v0 rfl rfl) h0
 clear hA0 hval0
 refine((qe c) (fun _=>False) W #[v0] (fun _ h=>h.elim) (CB hL) (bd.cons R0 (bd.nil _ _))).mono fun e W' ⟨x,he,bel,r,hr,hx⟩=>?_
 subst hr
 cases hx
 subst he
 exact⟨_,rfl,_,_,_,[],_,[],hW',trodAll_mk1 (shut_bool Tryz.underlying4 _),(trodAll_cons_mk (Below.trod laidOut (by kernel_rfl) (of_decide_eq_true (by kernel_rfl)) h0 bel lt0) trodAll_mk0),rfl,bel.frame _,fun h=>by cases h⟩
set_option maxRecDepth 100000 in
theorem Ly:(Rows.mixtureArrivesRow.inPlace==Tryz.prog.inPlace 12)=true:=by kernel_rfl
set_option maxRecDepth 100000 in
theorem Lw:(Rows.mixtureArrivesRow.unfollowed==Tryz.prog.unfollowed 12)=true:=by kernel_rfl
set_option maxRecDepth 100000 in
theorem Lr:(Rows.mixtureArrivesRow.recurses==Tryz.prog.recurses 12)=true:=by kernel_rfl
set_option maxRecDepth 100000 in
theorem Lk:(Rows.mixtureArrivesRow.named==Tryz.prog.varsNamed 12)=true:=by kernel_rfl
set_option maxRecDepth 100000 in
theorem closed:joinedFacts Tryz.prog 12 Tryz.f12 Rows.mixtureArrivesSpec Rows.mixtureArrivesRow=true:=by
 unfold joinedFacts
 rw[Ly,Lw,Lr,Lk]
 kernel_rfl
theorem over:Rows.mixtureArrivesRow.holds Tryz.pinned (OpenSpec.ofChange Rows.mixtureArrivesSpec):=
 OpenClaim.holds_of_wide 12 Tryz.f12 rfl rfl rfl rfl rfl rfl rfl ⟨rfl,rfl,rfl,rfl,rfl⟩ rfl rfl rfl rfl rfl (by kernel_rfl) Tryz.func12 closed
  (of_decide_eq_true (by kernel_rfl)) (by unfold Func.isWrapper;first|(rw[if_pos (by decide+kernel)];kernel_rfl)|(rw[if_neg (by decide+kernel)];exact⟨rfl,rfl⟩))
  (fun os started H enc _=>lifted os started H enc)
theorem proved:Rows.MixtureArrivesCardSaid:=
 Claim7.holds_tied_plain_at .later [] [.data,.data,.data] true (true,"3eedc3262a1e22f25a0699067de5cf2e4c3ca5fe316ddc4ea68067e33fe38499") false
  over (fun _ h=>by cases h) (by kernel_rfl) (fun _ h=>by cases h) mixtureArrives_row_tie rfl ⟨rfl,rfl⟩ (by kernel_rfl) rfl
  (fun f fn hf hfn=>by
   obtain rfl:f=12:=Option.some.inj ((show Tryz.prog.funcNamed "waypoint/waypointlaw31.MixtureArrives" =some 12 by kernel_rfl).symm.trans hf) |>.symm
   obtain rfl:fn=Tryz.f12:=(Option.some.inj (Tryz.func12.symm.trans hfn)).symm
   exact⟨by kernel_rfl,fun j t ht=>by
    rw[Tryz.params12]at ht
    have hm:t∈[50]:=by simpa using Array.mem_of_getElem? ht
    have hall:([50].all fun u=> !Tryz.prog.wantsStandIn u)=true:=by kernel_rfl
    exact(show Tryz.prog.wantsStandIn t=false by simpa using List.all_eq_true.1 hall t hm)⟩)
  (by kernel_rfl)
end Go.Proofs.YtnegbdpggideiaaGreatDoor.mixtureArrives
