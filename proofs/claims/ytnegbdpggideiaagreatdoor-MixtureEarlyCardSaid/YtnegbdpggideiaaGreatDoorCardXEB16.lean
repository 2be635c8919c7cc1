/- MixtureEarly returns true for every input: before the first node in the state Repair or Transition the old distance decreases by the cost of each arc, and no arc of any branch is down. Package-level tables start as the program's text lays them. -/
import Derived.Test.YtnegbdpggideiaaGreatDoorCardXEB15
set_option linter.unusedVariables false
set_option linter.unusedSimpArgs false
set_option maxRecDepth 10000
set_option maxHeartbeats 1000000
namespace Go.Proofs.YtnegbdpggideiaaGreatDoor
namespace PW
section
open Go.RowKit cG Mem Net eY
inductive Cn (T:ak) (tb:Nat→de) (p0:dx):Nat→List bV→Int→Prop
 |mk {n:Nat} {s:List bV} {cs:List Int}:cs.length=(bL T tb p0 n s).ax.length→
   (∀i,i<(bL T tb p0 n s).ax.length→Cn T tb p0 (aS T ((bL T tb p0 n s).ax.getD i 0).toNat).toNat (bL T tb p0 n s).eo.stack (cs.getD i 0))→Cn T tb p0 n s (eK (bL T tb p0 n s).ax cs)
section
variable {T:ak} {tb:Nat→de} {p0:dx} {Φ:Nat→Nat→List bV→Prop}
theorem Cn.bound{n:Nat}{s:List bV}{c:Int}(h:Cn T tb p0 n s c):0≤c∧c≤1001:=by
 induction h with
 | @mk n s cs h2 _ ih=>
  unfold eK
  split
  ·omega
  ·refine hJ cs 0 (by omega) (by omega) fun c hc=>?_
   obtain⟨i,hi⟩:=List.getElem?_of_mem hc
   have hlt:=(List.getElem?_eq_some_iff.1 hi).1
   have:=(ih i (by rw[←h2];exact hlt)).1
   rw[List.getD_eq_getElem?_getD,hi]at this
   exact this
def Sq.mark(q:Sq)(c t:Int):Sq:=⟨q.n,q.s,q.a,q.x,q.cS,c,t⟩
def iE(T:ak)(tb:Nat→de)(p0:dx)(L M:List Sq)(op:List Nat):Prop:=
 M.length=L.length∧∀(k:Nat) q,L[k]? =some q→∃c t,M[k]? =some (q.mark c t)∧((c=0∧t=0)∨(c=1∧k∈op)∨(c=2∧Cn T tb p0 q.n q.s t))
theorem iE.open_{L M:List Sq}{op:List Nat}(h:iE T tb p0 L M op){i:Nat}{q:Sq}(hq:L[i]? =some q)(t:Int):iE T tb p0 L (M.set i (q.mark 1 t)) (i::op):=by
 refine⟨by rw[List.length_set];exact h.1,fun k x hx=>?_⟩
 by_cases hk:k=i
 ·subst hk
  rw[hq]at hx
  cases hx
  obtain⟨c,t',h1,_⟩:=h.2 k q hq
  exact⟨1,t,aW h1,.inr (.inl ⟨rfl,List.mem_cons_self⟩)⟩
 ·obtain⟨c,t',h1,h2⟩:=h.2 k x hx
  refine⟨c,t',aD h1 (Ne.symm hk),?_⟩
  rcases h2 with h2|⟨h2,h3⟩|h2
  ·exact .inl h2
  ·exact .inr (.inl ⟨h2,List.mem_cons_of_mem _ h3⟩)
  ·exact .inr (.inr h2)
theorem iE.shut{L M:List Sq}{op:List Nat}{i:Nat}(h:iE T tb p0 L M (i::op)){q:Sq}(hq:L[i]? =some q){t:Int}(ht:Cn T tb p0 q.n q.s t):iE T tb p0 L (M.set i (q.mark 2 t)) op:=by
 refine⟨by rw[List.length_set];exact h.1,fun k x hx=>?_⟩
 by_cases hk:k=i
 ·subst hk
  rw[hq]at hx
  cases hx
  obtain⟨c,t',h1,_⟩:=h.2 k q hq
  exact⟨2,t,aW h1,.inr (.inr ⟨rfl,ht⟩)⟩
 ·obtain⟨c,t',h1,h2⟩:=h.2 k x hx
  refine⟨c,t',aD h1 (Ne.symm hk),?_⟩
  rcases h2 with h2|⟨h2,h3⟩|h2
  ·exact .inl h2
  ·rcases List.mem_cons.1 h3 with h3|h3
   ·exact absurd h3 hk
   ·exact .inr (.inl ⟨h2,h3⟩)
  ·exact .inr (.inr h2)
def GV(T:ak)(p0:dx)(tbs:List de)(j:Nat)(rest:cg)(M:List Sq):cg:=GP T tbs j (rest.set j (eV p0 M))
theorem cP{tbs:List de}{j:Nat}{rest:cg}{M:List Sq}(hj:j<rest.length):(GV T p0 tbs j rest M)[j+1]? =some (eV p0 M):=by
 show(rest.set j (eV p0 M))[j]? =_
 rw[List.getElem?_set,if_pos rfl,if_pos hj]
theorem pg{tbs:List de}{j:Nat}{rest:cg}{L:List Sq}{i:Nat}{q b:Sq}(c:Nat)(h:L[i]? =some q)(hc:c<12){v:PV}(hb:kF p0 b=(kF p0 q).set c v):
  (GV T p0 tbs j rest L).set (j+1) (some ((cK.row 119 12 L.length (gL p0 L)).qa (over (gL p0 L) (i*12+c) [v])))=GV T p0 tbs j rest (L.set i b):=by
 unfold GV
 rw[vh c h hc hb,List.set_set]
theorem pz{p0:dx}{L:List Sq}{i:Nat}{q:Sq}(c:Nat)(h:L[i]? =some q)(hc:c<12):i*12+c<(gL p0 L).length:=by
 have hil:=(List.getElem?_eq_some_iff.1 h).1
 rw[oC];omega
def LW(T:ak)(tb:Nat→de)(p0:dx)(tbs:List de)(L M:List Sq)(op:List Nat)(j:Nat)(rest:cg)(i:Nat)(q:Sq)(r:PV)(σ':cg):Prop:=
 ∃M' t,r=flag true∧σ'=GV T p0 tbs j rest M'∧iE T tb p0 L M' op∧(∀k∈op,M'[k]? =M[k]?)∧M'[i]? =some (q.mark 2 t)∧Cn T tb p0 q.n q.s t
set_option maxHeartbeats 4000000 in
theorem zm(R:iK T tb p0 Φ)(L:List Sq)(hL:ko T tb p0 Φ L L.length L.length)(hll:L.length≤100000)(tbs:List de)(j:Nat)(rest:cg)(hj:j<rest.length):
  ∀(u i:Nat) (q:Sq),L[i]? =some q→Φ u q.n q.s→∀(op:List Nat) (M:List Sq),iE T tb p0 L M op→(∀k∈op,∃qk,L[k]? =some qk∧Da T tb p0 qk.n qk.s q.n q.s)→
   bU Tryz.prog 137 [.ptr 0 0,num i] (GV T p0 tbs j rest M) (LW T tb p0 tbs L M op j rest i q):=by
 intro u
 induction u using Nat.strongRecOn with
 |_ u ih=>
 intro i q hq hΦ op M hok hop
 have hil:=(List.getElem?_eq_some_iff.1 hq).1
 have hni:i∉op:=fun h=>by
  obtain⟨qk,h1,h2⟩:=hop i h
  rw[hq]at h1
  cases h1
  exact R.wA h2 hΦ
 obtain⟨c,t,hM,hct⟩:=hok.2 i q hq
 obtain⟨js,hqe,hjl,hjs⟩:=hL.dn i q hil hq
 have hbr:=R.step hΦ
 obtain⟨O,hOO⟩:∃O,bL T tb p0 q.n q.s=O:=⟨_,rfl⟩
 rw[hOO]at hqe hjl hjs hbr
 have hqx:q.x=av js:=congrArg Sq.x hqe
 have hMl:=hok.1
 have hal:O.ax.length≤1000:=by
  rcases hbr with h|⟨h,_⟩
  ·rw[h];simp
  ·exact h
 refine ct Tryz.func137 I Tryz.ntmps137 I<|ab (.a 1 I<|.k [0,1] I)<|aj<|ab (.a 3 I<|.v (aR (i:=0) (k:=4) (p:=.own (j+1)) I (ba.tk.get I) I I I) I<|.a 1 I<|.v (b9 (i:=(i:Int)) I (ba.el.get I) I (cP hj) I (by omega) (by omega) I) I<|.a 1 I<|.v (aR I (ba.tk.get I) I (cP hj) (eA (v:=num c) 10 hM (by omega) I)) I<|.a 1 I<|.k [0,1,15] I)<|ag I (fun hc=>?_) (fun hc=>?_)
 ·have hc2:c=2∧Cn T tb p0 q.n q.s t:=by
   have:=tt hc
   rcases hct with⟨h,_⟩|⟨_,h⟩|h
   ·omega
   ·exact absurd h hni
   ·exact h
  obtain⟨rfl,hcn⟩:=hc2
  exact ab (.a 3 I<|.v (aR (i:=0) (k:=4) (p:=.own (j+1)) I (ba.tk.get I) I I I) I<|.a 1 I<|.v (b9 (i:=(i:Int)) I (ba.el.get I) I (cP hj) I (by omega) (by omega) I) I<|.a 1 I<|.v (aR I (ba.tk.get I) I (cP hj) (eA (v:=num 2) 10 hM (by omega) I)) I<|.a 2 I<|.k [4] I)<|ao<|⟨_,az.of I,M,t,rfl,rfl,hok,fun k _=>rfl,hM,hcn⟩
 ·have hc0:c=0∧t=0:=by
   have:=ff hc
   rcases hct with h|⟨h,_⟩|⟨h,_⟩
   ·exact h
   ·omega
   ·omega
  obtain⟨rfl,rfl⟩:=hc0
  refine ai<|aO<|aw 3 I ?_
  refine bw (aR (i:=0) (k:=4) (p:=.own (j+1)) I (ba.tk.get I) I I I) I ?_
  refine aw 1 I ?_
  refine bw (b9 (i:=(i:Int)) I (ba.el.get I) I (cP hj) I (by omega) (by omega) I) I ?_
  refine aw 1 I ?_
  refine bc (cq.to (σ:=GV T p0 tbs j rest M) (cd I (ba.tk.get I) I I (cP hj) (pz 10 hM (by omega))) (σ'':=GV T p0 tbs j rest (M.set i (q.mark 1 0))) I (pg 10 hM (by omega) I)) I I ?_
  refine aE [0,1] I ?_
  obtain⟨M1,hM1⟩:∃M1,M.set i (q.mark 1 0)=M1:=⟨_,rfl⟩
  have hq1:M1[i]? =some (q.mark 1 0):=hM1▸aW hM
  have hl1:M1.length=L.length:=by rw[←hM1,List.length_set];exact hMl
  rw[hM1]
  refine aj<|ab (.a 3 I<|.v (aR (i:=0) (k:=4) (p:=.own (j+1)) I (ba.tk.get I) I I I) I<|.a 1 I<|.v (b9 (i:=(i:Int)) I (ba.el.get I) I (cP hj) I (by omega) (by omega) I) I<|.a 1 I<|.v (aR I (ba.tk.get I) I (cP hj) (eA (v:=av js) 8 hq1 (by omega) (by rw[←hqx];rfl))) I<|.a 2 I<|.k [0,1,41] I)<|ag I (fun hc=>?_) (fun hc=>?_)
  ·have harc:O.ax=[]:=List.eq_nil_of_length_eq_zero (by have:=tt hc;omega)
   refine bI<|aw 3 I ?_
   refine bw (aR (i:=0) (k:=4) (p:=.own (j+1)) I (ba.tk.get I) I I I) I ?_
   refine aw 1 I ?_
   refine bw (b9 (i:=(i:Int)) I (ba.el.get I) I (cP hj) I (by omega) (by omega) I) I ?_
   refine aw 1 I ?_
   refine bc (cq.to (σ:=GV T p0 tbs j rest M1) (cd I (ba.tk.get I) I I (cP hj) (pz 11 hq1 (by omega))) (σ'':=GV T p0 tbs j rest (M1.set i (q.mark 1 1))) I (pg 11 hq1 (by omega) I)) I I ?_
   refine aE [0,1] I ?_
   obtain⟨M2,hM2,hok2,hfr2⟩:∃M2,M1.set i (q.mark 1 1)=M2∧iE T tb p0 L M2 (i::op)∧∀k∈op,M2[k]? =M[k]? :=⟨_,rfl,by rw[←hM1,List.set_set];exact hok.open_ hq 1,fun k hk=>by rw[←hM1,List.set_set,List.getElem?_set,if_neg (fun e=>hni (by rw[e];exact hk))]⟩
   have hq2:M2[i]? =some (q.mark 1 (eK O.ax [])):=by rw[←hM2,aW hq1];unfold eK;rw[if_pos harc]
   rw[hM2]
   clear hM2 hq1 hl1 hM1 harc hc
   refine aj<|ab (.a 1 I<|.k [0,1,5] I)<|au<|eH [0,1,5] I<|bq (fun r st=>∃(k:Nat) (M':List Sq) (cs:List Int),k≤js.length∧r=js.length - k∧M'[i]? =some (q.mark 1 (eK O.ax cs))∧cs.length=k∧iE T tb p0 L M' (i::op)∧(∀k∈op,M'[k]? =M[k]?)∧(∀z,z<k→Cn T tb p0 (aS T (O.ax.getD z 0).toNat).toNat O.eo.stack (cs.getD z 0))∧st=⟨[(0,.ptr 0 0),(1,num i),(5,num k)],GV T p0 tbs j rest M'⟩) js.length ⟨0,M2,[],by omega,by omega,hq2,rfl,hok2,hfr2,fun z hz=>absurd hz (by omega),rfl⟩ ?_
   clear hq2 hok2 hfr2 M2
   rintro r st ⟨k,M',cs,hk,rfl,hqi,hlc,hok',hfr,hcn,rfl⟩
   have hMl':=hok'.1
   refine aj<|ab (.a 4 I<|.v (aR (i:=0) (k:=4) (p:=.own (j+1)) I (ba.tk.get I) I I I) I<|.a 1 I<|.v (b9 (i:=(i:Int)) I (ba.el.get I) I (cP hj) I (by omega) (by omega) I) I<|.a 1 I<|.v (aR I (ba.tk.get I) I (cP hj) (eA (v:=av js) 8 hqi (by omega) (by rw[←hqx];rfl))) I<|.a 2 I<|.k [0,1,5,59] I)<|ag I (fun hc=>?_) (fun hc=>?_)
   ·have hlt:k<js.length:=by have:=tt hc;omega
    obtain⟨a,ha⟩:∃a,O.ax[k]? =some a:=⟨_,List.getElem?_eq_getElem (by omega)⟩
    have had:O.ax.getD k 0=a:=by rw[List.getD_eq_getElem?_getD,ha];rfl
    obtain⟨jm,g1,q2,hq2,hn2,hs2⟩:=hjs k a ha
    obtain⟨b,m2,hab,hb,hm2,u',hu',hΦ'⟩:∃b m2:Nat,a=(b:Int)∧b<2*T.ae.length∧aS T b=(m2:Int)∧∃u',u'<u∧Φ u' m2 O.eo.stack:=by
     rcases hbr with h|⟨_,_,h⟩
     ·rw[h]at ha;simp at ha
     ·exact h _ (List.mem_of_getElem? ha)
    have hhead:aS T a.toNat=(m2:Int):=by rw[hab,Int.toNat_natCast];exact hm2
    have hn3:q2.n=m2:=by rw[hn2,hhead,Int.toNat_natCast]
    have hΦ2:Φ u' q2.n q2.s:=by rw[hn3,hs2];exact hΦ'
    have hop':∀k∈i::op,∃qk,L[k]? =some qk∧Da T tb p0 qk.n qk.s q2.n q2.s:=fun z hz=>by
     have ha':a∈(bL T tb p0 q.n q.s).ax:=by rw[hOO];exact List.mem_of_getElem? ha
     rw[hn3,hs2,←hOO]
     rcases List.mem_cons.1 hz with rfl|hz
     ·exact⟨q,hq,.one ha' hhead⟩
     ·obtain⟨qk,e1,e2⟩:=hop z hz
      exact⟨qk,e1,.more e2 ha' hhead⟩
    have hjm:=(List.getElem?_eq_some_iff.1 hq2).1
    refine ai<|aj<|au<|ab (.a 3 I<|.v (aR (i:=0) (k:=4) (p:=.own (j+1)) I (ba.tk.get I) I I I) I<|.a 1 I<|.v (b9 (i:=(i:Int)) I (ba.el.get I) I (cP hj) I (by omega) (by omega) I) I<|.a 1 I<|.v (aR I (ba.tk.get I) I (cP hj) (eA (v:=av js) 8 hqi (by omega) (by rw[←hqx];rfl))) I<|.a 1 I<|.v (aN (k) I) I<|.v (aJ I ((aB js k hlt).trans (show some (num (js.getD k 0))=some (num (jm:Int)) by rw[List.getD_eq_getElem?_getD,g1];rfl))) I<|.a 1 I<|.k [0,1,5,6] I) ?_
    refine aj<|aO<|aw 2 I<|cN I I (bU.mono (ih u' hu' jm q2 hq2 hΦ2 (i::op) M' hok' hop') (fun y σ' h=>?_))
    obtain⟨M3,t3,rfl,rfl,hok3,hfr3,hM3,hcn3⟩:=h
    refine aw 1 I<|aE [0,1,5,6,76] I ?_
    refine ag I (fun hc=>?_) (fun hc=>?_)
    ·cases hc
    ·have hqi3:M3[i]? =some (q.mark 1 (eK O.ax cs)):=(hfr3 i List.mem_cons_self).trans hqi
     have hMl3:=hok3.1
     have hne:O.ax≠[]:=fun h=>by rw[h]at ha;simp at ha
     have hcb:0≤eK O.ax cs∧eK O.ax cs≤1001:=by
      unfold eK
      rw[if_neg hne]
      refine hJ cs 0 (by omega) (by omega) fun z hz=>?_
      obtain⟨y,hy⟩:=List.getElem?_of_mem hz
      have hyl:=(List.getElem?_eq_some_iff.1 hy).1
      have:=(hcn y (by omega)).bound.1
      rwa [List.getD_eq_getElem?_getD,hy]at this
     have hbs:min 1001 (eK O.ax cs+t3)=eK O.ax (cs++[t3]):=by unfold eK;rw[if_neg hne,if_neg hne,lX];omega
     have hct3:=hcn3.bound
     refine ai<|dL 25 20 mixed (
      .val [0] I (aZ I) I I<|
      .val [77] I (aZ I) I I<|
      .val [78] I (aZ I) I I<|
      .val [79] I (aR (i:=0) (k:=4) (p:=.own (j+1)) I (ba.tk.get I) I I I) I I<|
      .val [1] I (aZ I) I I<|
      .val [0] I (aZ I) I I<|
      .val [82] I (aZ I) I I<|
      .val [83] I (aZ I) I I<|
      .val [84] I (aR (i:=0) (k:=4) (p:=.own (j+1)) I (ba.tk.get I) I I I) I I<|
      .val [1] I (aZ I) I I<|
      .val [85,86] I (b9 (i:=(i:Int)) I (ba.el.get I) I (cP hj) I (by omega) (by omega) I) I I<|
      .val [87] I (aZ I) I I<|
      .val [88] I (aR I (ba.tk.get I) I (cP hj) (eA (v:=num (eK O.ax cs)) 11 hqi3 (by omega) I)) I I<|
      .val [0] I (aZ I) I I<|
      .val [90] I (aZ I) I I<|
      .val [91] I (aZ I) I I<|
      .val [92] I (aR (i:=0) (k:=4) (p:=.own (j+1)) I (ba.tk.get I) I I I) I I<|
      .val [6] I (aZ I) I I<|
      .val [93,94] I (b9 (i:=(jm:Int)) I (ba.el.get I) I (cP hj) I (by omega) (by omega) I) I I<|
      .val [95] I (aZ I) I I<|
      .val [96] I (aR I (ba.tk.get I) I (cP hj) (eA (v:=num t3) 11 hM3 (by omega) I)) I I<|
      .val [89,97] I (aU I) I I<|
      .val [98] I (td I I I (hbs)) I I<|
      .val [80,81] I (b9 (i:=(i:Int)) I (ba.el.get I) I (cP hj) I (by omega) (by omega) I) I I<|
      .val [100] I (aZ I) I I<|
      .nil) (by kernel_rfl) I I (aY (ks:=[0,1,5,99,101]) I) ?_
     refine bc (cq.to (σ:=GV T p0 tbs j rest M3) (cd I (ba.tk.get I) I I (cP hj) (pz 11 hqi3 (by omega))) (σ'':=GV T p0 tbs j rest (M3.set i (q.mark 1 (eK O.ax (cs++[t3]))))) I (pg 11 hqi3 (by omega) I)) I I<|aE [0,1,5] I ?_
     refine aC (.a 1 I<|.v (aU I) I<|.a 1 I<|.k [0,1,5] I) ?_
     refine⟨js.length - (k+1),by omega,k+1,_,cs++[t3],by omega,rfl,aW hqi3,by simp[hlc],?_,fun z hz=>?_,fun z hz=>?_,rfl⟩
     ·have:=hok3.open_ hq (eK O.ax (cs++[t3]))
      refine⟨this.1,fun z x hx=>?_⟩
      obtain⟨c,t,e1,e2⟩:=this.2 z x hx
      refine⟨c,t,e1,?_⟩
      rcases e2 with e2|⟨e2,e3⟩|e2
      ·exact .inl e2
      ·refine .inr (.inl ⟨e2,?_⟩)
       rcases List.mem_cons.1 e3 with e3|e3
       ·rw[e3];exact List.mem_cons_self
       ·exact e3
      ·exact .inr (.inr e2)
     ·rw[List.getElem?_set,if_neg (fun e=>hni (by rw[e];exact hz)),hfr3 z (List.mem_cons_of_mem _ hz)]
      exact hfr z hz
     ·by_cases hzk:z<k
      ·have e1:(cs++[t3]).getD z 0=cs.getD z 0:=by rw[List.getD_eq_getElem?_getD,List.getD_eq_getElem?_getD,List.getElem?_append_left (by omega)]
       rw[e1]
       exact hcn z hzk
      ·obtain rfl:z=k:=by omega
       have e1:(cs++[t3]).getD z 0=t3:=by rw[List.getD_eq_getElem?_getD,cU hlc];rfl
       rw[e1,had,←hn2,←hs2]
       exact hcn3
   ·have hke:k=js.length:=by have:=ff hc;omega
    refine bd<|aO<|aw 3 I ?_
    refine bw (aR (i:=0) (k:=4) (p:=.own (j+1)) I (ba.tk.get I) I I I) I ?_
    refine aw 1 I ?_
    refine bw (b9 (i:=(i:Int)) I (ba.el.get I) I (cP hj) I (by omega) (by omega) I) I ?_
    refine aw 1 I ?_
    refine bc (cq.to (σ:=GV T p0 tbs j rest M') (cd I (ba.tk.get I) I I (cP hj) (pz 10 hqi (by omega))) (σ'':=GV T p0 tbs j rest (M'.set i (q.mark 2 (eK O.ax cs)))) I (pg 10 hqi (by omega) I)) I I ?_
    refine aE [] I ?_
    refine ab (.a 1 I<|.k [4] I)<|ao ?_
    have hcc:Cn T tb p0 q.n q.s (eK O.ax cs):=by
     have:=Cn.mk (T:=T) (tb:=tb) (p0:=p0) (n:=q.n) (s:=q.s) (cs:=cs) (by rw[hOO];omega) (fun z hz=>by rw[hOO]at hz ⊢;exact hcn z (by omega))
     rwa [hOO]at this
    exact⟨_,az.of I,_,_,rfl,rfl,hok'.shut hq hcc,fun z hz=>by rw[List.getElem?_set,if_neg (fun e=>hni (by rw[e];exact hz))];exact hfr z hz,aW hqi,hcc⟩
  ·have harc:O.ax≠[]:=fun h=>by have:=ff hc;rw[h]at hjl;simp at hjl;subst hjl;simp at this
   obtain⟨M2,hM2,hok2,hfr2⟩:∃M2,M1=M2∧iE T tb p0 L M2 (i::op)∧∀k∈op,M2[k]? =M[k]? :=⟨_,rfl,hM1▸hok.open_ hq 0,fun k hk=>by rw[←hM1,List.getElem?_set,if_neg (fun e=>hni (by rw[e];exact hk))]⟩
   have hq2:M2[i]? =some (q.mark 1 (eK O.ax [])):=by rw[←hM2,hq1];unfold eK;rw[if_neg harc];rfl
   rw[hM2]
   clear hM2 hq1 hl1 hM1 harc hc
   refine ai<|aj<|ab (.a 1 I<|.k [0,1,5] I)<|au<|eH [0,1,5] I<|bq (fun r st=>∃(k:Nat) (M':List Sq) (cs:List Int),k≤js.length∧r=js.length - k∧M'[i]? =some (q.mark 1 (eK O.ax cs))∧cs.length=k∧iE T tb p0 L M' (i::op)∧(∀k∈op,M'[k]? =M[k]?)∧(∀z,z<k→Cn T tb p0 (aS T (O.ax.getD z 0).toNat).toNat O.eo.stack (cs.getD z 0))∧st=⟨[(0,.ptr 0 0),(1,num i),(5,num k)],GV T p0 tbs j rest M'⟩) js.length ⟨0,M2,[],by omega,by omega,hq2,rfl,hok2,hfr2,fun z hz=>absurd hz (by omega),rfl⟩ ?_
   clear hq2 hok2 hfr2 M2
   rintro r st ⟨k,M',cs,hk,rfl,hqi,hlc,hok',hfr,hcn,rfl⟩
   have hMl':=hok'.1
   refine aj<|ab (.a 4 I<|.v (aR (i:=0) (k:=4) (p:=.own (j+1)) I (ba.tk.get I) I I I) I<|.a 1 I<|.v (b9 (i:=(i:Int)) I (ba.el.get I) I (cP hj) I (by omega) (by omega) I) I<|.a 1 I<|.v (aR I (ba.tk.get I) I (cP hj) (eA (v:=av js) 8 hqi (by omega) (by rw[←hqx];rfl))) I<|.a 2 I<|.k [0,1,5,59] I)<|ag I (fun hc=>?_) (fun hc=>?_)
   ·have hlt:k<js.length:=by have:=tt hc;omega
    obtain⟨a,ha⟩:∃a,O.ax[k]? =some a:=⟨_,List.getElem?_eq_getElem (by omega)⟩
    have had:O.ax.getD k 0=a:=by rw[List.getD_eq_getElem?_getD,ha];rfl
    obtain⟨jm,g1,q2,hq2,hn2,hs2⟩:=hjs k a ha
    obtain⟨b,m2,hab,hb,hm2,u',hu',hΦ'⟩:∃b m2:Nat,a=(b:Int)∧b<2*T.ae.length∧aS T b=(m2:Int)∧∃u',u'<u∧Φ u' m2 O.eo.stack:=by
     rcases hbr with h|⟨_,_,h⟩
     ·rw[h]at ha;simp at ha
     ·exact h _ (List.mem_of_getElem? ha)
    have hhead:aS T a.toNat=(m2:Int):=by rw[hab,Int.toNat_natCast];exact hm2
    have hn3:q2.n=m2:=by rw[hn2,hhead,Int.toNat_natCast]
    have hΦ2:Φ u' q2.n q2.s:=by rw[hn3,hs2];exact hΦ'
    have hop':∀k∈i::op,∃qk,L[k]? =some qk∧Da T tb p0 qk.n qk.s q2.n q2.s:=fun z hz=>by
     have ha':a∈(bL T tb p0 q.n q.s).ax:=by rw[hOO];exact List.mem_of_getElem? ha
     rw[hn3,hs2,←hOO]
     rcases List.mem_cons.1 hz with rfl|hz
     ·exact⟨q,hq,.one ha' hhead⟩
     ·obtain⟨qk,e1,e2⟩:=hop z hz
      exact⟨qk,e1,.more e2 ha' hhead⟩
    have hjm:=(List.getElem?_eq_some_iff.1 hq2).1
    refine ai<|aj<|au<|ab (.a 3 I<|.v (aR (i:=0) (k:=4) (p:=.own (j+1)) I (ba.tk.get I) I I I) I<|.a 1 I<|.v (b9 (i:=(i:Int)) I (ba.el.get I) I (cP hj) I (by omega) (by omega) I) I<|.a 1 I<|.v (aR I (ba.tk.get I) I (cP hj) (eA (v:=av js) 8 hqi (by omega) (by rw[←hqx];rfl))) I<|.a 1 I<|.v (aN (k) I) I<|.v (aJ I ((aB js k hlt).trans (show some (num (js.getD k 0))=some (num (jm:Int)) by rw[List.getD_eq_getElem?_getD,g1];rfl))) I<|.a 1 I<|.k [0,1,5,6] I) ?_
    refine aj<|aO<|aw 2 I<|cN I I (bU.mono (ih u' hu' jm q2 hq2 hΦ2 (i::op) M' hok' hop') (fun y σ' h=>?_))
    obtain⟨M3,t3,rfl,rfl,hok3,hfr3,hM3,hcn3⟩:=h
    refine aw 1 I<|aE [0,1,5,6,76] I ?_
    refine ag I (fun hc=>?_) (fun hc=>?_)
    ·cases hc
    ·have hqi3:M3[i]? =some (q.mark 1 (eK O.ax cs)):=(hfr3 i List.mem_cons_self).trans hqi
     have hMl3:=hok3.1
     have hne:O.ax≠[]:=fun h=>by rw[h]at ha;simp at ha
     have hcb:0≤eK O.ax cs∧eK O.ax cs≤1001:=by
      unfold eK
      rw[if_neg hne]
      refine hJ cs 0 (by omega) (by omega) fun z hz=>?_
      obtain⟨y,hy⟩:=List.getElem?_of_mem hz
      have hyl:=(List.getElem?_eq_some_iff.1 hy).1
      have:=(hcn y (by omega)).bound.1
      rwa [List.getD_eq_getElem?_getD,hy]at this
     have hbs:min 1001 (eK O.ax cs+t3)=eK O.ax (cs++[t3]):=by unfold eK;rw[if_neg hne,if_neg hne,lX];omega
     have hct3:=hcn3.bound
     refine ai<|dL 25 20 mixed (
      .val [0] I (aZ I) I I<|
      .val [77] I (aZ I) I I<|
      .val [78] I (aZ I) I I<|
      .val [79] I (aR (i:=0) (k:=4) (p:=.own (j+1)) I (ba.tk.get I) I I I) I I<|
      .val [1] I (aZ I) I I<|
      .val [0] I (aZ I) I I<|
      .val [82] I (aZ I) I I<|
      .val [83] I (aZ I) I I<|
      .val [84] I (aR (i:=0) (k:=4) (p:=.own (j+1)) I (ba.tk.get I) I I I) I I<|
      .val [1] I (aZ I) I I<|
      .val [85,86] I (b9 (i:=(i:Int)) I (ba.el.get I) I (cP hj) I (by omega) (by omega) I) I I<|
      .val [87] I (aZ I) I I<|
      .val [88] I (aR I (ba.tk.get I) I (cP hj) (eA (v:=num (eK O.ax cs)) 11 hqi3 (by omega) I)) I I<|
      .val [0] I (aZ I) I I<|
      .val [90] I (aZ I) I I<|
      .val [91] I (aZ I) I I<|
      .val [92] I (aR (i:=0) (k:=4) (p:=.own (j+1)) I (ba.tk.get I) I I I) I I<|
      .val [6] I (aZ I) I I<|
      .val [93,94] I (b9 (i:=(jm:Int)) I (ba.el.get I) I (cP hj) I (by omega) (by omega) I) I I<|
      .val [95] I (aZ I) I I<|
      .val [96] I (aR I (ba.tk.get I) I (cP hj) (eA (v:=num t3) 11 hM3 (by omega) I)) I I<|
      .val [89,97] I (aU I) I I<|
      .val [98] I (td I I I (hbs)) I I<|
      .val [80,81] I (b9 (i:=(i:Int)) I (ba.el.get I) I (cP hj) I (by omega) (by omega) I) I I<|
      .val [100] I (aZ I) I I<|
      .nil) (by kernel_rfl) I I (aY (ks:=[0,1,5,99,101]) I) ?_
     refine bc (cq.to (σ:=GV T p0 tbs j rest M3) (cd I (ba.tk.get I) I I (cP hj) (pz 11 hqi3 (by omega))) (σ'':=GV T p0 tbs j rest (M3.set i (q.mark 1 (eK O.ax (cs++[t3]))))) I (pg 11 hqi3 (by omega) I)) I I<|aE [0,1,5] I ?_
     refine aC (.a 1 I<|.v (aU I) I<|.a 1 I<|.k [0,1,5] I) ?_
     refine⟨js.length - (k+1),by omega,k+1,_,cs++[t3],by omega,rfl,aW hqi3,by simp[hlc],?_,fun z hz=>?_,fun z hz=>?_,rfl⟩
     ·have:=hok3.open_ hq (eK O.ax (cs++[t3]))
      refine⟨this.1,fun z x hx=>?_⟩
      obtain⟨c,t,e1,e2⟩:=this.2 z x hx
      refine⟨c,t,e1,?_⟩
      rcases e2 with e2|⟨e2,e3⟩|e2
      ·exact .inl e2
      ·refine .inr (.inl ⟨e2,?_⟩)
       rcases List.mem_cons.1 e3 with e3|e3
       ·rw[e3];exact List.mem_cons_self
       ·exact e3
      ·exact .inr (.inr e2)
     ·rw[List.getElem?_set,if_neg (fun e=>hni (by rw[e];exact hz)),hfr3 z (List.mem_cons_of_mem _ hz)]
      exact hfr z hz
     ·by_cases hzk:z<k
      ·have e1:(cs++[t3]).getD z 0=cs.getD z 0:=by rw[List.getD_eq_getElem?_getD,List.getD_eq_getElem?_getD,List.getElem?_append_left (by omega)]
       rw[e1]
       exact hcn z hzk
      ·obtain rfl:z=k:=by omega
       have e1:(cs++[t3]).getD z 0=t3:=by rw[List.getD_eq_getElem?_getD,cU hlc];rfl
       rw[e1,had,←hn2,←hs2]
       exact hcn3
   ·have hke:k=js.length:=by have:=ff hc;omega
    refine bd<|aO<|aw 3 I ?_
    refine bw (aR (i:=0) (k:=4) (p:=.own (j+1)) I (ba.tk.get I) I I I) I ?_
    refine aw 1 I ?_
    refine bw (b9 (i:=(i:Int)) I (ba.el.get I) I (cP hj) I (by omega) (by omega) I) I ?_
    refine aw 1 I ?_
    refine bc (cq.to (σ:=GV T p0 tbs j rest M') (cd I (ba.tk.get I) I I (cP hj) (pz 10 hqi (by omega))) (σ'':=GV T p0 tbs j rest (M'.set i (q.mark 2 (eK O.ax cs)))) I (pg 10 hqi (by omega) I)) I I ?_
    refine aE [] I ?_
    refine ab (.a 1 I<|.k [4] I)<|ao ?_
    have hcc:Cn T tb p0 q.n q.s (eK O.ax cs):=by
     have:=Cn.mk (T:=T) (tb:=tb) (p0:=p0) (n:=q.n) (s:=q.s) (cs:=cs) (by rw[hOO];omega) (fun z hz=>by rw[hOO]at hz ⊢;exact hcn z (by omega))
     rwa [hOO]at this
    exact⟨_,az.of I,_,_,rfl,rfl,hok'.shut hq hcc,fun z hz=>by rw[List.getElem?_set,if_neg (fun e=>hni (by rw[e];exact hz))];exact hfr z hz,aW hqi,hcc⟩
end
end
section
open Go.RowKit cG Mem
section
variable {P:Program} {N L:Nat}
theorem Fm{id:Nat}{l:List Oper}{t t':cn}{σ σm:cg}{Q:Exit→St→Prop}(k f m:Nat)(σs:List cg)(gs:List GD)(T:cn)(hm:P.follows .mixedOrders=true)(hB:FU (l.take k).toArray f m gs=true)(hbar:xe l.toArray f k=true)(hT:nk (l.take k) (gs.map (·.p)) t=T)(hfr:((l.take k).all fun o=>o.dst.all fun d=>(look d t).isNone)=true)(h0:σs[0]? =some σ)(h1:σs[m]? =some σm)(hml:Nat.ble k l.length=true)
    (hL:GL P N (l.take k).toArray σs T (l.take k) gs) (hsub:Sub T t') (hw:WR P N L l.toArray (l.drop k) ⟨t',σm⟩ (fun s=>Q .normal s)):W P N L (.region id l.toArray true) ⟨t,σ⟩ Q:=fun F base E₀ w₀ E a w hc hs=>by
  obtain⟨arr,ds⟩:=a
  have hds:ds=[]:=hs.j9
  have hG:=xL hB
  have hmle:k≤l.length:=Nat.ble_eq.mp hml
  have hlt:(l.take k).length=k:=by simp;omega
  have hE:Ext w {w with drawn:=w.drawn+1}:=⟨rfl,rfl,rfl,Nat.le_refl _,fun _ _=>rfl⟩
  refine wp_region_any hm ?_
  have hfr':∀i d,i<(l.take k).length→cw (l.take k).toArray i=some d→look d t=none:=fun i d hi hd=>by
    have ho:(l.take k)[i]? =some (l.take k)[i]:=List.getElem?_eq_getElem hi
    simp only[cw,List.getElem?_toArray,ho,Option.bind_some]at hd
    have:=List.all_eq_true.1 hfr _ (List.mem_of_getElem? ho)
    rw[hd]at this
    simpa using this
  have hg0:F6 base N F (l.take k) gs σs t (Array.replicate (l.take k).length false) 0 E ⟨arr,ds⟩ {w with drawn:=w.drawn+1}:=by
    have hrep:∀i,i<(l.take k).length→(Array.replicate (l.take k).length false).getD i true=false:=fun i hi=>by
      rw[Array.getD_eq_getD_getElem?,Array.getElem?_replicate,if_pos hi];rfl
    refine⟨by simp,fun i hi hi'=>?_,fun i s hi _=>?_,⟨σ,h0,hs.sat.ext hE⟩,hs.j9,hs.size,hs.tmp.goes (.ext hE),fun j d g hj hjl=>?_⟩
    · rw[hrep i (by simpa using hi')]at hi;cases hi
    · rw[hrep i hi];simp
    · rw[hrep j hj]at hjl;cases hjl
  have hfr:=A4 (Q:=sa P l.toArray (fun e a' w'=>nh F base N E₀ w₀ (Q e) a' w') k (l.toArray.size - k)) hG hT hfr' hL h1 (E₀:=E₀) (w₀:=w₀) (fun a' w' E' k1 k2 k3 k4 k5 k6=>by
    have:=hw F base E₀ w₀ E' a' w' ⟨hc.1,k5,k6⟩ ⟨k1,k2.sub hsub,k3,k4⟩ (fun e a' w'=>nh F base N E₀ w₀ (Q e) a' w') k (fun a' w' hp=>hp) (fun j=>by simp)
    simpa[sa]using this) (l.take k).length _ 0 E ⟨arr,ds⟩ _ hg0 (la _ _ (Nat.le_refl _)) (hc.g.trans (.ext hE)) (hc.b.trans (Below.iy hE hs.sat.bl)) (Nat.zero_le _)
  have he:l.toArray.extract 0 k=(l.take k).toArray:=by simp
  have := pP (P := P) hbar (by simpa using hmle) (Q := fun e a' w' => nh F base N E₀ w₀ (Q e) a' w') k (Array.replicate k false) (Array.replicate l.toArray.size false) ⟨arr, ds⟩ { w with drawn := w.drawn + 1 } (by simp) (by simp) (fun i hi => by rw [dV _ _ hi, dV _ _ (by simp; omega)]) (fun i _ hi => dV _ _ hi _) (fun i hi hi' => by
      have:(Array.replicate l.toArray.size false).getD i true=false:=dV _ _ hi' _
      rw[this]at hi;cases hi) (by
      have:∀k,k≤l.length→bO (Array.replicate l.toArray.size false) k=k:=by
        intro k
        induction k with
        |zero=>intro _;rfl
        |succ k ih=>
          intro hk
          simp only[bO]
          rw[ih (by omega)]
          have:(Array.replicate l.toArray.size false).getD k true=false:=dV _ _ (by simp;omega) _
          rw[this];simp
      exact this k hmle) (by rw[he];rw[hlt]at hfr;exact hfr)
  rw[show k+(l.toArray.size - k)=l.toArray.size by simp;omega]at this
  exact this
end
open Net eY
theorem cq.KE{P:Program}{σ σ':cg}{t:cn}{o:Oper}{k e s n:Nat}{xs:List PV}(h:cq P σ t o (.own k) σ')(hk:σ'[k]? =some (some (.row e s n xs))):cq P σ t o (.slice n xs) (σ'.set k none):=by
 intro F base E ρ w h1 h2 h3
 obtain⟨v,w',E',hr,a1,a2,a3,a4⟩:=h F base E ρ w h1 h2 h3
 obtain⟨g1,g2⟩:=a1.kill k hk
 exact⟨v,w',E'.kill k,hr,g1,a2.trans g2,a3,a1.seal hk a4⟩
theorem zy:∀(cs:List Int) (b:Int),b≤1001→(∀c∈cs,0≤c)→b≤cs.foldl (fun a c=>min (a+c) 1001) b
 | [],b,_,_=>Int.le_refl _
 |c::cs,b,h,h3=>by
  have:=h3 c (by simp)
  have h4:=zy cs (min (b+c) 1001) (show min (b+c) 1001≤1001 by omega) (fun x hx=>h3 x (by simp[hx]))
  exact Int.le_trans (show b≤min (b+c) 1001 by omega) h4
theorem Dd(cs:List Int):sQ cs≤1001:=by
 unfold sQ
 suffices h:∀(cs:List Int) (b:Int),b≤1001→cs.foldl (fun a c=>min (a+c) 1001) b≤1001 from h cs 0 (by omega)
 intro cs
 induction cs with
 |nil=>intro b hb;exact hb
 |cons c cs ih=>intro b _;exact ih (min (b+c) 1001) (show min (b+c) 1001≤1001 by omega)
theorem Aq(cs ds:List Int)(h:∀c∈ds,0≤c):sQ cs≤sQ (cs++ds):=by
 have:sQ (cs++ds)=ds.foldl (fun a c=>min (a+c) 1001) (sQ cs):=by unfold sQ;rw[List.foldl_append]
 rw[this]
 exact zy ds _ (Dd cs) h
theorem HY{α:Type}{cs:List Int}(h0:∀c∈cs,0≤c)(h:sQ cs≤1000){f:Nat→List α}(hf:∀k,k<cs.length→cs.getD k 0≤1000→((f k).length:Int)=cs.getD k 0):
  ∀k,k≤cs.length→(((List.range k).flatMap f).length:Int)=sQ (cs.take k)∧(k<cs.length→cs.getD k 0≤1000):=by
 intro k
 have key:∀k,k<cs.length→sQ (cs.take (k+1))=sQ (cs.take k)+cs.getD k 0∧cs.getD k 0≤1000:=fun k hk=>by
  have h1:cs.take (k+1)=cs.take k++[cs.getD k 0]:=by
   rw[List.take_add_one,List.getD_eq_getElem?_getD,List.getElem?_eq_getElem hk];rfl
  have h2:=lX (cs.take k) (cs.getD k 0)
  have h3:sQ (cs.take (k+1))≤sQ cs:=by
   have:=Aq (cs.take (k+1)) (cs.drop (k+1)) (fun c hc=>h0 c (List.mem_of_mem_drop hc))
   rwa [List.take_append_drop]at this
  have h4:0≤sQ (cs.take k):=by
   have:=Aq [] (cs.take k) (fun c hc=>h0 c (List.mem_of_mem_take hc))
   simpa[sQ]using this
  rw[h1,h2]
  rw[h1,h2]at h3
  constructor<;>omega
 induction k with
 |zero=>intro _;exact⟨rfl,fun hk=>(key 0 hk).2⟩
 |succ k ih=>
  intro hk
  obtain⟨h1,h2⟩:=ih (by omega)
  refine⟨?_,fun hk'=>(key _ hk').2⟩
  rw[List.range_succ,List.flatMap_append,List.length_append,(key k (by omega)).1,←h1,←hf k (by omega) (h2 (by omega))]
  simp
theorem Eo{α:Type}[Inhabited α]{P:Nat→α→Prop}{n:Nat}(h:∀k,k<n→∃a,P k a):∃f:Nat→α,∀k,k<n→P k (f k):=
 ⟨fun k=>if h':k<n then Classical.choose (h k h') else default,fun k hk=>by show P k (if h':k<n then Classical.choose (h k h') else default);rw[dif_pos hk];exact Classical.choose_spec (h k hk)⟩
structure Rz where
 n:Int
 cS:Int
 path:List Int
def uX(z:Rz):List PV:=[num z.n,num z.cS,av z.path]
def lC(l:List Rz):List PV:=l.flatMap uX
def mo(l:List Rz):PV:=.slice l.length (lC l)
instance (z:Rz):aL (uX z):=by unfold uX;infer_instance
instance (z:Rz):dD (uX z):=by unfold uX;infer_instance
instance (l:List Rz):aL (lC l):=aL.flatMap _ _ fun _=>inferInstance
instance (l:List Rz):dD (lC l):=dD.flatMap _ _ fun _=>inferInstance
instance (l:List Rz):IsPure (mo l):=by unfold mo;infer_instance
theorem CN(l:List Rz):(lC l).length=l.length*3:=rA uX 3 (fun _=>rfl) l
section
variable {T:ak} {tb:Nat→de} {p0:dx} {Φ:Nat→Nat→List bV→Prop}
def JP(T:ak)(tbs:List de)(p0:dx)(M:List Sq):PV:=.bb (bC T++[eE tbs,.slice M.length (gL p0 M)]) 0
def Ex(T:ak)(tb:Nat→de)(p0:dx)(M:List Sq):Prop:=∀(k:Nat) q,M[k]? =some q→∃js c t,q=⟨q.n,q.s,av (bL T tb p0 q.n q.s).ax,av js,(bL T tb p0 q.n q.s).cS,c,t⟩∧js.length=(bL T tb p0 q.n q.s).ax.length∧
 ∀(m:Nat) a,(bL T tb p0 q.n q.s).ax[m]? =some a→∃jm:Nat,js[m]? =some (jm:Int)∧At M jm (aS T a.toNat).toNat (bL T tb p0 q.n q.s).eo.stack
theorem rT:∀ {M:List Sq},(∀q∈M,aL (kF p0 q))→aL (gL p0 M)
 | [],_=>by unfold gL;exact⟨fun i x h=>by simp at h⟩
 |q::M,h=>by
  haveI:=h q (by simp)
  haveI:=rT (M:=M) (fun q hq=>h q (by simp[hq]))
  show aL (kF p0 q++gL p0 M)
  infer_instance
theorem Ex.pure{tbs:List de}{M:List Sq}(h:Ex T tb p0 M):IsPure (JP T tbs p0 M):=by
 haveI:aL (gL p0 M):=rT fun q hq=>by
  obtain⟨k,hk⟩:=List.getElem?_of_mem hq
  obtain⟨js,c,t,h1,_⟩:=h k q hk
  rw[h1]
  unfold kF
  infer_instance
 unfold JP
 infer_instance
set_option maxHeartbeats 4000000 in
theorem CG(R:iK T tb p0 Φ)(tbs:List de)(M:List Sq)(hM:Ex T tb p0 M)(hMl:M.length≤100000){n:Nat}{s:List bV}{c:Int}(hc:Cn T tb p0 n s c):
  c≤1000→∀(u:Nat),Φ u n s→∀(i:Nat) (path:List Int),At M i n s→path.length+u≤100000→
   ∃rs:List Rz,Can Tryz.prog 93 [JP T tbs p0 M,num i,av path] (· =mo rs)∧(rs.length:Int)=c∧∀z∈rs,∃(p:List Int) (e:Nat),z.path=path++p∧z.n=e∧Br T tb p0 n s p e z.cS:=by
 induction hc with
 | @mk n s cs hcl hch ih=>
 intro hc1 u hΦ i path hat hpl
 obtain⟨q,hq,rfl,rfl⟩:=hat
 obtain⟨js,c,t,hqe,hjl,hjs⟩:=hM i q hq
 have hbr:=R.step hΦ
 obtain⟨O,hOO⟩:∃O,bL T tb p0 q.n q.s=O:=⟨_,rfl⟩
 rw[hOO]at hqe hjl hjs hbr hcl hch ih hc1 ⊢
 have hil:=(List.getElem?_eq_some_iff.1 hq).1
 have hal:O.ax.length≤1000:=by
  rcases hbr with h|⟨h,_⟩
  ·rw[h];simp
  ·exact h
 haveI:=hM.pure (tbs:=tbs)
 obtain⟨f,hf⟩:=Eo (P:=fun k l=>cs.getD k 0≤1000→Can Tryz.prog 93 [JP T tbs p0 M,num (js.getD k 0),av (path++[O.ax.getD k 0])] (· =mo l)∧((l.length:Int)=cs.getD k 0)∧
   ∀z∈l,∃(p:List Int) (e:Nat),z.path=(path++[O.ax.getD k 0])++p∧z.n=e∧Br T tb p0 (aS T (O.ax.getD k 0).toNat).toNat O.eo.stack p e z.cS) (n:=O.ax.length) (fun k hk=>by
  by_cases hck:cs.getD k 0≤1000
  ·obtain⟨jm,g1,g2⟩:=hjs k _ (List.getElem?_eq_getElem hk)
   have had:O.ax[k]=O.ax.getD k 0:=by rw[List.getD_eq_getElem?_getD,List.getElem?_eq_getElem hk];rfl
   rw[had]at g2
   obtain⟨b,m2,hab,hb,hm2,u',hu',hΦ'⟩:∃b m2:Nat,O.ax.getD k 0=(b:Int)∧b<2*T.ae.length∧aS T b=(m2:Int)∧∃u',u'<u∧Φ u' m2 O.eo.stack:=by
    rcases hbr with h|⟨_,_,h⟩
    ·rw[h]at hk;simp at hk
    ·exact h _ (by rw[←had];exact List.getElem_mem hk)
   have hhead:(aS T (O.ax.getD k 0).toNat).toNat=m2:=by rw[hab,Int.toNat_natCast,hm2,Int.toNat_natCast]
   rw[hhead]at g2
   have:=ih k hk hck u' (by rw[hhead];exact hΦ') jm (path++[O.ax.getD k 0]) (by rw[hhead];exact g2) (by simp;omega)
   obtain⟨rs,r1,r2,r3⟩:=this
   have hjk:js.getD k 0=(jm:Int):=by rw[List.getD_eq_getElem?_getD,g1];rfl
   refine⟨rs,fun _=>⟨by rw[hjk];exact r1,r2,r3⟩⟩
  ·exact⟨[],fun h=>absurd h hck⟩)
 have h0:∀c∈cs,0≤c:=fun c hc=>by
  obtain⟨k,hk⟩:=List.getElem?_of_mem hc
  have hlt:=(List.getElem?_eq_some_iff.1 hk).1
  have:=(hch k (by omega)).bound.1
  rwa [List.getD_eq_getElem?_getD,hk]at this
 have hsum:O.ax≠[]→∀k,k≤cs.length→(((List.range k).flatMap f).length:Int)=sQ (cs.take k)∧(k<cs.length→cs.getD k 0≤1000):=fun hne=>
  HY h0 (by unfold eK at hc1;rw[if_neg hne]at hc1;exact hc1) (fun k hk h=>(hf k (by omega) h).2.1)
 obtain⟨rs,hrs1,hrs2⟩:∃rs:List Rz,(O.ax=[]→rs=[⟨q.n,O.cS,path⟩])∧(O.ax≠[]→rs=(List.range O.ax.length).flatMap f):=by
  by_cases harc:O.ax=[]
  ·exact⟨_,fun _=>rfl,fun h=>absurd harc h⟩
  ·exact⟨_,fun h=>absurd h harc,fun _=>rfl⟩
 refine⟨rs,?_,?_,?_⟩
 ·have hqx:(kF p0 q)[8]? =some (av js):=by rw[hqe];rfl
  have hqa:(kF p0 q)[7]? =some (av O.ax):=by rw[hqe];rfl
  have hqw:(kF p0 q)[9]? =some (num O.cS):=by rw[hqe];rfl
  haveI:aL (kF p0 q):=by rw[hqe];unfold kF;infer_instance
  haveI:dD (kF p0 q):=by rw[hqe];unfold kF;infer_instance
  refine aH Tryz.func93 I Tryz.ntmps93 I<|ab (.a 1 I<|.k [0,1,2] I)<|aO<|aw 3 I ?_
  refine bw (aJ I ((rfl:(bC T++[eE tbs,.slice M.length (gL p0 M)])[4]? =some (.slice M.length (gL p0 M))))) I ?_
  refine aw 1 I ?_
  refine bw (aN ((i*12)) I) I ?_
  refine bw (eU I (wa hq) I) I ?_
  refine b7 (nd I (ba.zk.get I)) I ?_
  refine bc (cq.to (mQ (i:=0) (off:=0) (ys:=kF p0 q) I (ba.tk.get I) I I I I I (Nat.le_of_ble_eq_true rfl)) (σ'':=[some (.cells 119 (kF p0 q))]) I I) I I ?_
  refine aE [0,2,7] I ?_
  refine oo 0 (σ':=[none]) I ⟨rfl,rfl,fun m hm=>?_⟩ (.cons 0 I (.same _)<|.cons 2 I (.same _)<|.cons 7 I (.ptr 0) .nil) ?_
  ·match m,hm with
   |m+1,_=>exact .inl rfl
  refine aj<|ab (.a 1 I<|.v (aJ I (hqx)) I<|.a 2 I<|.k [0,2,7,20] I)<|ag I (fun hc=>?_) (fun hc=>?_)
  ·have harc:O.ax=[]:=List.eq_nil_of_length_eq_zero (by have:=tt hc;omega)
   rw[hrs1 harc]
   refine vk 20 3 ([none]::[none,some (.row 3 1 0 [])]::[none,none,some (.row 3 1 (0+path.length) ([]++aK path))]::[none,none,some (.row 3 1 (0+path.length) ([]++aK path)),some (.row 70 3 1 [num q.n,num O.cS,.own 2])]::[]) (⟨_,none,0,2⟩::⟨num q.n,none,0,2⟩::⟨_,none,0,2⟩::⟨num O.cS,none,0,2⟩::⟨.own 1,some 0,0,0⟩::⟨_,none,0,1⟩::⟨.own 2,some 1,0,0⟩::⟨.agg [num q.n,num O.cS,.own 2],none,2,2⟩::⟨.own 3,some 2,0,0⟩::⟨_,none,3,3⟩::[]) _ mixed ?grd1 rfl rfl rfl rfl (.cons (.val [7] I I (yz (bZ (aZ I) (bZ (aZ I) (bZ (aZ I) df)))) I I)<|.cons (.val [21] I I (yz (bZ (aJ I ((rfl:(kF p0 q)[0]? =some (num q.n)))) (bZ (aJ I ((rfl:(kF p0 q)[0]? =some (num q.n)))) (bZ (aJ I ((rfl:(kF p0 q)[0]? =some (num q.n)))) df)))) I I)<|.cons (.val [7] I I (yz (bZ (aZ I) (bZ (aZ I) (bZ (aZ I) df)))) I I)<|.cons (.val [23] I I (yz (bZ (aJ I (hqw)) (bZ (aJ I (hqw)) (bZ (aJ I (hqw)) df)))) I I)<|.cons (.py [] I I I I (cJ I (ba.sl.get I)) I I)<|.cons (.val [2] I I (yz (bZ (aZ I) (bZ (aZ I) df))) I I)<|.cons (.py [25,26] I I I I (bh (σ:=[none,some (.row 3 1 0 [])]) (i:=1) (n:=0) (xs:=[]) (m:=path.length) (ys:=aK path) I (ba.rk.get I) I I I (show(aK path).length=path.length*1 by simp[aK]) ⟨by unfold maxLen;omega,by omega⟩) I I)<|.cons (.val [22,24,27] I I (yz (bZ (aZ I) df)) I I)<|.cons (.py [28] I I I I (gO (σ:=[none,none,some (.row 3 1 (0+path.length) ([]++aK path))]) (ps:=[(0,[num q.n,num O.cS,.own 2])]) (xs:=[num q.n,num O.cS,.own 2]) I (ba.sl.get I) ⟨Nat.le_of_ble_eq_true rfl,Nat.le_of_ble_eq_true rfl⟩ rfl rfl) I I)<|.cons (.val [29] I I (yz (bZ (aZ I) df)) I I) .nil) (aY (ks:=[6]) I) ?_
   case grd1=>kernel_rfl
   exact ao<|⟨_,_,az.of I,ay.fy rfl (ah.cons ay.pure<|ah.cons ay.pure<|ah.cons (ay.qn (ys:=aK path) (m:=path.length) I (by simp) (by simp)) ah.nil),rfl⟩
  ·have harc:O.ax≠[]:=fun h=>by have:=ff hc;rw[h]at hjl;simp at hjl;subst hjl;simp at this
   rw[hrs2 harc]
   replace hsum:=hsum harc
   refine ai<|ab (.a 1 I<|.k [0,2,7,8] I)<|gH 8 70 3 I ?_
   refine aj<|ab (.a 1 I<|.k [0,2,7,8,9] I)<|au<|eH [0,2,7,8,9] I<|bq (fun r st=>∃(k b:Nat) (σ:cg),k≤O.ax.length∧r=O.ax.length - k∧σ[b]? =some (some (.row 70 3 ((List.range k).flatMap f).length (lC ((List.range k).flatMap f))))∧st=⟨[(0,JP T tbs p0 M),(2,av path),(7,.bb (kF p0 q) 0),(8,.own b),(9,num k)],σ⟩) O.ax.length ⟨0,1,_,by omega,by omega,rfl,rfl⟩ ?_
   rintro r st ⟨k,b,σ,hk,rfl,hσ,rfl⟩
   refine aj<|ab (.a 2 I<|.v (aJ I (hqx)) I<|.a 2 I<|.k [0,2,7,8,9,34] I)<|ag I (fun hc=>?_) (fun hc=>?_)
   ·have hlt:k<O.ax.length:=by have:=tt hc;omega
    obtain⟨hs1,hs2⟩:=hsum k (by omega)
    obtain⟨hf1,hf2,_⟩:=hf k hlt (hs2 (by omega))
    have hct:=hs2 (by omega)
    have hle:=Dd (cs.take k)
    obtain⟨a,ha⟩:∃a,O.ax.getD k 0=a:=⟨_,rfl⟩
    obtain⟨jv,hjv⟩:∃a,js.getD k 0=a:=⟨_,rfl⟩
    rw[ha,hjv]at hf1
    obtain⟨g,hg⟩:∃a,f k=a:=⟨_,rfl⟩
    rw[hg]at hf1 hf2
    have hrk:(List.range (k+1)).flatMap f=(List.range k).flatMap f++g:=by rw[List.range_succ,List.flatMap_append];simp[hg]
    obtain⟨G,hG⟩:∃G,(List.range k).flatMap f=G:=⟨_,rfl⟩
    rw[hG]at hs1 hσ hrk
    have hbl:=(List.getElem?_eq_some_iff.1 hσ).1
    refine ai<|aj<|au<|Fm 19 20 4 (σ::(σ++[some (.row 3 1 0 [])])::(σ++[none,some (.row 3 1 path.length (aK path))])::(σ++[none,none,none])::((σ++[none,none,none]).set b none++[some (.row 70 3 (G++g).length (lC (G++g)))])::[]) (⟨_,none,0,3⟩::⟨_,none,0,3⟩::⟨_,none,0,3⟩::⟨_,none,0,3⟩::⟨_,none,0,3⟩::⟨_,none,0,3⟩::⟨num jv,none,0,3⟩::⟨.own σ.length,some 0,0,0⟩::⟨_,none,0,1⟩::⟨.own (σ.length+1),some 1,0,0⟩::⟨_,none,0,2⟩::⟨_,none,0,2⟩::⟨_,none,0,2⟩::⟨_,none,0,2⟩::⟨num a,none,0,2⟩::⟨.slice 1 [num a],none,0,2⟩::⟨av (path++[a]),some 2,0,0⟩::⟨mo g,none,3,3⟩::⟨.own (σ.length+3),some 3,0,0⟩::[]) _ mixed ?grd2 (by kernel_rfl) I I I I I (.cons (.val [8] I I (yz (bZ (aZ I) (bZ (aZ I) (bZ (aZ I) (bZ (aZ I) df))))) I I)<|.cons (.val [0] I I (yz (bZ (aZ I) (bZ (aZ I) (bZ (aZ I) (bZ (aZ I) df))))) I I)<|.cons (.val [7] I I (yz (bZ (aZ I) (bZ (aZ I) (bZ (aZ I) (bZ (aZ I) df))))) I I)<|.cons (.val [39] I I (yz (bZ (aJ I (hqx)) (bZ (aJ I (hqx)) (bZ (aJ I (hqx)) (bZ (aJ I (hqx)) df))))) I I)<|.cons (.val [9] I I (yz (bZ (aZ I) (bZ (aZ I) (bZ (aZ I) (bZ (aZ I) df))))) I I)<|.cons (.val [40,41] I I (yz (bZ (aN (k) I) (bZ (aN (k) I) (bZ (aN (k) I) (bZ (aN (k) I) df))))) I I)<|.cons (.val [42] I I (yz (bZ (aJ I ((aB js k (by omega)).trans (by rw[hjv]))) (bZ (aJ I ((aB js k (by omega)).trans (by rw[hjv]))) (bZ (aJ I ((aB js k (by omega)).trans (by rw[hjv]))) (bZ (aJ I ((aB js k (by omega)).trans (by rw[hjv]))) df))))) I I)<|.cons (.py [] I I I I (cq.to (cJ (σ:=σ) I (ba.sl.get I)) I I) I I)<|.cons (.val [2] I I (yz (bZ (aZ I) (bZ (aZ I) df))) I I)<|.cons (.py [44,45] I I I I (cq.to (bh (σ:=σ++[some (.row 3 1 0 [])]) (i:=σ.length) (n:=0) (xs:=[]) (m:=path.length) (ys:=aK path) I (ba.rk.get I) I (cU rfl) I (show(aK path).length=path.length*1 by simp[aK]) ⟨by unfold maxLen;omega,by omega⟩) (p':=.own (σ.length+1)) (σ'':=σ++[none,some (.row 3 1 path.length (aK path))]) (by simp) (by simp)) I I)<|.cons (.val [7] I I (yz (bZ (aZ I) (bZ (aZ I) (bZ (aZ I) df)))) I I)<|.cons (.val [47] I I (yz (bZ (aJ I (hqa)) (bZ (aJ I (hqa)) (bZ (aJ I (hqa)) df)))) I I)<|.cons (.val [9] I I (yz (bZ (aZ I) (bZ (aZ I) (bZ (aZ I) df)))) I I)<|.cons (.val [48,49] I I (yz (bZ (aN (k) I) (bZ (aN (k) I) (bZ (aN (k) I) df)))) I I)<|.cons (.val [50] I I (yz (bZ (aJ I ((aB O.ax k hlt).trans (by rw[ha]))) (bZ (aJ I ((aB O.ax k hlt).trans (by rw[ha]))) (bZ (aJ I ((aB O.ax k hlt).trans (by rw[ha]))) df)))) I I)<|.cons (.val [51] I I (yz (bZ (aZ I) (bZ (aZ I) (bZ (aZ I) df)))) I I)<|.cons (.py [46,52] I I I I (cq.to (cq.KE (cq.to (bh (σ:=σ++[none,some (.row 3 1 path.length (aK path))]) (i:=σ.length+1) (n:=path.length) (xs:=aK path) (m:=1) (ys:=[num a]) I (ba.rk.get I) I (by simp) I I ⟨by unfold maxLen;omega,by omega⟩) (p':=.own (σ.length+2)) (σ'':=σ++[none,none,some (.row 3 1 (path++[a]).length (aK (path++[a])))]) (by simp) (by simp[aK])) (show(σ++[none,none,some (cK.row 3 1 (path++[a]).length (aK (path++[a])))])[σ.length+2]? =some (some (cK.row 3 1 (path++[a]).length (aK (path++[a])))) by simp)) (p':=av (path++[a])) (σ'':=σ++[none,none,none]) I (by simp)) I I)<|.cons (.val [38,43,53] I I (yz (bZ (dU I (hf1)) df)) I I)<|.cons (.py [37,54] I I I I (cq.to (bh (σ:=σ++[none,none,none]) (i:=b) (n:=G.length) (xs:=lC G) (m:=g.length) (ys:=lC g) I (ba.rk.get I) I ((List.getElem?_append_left hbl).trans hσ) I (CN g) ⟨by unfold maxLen;omega,by omega⟩) (p':=.own (σ.length+3)) (σ'':=(σ++[none,none,none]).set b none++[some (.row 70 3 (G++g).length (lC (G++g)))]) (by simp) (by simp[lC])) I I) .nil) (aY (ks:=[0,2,7,9,55]) I) ?_
    case grd2=>kernel_rfl
    refine aw 1 I<|aE [0,2,7,8,9] I ?_
    refine aC (.a 1 I<|.v (aU I) I<|.a 1 I<|.k [0,2,7,8,9] I) ?_
    exact⟨O.ax.length - (k+1),by omega,k+1,σ.length+3,_,by omega,rfl,by rw[hrk];exact cU (by simp),rfl⟩
   ·have hke:k=O.ax.length:=by have:=ff hc;omega
    subst hke
    exact bd<|ab (.a 2 I<|.k [6] I)<|ao<|⟨_,_,az.of I,ay.qn hσ rfl rfl,rfl⟩
 ·by_cases harc:O.ax=[]
  ·rw[hrs1 harc];unfold eK;rw[if_pos harc];rfl
  ·rw[hrs2 harc,←hcl,(hsum harc cs.length (Nat.le_refl _)).1,List.take_length];unfold eK;rw[if_neg harc]
 ·intro z hz
  by_cases harc:O.ax=[]
  ·rw[hrs1 harc,List.mem_singleton]at hz
   subst hz
   refine⟨[],q.n,by simp,rfl,?_⟩
   have:=Br.stop (T:=T) (tb:=tb) (p0:=p0) (n:=q.n) (s:=q.s) (by show(bL T tb p0 q.n q.s).ax=[];rw[hOO];exact harc)
   rw[show(dj T (tb q.n) (cV p0 q.s))=O from hOO]at this
   exact this
  ·rw[hrs2 harc,List.mem_flatMap]at hz
   obtain⟨k,hk,hz⟩:=hz
   have hk:=List.mem_range.1 hk
   obtain⟨p,e,e1,e2,e3⟩:=(hf k hk ((hsum harc k (by omega)).2 (by omega))).2.2 z hz
   have hmem:O.ax.getD k 0∈O.ax:=by rw[List.getD_eq_getElem?_getD,List.getElem?_eq_getElem hk];exact List.getElem_mem hk
   have hh:aS T (O.ax.getD k 0).toNat=((aS T (O.ax.getD k 0).toNat).toNat:Int):=by
    rcases hbr with h|⟨_,_,h⟩
    ·exact absurd h harc
    ·obtain⟨b,m,h1,_,h2,_⟩:=h _ hmem
     rw[h1,Int.toNat_natCast,h2,Int.toNat_natCast]
   refine⟨O.ax.getD k 0::p,e,by rw[e1];simp,e2,?_⟩
   exact .go (T:=T) (tb:=tb) (p0:=p0) (by rw[show(dj T (tb q.n) (cV p0 q.s))=O from hOO];exact hmem) hh (by rw[show(dj T (tb q.n) (cV p0 q.s))=O from hOO];exact e3)
end
theorem sN(T:ak)(L:List de)(hv:aq T=true)(hL:(L.length:Int)=T.nodes)(hok:∀(i:Nat) x,L[i]? =some x→x.node=(i:Int)∧cT T x=true):Can Tryz.prog 135 [aP T,eE L] (· =flag true):=by
 have hN:=fY hv
 obtain⟨q1,hq1⟩:∃q,aq T=q:=⟨_,rfl⟩
 obtain⟨q2,hq2⟩:∃q,decide ((L.length:Int)≠T.nodes)=q:=⟨_,rfl⟩
 refine aH Tryz.func135 I Tryz.ntmps135 I<|ab (.a 2 I<|.k [1,2] I)<|aj<|bz 15 (.raw (.bool (!q1 ||q2))) [1,2] I ?_ ?_
 ·refine .a 1 I<|.c rfl (hq1▸fe T) I<|.a 2 I<|?_
  cases q1
  ·exact .a 6 I<|.k [15,1,2] I
  ·exact .a 3 I<|.v (aJ I (rfl)) I<|.v (cf I (hq2)) I<|.a 1 I<|.k [15,1,2] I
 refine ag I (fun hc=>?_) (fun hc=>?_)
 ·rw[←hq1,hv,←hq2,decide_eq_false (by rw[hL];simp)]at hc
  cases hc
 ·refine ai<|aj<|ab (.a 1 I<|.k [1,2,5] I)<|au<|eH [1,2,5] I<|bq (fun r st=>∃i:Nat,i≤L.length∧r=L.length - i∧st=⟨[(1,eE L),(2,.bb (bC T) 0),(5,num i)],[]⟩) L.length ⟨0,by omega,by omega,rfl⟩ ?_
  rintro r st ⟨i,hi,rfl,rfl⟩
  refine aj<|ab (.a 4 I<|.k [1,2,5,19] I)<|ag I (fun hc=>?_) (fun hc=>?_)
  ·have hlt:i<L.length:=by have:=tt hc;omega
   obtain⟨x,hx⟩:∃x,L[i]? =some x:=⟨_,List.getElem?_eq_getElem hlt⟩
   obtain⟨h1,h2⟩:=hok i x hx
   obtain⟨q3,hq3⟩:∃q,decide (x.node≠(i:Int))=q:=⟨_,rfl⟩
   obtain⟨q4,hq4⟩:∃q,cT T x=q:=⟨_,rfl⟩
   refine ai<|aj<|au<|iJ mixed (by kernel_rfl) 37 (.raw (.bool (q3|| !q4))) [1,2,5] I ?_ ?_
   ·refine .a 2 I<|.v [22,23] (aN ((i*3)) I) I I<|.a 1 I<|.v [25] (aJ I ((flat_get eL 3 (fun _=>rfl) L i 0 x hx (by omega)).trans (rfl:(eL x)[0]? =some (num x.node)))) I I<|.a 1 I<|.v [26,27] (cf I (hq3)) I I<|.a 1 I<|?_
    cases q3
    ·exact .a 3 I<|.v [31,32] (aN ((i*3)) I) I I<|.v [33] (eU I (kz L i x hx) I) I I<|.v [30,34] (dU I (hq4▸qd T x)) I I<|.a 2 I<|.k [37,1,2,5] I
    ·exact .a 8 I<|.k [37,1,2,5] I
   refine ag I (fun hc=>?_) (fun hc=>?_)
   ·rw[←hq3,←hq4,h2,decide_eq_false (by rw[h1];simp)]at hc
    cases hc
   ·refine ai<|aC (.a 1 I<|.v (aU I) I<|.a 1 I<|.k [1,2,5] I) ?_
    exact⟨L.length - (i+1),by omega,i+1,by omega,rfl,rfl⟩
  ·have hie:i=L.length:=by have:=ff hc;omega
   exact bd<|ab (.a 1 I<|.k [4] I)<|ao<|⟨_,_,az.of I,ay.pure,rfl⟩
section
variable {T:ak} {tb:Nat→de} {p0:dx} {Φ:Nat→Nat→List bV→Prop}
theorem Cn.pos{n:Nat}{s:List bV}{c:Int}(h:Cn T tb p0 n s c):0<c:=by
 induction h with
 | @mk n s cs h2 _ ih=>
  unfold eK
  split
  ·omega
  ·rename_i hne
   cases cs with
   |nil=>exact absurd (List.eq_nil_of_length_eq_zero h2.symm) hne
   |cons c cs=>
    have h0:=ih 0 (by rw[←h2];simp)
    rw[List.getD_cons_zero]at h0
    have hcs:∀x∈cs,0≤x:=fun x hx=>by
     obtain⟨i,hi⟩:=List.getElem?_of_mem hx
     have hlt:=(List.getElem?_eq_some_iff.1 hi).1
     have:=ih (i+1) (by rw[←h2];simp;exact hlt)
     rw[List.getD_cons_succ,List.getD_eq_getElem?_getD,hi]at this
     have this:0<x:=this
     omega
    have:=zy cs (min (0+c) 1001) (show min (0+c) 1001≤1001 by omega) hcs
    have h3:sQ (c::cs)=cs.foldl (fun a c=>min (a+c) 1001) (min (0+c) 1001):=rfl
    rw[h3]
    have:(0:Int)<min (0+c) 1001:=by omega
    omega
theorem iE.at_{L M:List Sq}{op:List Nat}(h:iE T tb p0 L M op){k n:Nat}{s:List bV}(ha:At L k n s):At M k n s:=by
 obtain⟨q,h1,h2,h3⟩:=ha
 obtain⟨c,t,h4,_⟩:=h.2 k q h1
 exact⟨_,h4,h2,h3⟩
theorem iE.from_{L M:List Sq}{op:List Nat}(h:iE T tb p0 L M op){k:Nat}{q':Sq}(hk:M[k]? =some q'):∃q c t,L[k]? =some q∧q'=q.mark c t:=by
 have hlt:=(List.getElem?_eq_some_iff.1 hk).1
 have e1:L[k]? =some (L[k]'(by rw[←h.1];exact hlt)):=List.getElem?_eq_getElem _
 obtain⟨c,t,h4,_⟩:=h.2 k _ e1
 rw[hk]at h4
 cases h4
 exact⟨_,c,t,e1,rfl⟩
theorem FP{α:Type}{l:List α}{i:Nat}{a:α}(h:l[i]? =some a):l.set i a=l:=by
 apply List.ext_getElem?
 intro k
 rw[List.getElem?_set]
 split
 ·rename_i e
  subst e
  rw[if_pos (List.getElem?_eq_some_iff.1 h).1,h]
 ·rfl
structure K8 (T:ak) (tb:Nat→de) (p0:dx) (Φ:Nat→Nat→List bV→Prop) (n:Nat) (s:List bV) (M:List Sq):Prop where
 gr:Ex T tb p0 M
 len:M.length≤20000
 st:∀(k:Nat) (q:Sq),M[k]? =some q→∃u,Φ u q.n q.s
 first:∃q,M[0]? =some q∧q.n=n∧q.s=s∧Cn T tb p0 n s q.lu
set_option maxHeartbeats 4000000 in
theorem zC(R:iK T tb p0 Φ)(hv:aq T=true)(h12:T.nodes≤12){U:List (Nat×List bV)}(hU:∀ {u n s},Φ u n s→(n,s)∈U)(hUl:U.length≤20000)(tbs:List de)(htl:(tbs.length:Int)=T.nodes)(htb:∀n:Nat,(n:Int)<T.nodes→tbs[n]? =some (tb n))
  (hok:∀n:Nat,(n:Int)<T.nodes→(tb n).node=(n:Int)∧cT T (tb n)=true) {u n:Nat} {p:dx} (hΦ:Φ u n p.stack) (hp:cV p p.stack=cV p0 p.stack):
  Can Tryz.prog 92 [aP T,eE tbs,dB p,num n] (fun r=>∃M,r= .tuple [JP T tbs p0 M,num 0]∧K8 T tb p0 Φ n p.stack M):=by
 have hn:=R.node hΦ
 have hck:=sN T tbs hv htl (fun i x hx=>by
  have hil:=(List.getElem?_eq_some_iff.1 hx).1
  have:=htb i (by omega)
  rw[this]at hx
  cases hx
  exact hok i (by omega))
 refine aH Tryz.func92 I Tryz.ntmps92 I<|ab (.a 4 I<|.k [1,3,4,6] I)<|aj<|ab (.a 2 I<|.c rfl (hck) I<|.a 1 I<|.k [1,3,4,6,15] I)<|ag I (fun hc=>?_) (fun hc=>?_)
 ·cases hc
 ·refine ai<|aj<|ab (.a 1 I<|.v (cf I ((decide_eq_false (by omega)))) I<|.a 4 I<|.v (cf I ((decide_eq_false (by omega)))) I<|.a 1 I<|.k [1,3,4,6,23] I)<|ag I (fun hc=>?_) (fun hc=>?_)
  ·cases hc
  ·refine ai<|aO<|aw 4 I<|cN I I (bU.mono (w7 R hv h12 hU hUl tbs htb hΦ hp) (fun y σ' h=>?_))
   obtain⟨L,j,rest,rfl,rfl,hj,hE,hat⟩:=h
   refine aw 5 I<|aE [10] I ?_
   obtain⟨q,hq,hqn,hqs⟩:=hat
   have hfew:=hE.JM hU
   have hjl:=(List.getElem?_eq_some_iff.1 hj).1
   have hok0:iE T tb p0 L L []:=⟨rfl,fun k x hx=>by
    obtain⟨js,e,_⟩:=hE.dn k x (List.getElem?_eq_some_iff.1 hx).1 hx
    refine⟨0,0,?_,.inl ⟨rfl,rfl⟩⟩
    rw[hx,e]
    rfl⟩
   refine eF (σ':=GV T p0 tbs j rest L) (by unfold GV;rw[FP hj]) ?_
   refine aj<|aO<|aw 1 I<|cN I I (bU.mono (zm R L hE (by omega) tbs j rest hjl u 0 q hq (by rw[hqn,hqs];exact hΦ) [] L hok0 (fun k hk=>by cases hk)) (fun y σ' h=>?_))
   obtain⟨M,t,rfl,rfl,hokM,_,hM0,hcn⟩:=h
   refine aw 1 I<|aE [10,34] I ?_
   refine ag I (fun hc=>?_) (fun hc=>?_)
   ·cases hc
   ·refine ai<|ab (.a 3 I<|.k [8,9] I)<|ao ?_
    have hgr:Ex T tb p0 M:=fun k q' hk=>by
     obtain⟨q1,c1,t1,e1,rfl⟩:=hokM.from_ hk
     obtain⟨js,e2,e3,e4⟩:=hE.dn k q1 (List.getElem?_eq_some_iff.1 e1).1 e1
     refine⟨js,c1,t1,?_,e3,fun m a ha=>?_⟩
     ·show(⟨q1.n,q1.s,q1.a,q1.x,q1.cS,c1,t1⟩:Sq)=_
      rw[congrArg Sq.a e2,congrArg Sq.x e2,congrArg Sq.cS e2]
      rfl
     ·obtain⟨jm,g1,g2⟩:=e4 m a ha
      exact⟨jm,g1,hokM.at_ g2⟩
    haveI:aL (gL p0 M):=rT fun q hq=>by
     obtain⟨k,hk⟩:=List.getElem?_of_mem hq
     obtain⟨js,c,t,h1,_⟩:=hgr k q hk
     rw[h1]
     unfold kF
     infer_instance
    refine⟨_,_,az.of I,ay.aX (ah.cons (ay.jI (rfl:(GV T p0 tbs j rest M)[0]? =some (some (.cells 122 (bC T++[eE tbs,.own (j+1)])))) (ah.append ah.pure (ah.cons ay.pure (ah.cons (ay.fy (cP hjl) ah.pure) ah.nil))))<|ah.cons ay.pure ah.nil),M,rfl,hgr,by rw[hokM.1];omega,fun k q' hk=>?_,⟨_,hM0,hqn,hqs,by rw[←hqn,←hqs];exact hcn⟩⟩
    obtain⟨q1,c1,t1,e1,rfl⟩:=hokM.from_ hk
    exact hE.st k q1 e1
set_option maxHeartbeats 4000000 in
theorem ES(R:iK T tb p0 Φ)(hv:aq T=true)(h12:T.nodes≤12){U:List (Nat×List bV)}(hU:∀ {u n s},Φ u n s→(n,s)∈U)(hUl:U.length≤20000)(tbs:List de)(htl:(tbs.length:Int)=T.nodes)(htb:∀n:Nat,(n:Int)<T.nodes→tbs[n]? =some (tb n))
  (hok:∀n:Nat,(n:Int)<T.nodes→(tb n).node=(n:Int)∧cT T (tb n)=true) {u n:Nat} {p:dx} (hΦ:Φ u n p.stack) (hu:∀ {u n s},Φ u n s→u≤100000) (hp:cV p p.stack=cV p0 p.stack):
  Can Tryz.prog 37 [aP T,eE tbs,dB p,num n] (fun r=>r= .tuple [mo [],num 6]∨∃rs:List Rz,r= .tuple [mo rs,num 0]∧0<rs.length∧rs.length≤1000∧∀z∈rs,∃(q:List Int) (e:Nat),z.path=q∧z.n=e∧Br T tb p0 n p.stack q e z.cS):=by
 refine aH Tryz.func37 I Tryz.ntmps37 I<|ab (.a 4 I<|.k [1,3,4,6] I)<|aO<|aw 4 I<|cN I I (bU.mono (bU.yl (zC R hv h12 hU hUl tbs htl htb hok hΦ hp)) (fun y σ' h=>?_))
 obtain⟨⟨M,rfl,C⟩,rfl⟩:=h
 refine aw 5 I<|aE [10,11] I ?_
 refine aj<|ab (.a 2 I<|.k [10,11,21] I)<|ag I (fun hc=>?_) (fun hc=>?_)
 ·cases hc
 ·obtain⟨q,hq,hqn,hqs,hcn⟩:=C.first
  haveI:=C.gr.pure (tbs:=tbs)
  have hM0:=(List.getElem?_eq_some_iff.1 hq).1
  refine ai<|aj<|ab (.a 3 I<|.v (aJ I ((rfl:(bC T++[eE tbs,.slice M.length (gL p0 M)])[4]? =some (.slice M.length (gL p0 M))))) I<|.v (aN (0) I (by omega) (by omega)) I<|.a 1 I<|.v (aJ I ((eA (v:=num q.lu) 11 hq (by omega) I))) I<|.a 1 I<|.k [10,30] I)<|ag I (fun hc=>?_) (fun hc=>?_)
  ·skip
   exact ab (.a 2 I<|.k [8,9] I)<|ao<|⟨_,_,az.of I,ay.aX (ah.cons ay.bM<|ah.cons ay.pure ah.nil),.inl rfl⟩
  ·have hc:=ff hc
   obtain⟨rs,h1,h2,h3⟩:=CG R tbs M C.gr (by have:=C.len;omega) hcn (by omega) u hΦ 0 [] ⟨q,hq,hqn,hqs⟩ (by have:=hu hΦ;simp;omega)
   have hpos:=hcn.pos
   exact ai<|ab (.a 1 I<|.v (s4 I (ah.cons ay.pure<|ah.cons ay.pure<|ah.cons ay.bM ah.nil) (h1)) I<|.a 2 I<|.k [8,9] I)<|ao<|⟨_,_,az.of I,ay.aX (ah.cons (ay.pure (p:=mo rs))<|ah.cons ay.pure ah.nil),.inr ⟨rs,rfl,by omega,by omega,fun z hz=>by
    obtain⟨q,e,e1,e2,e3⟩:=h3 z hz
    exact⟨q,e,by rw[e1];rfl,e2,e3⟩⟩⟩
end
theorem Can.LV{P:Program}{f:FuncId}{ps qs:List PV}{R:PV→Prop}(h:ah [] ps qs)(hc:Can P f qs R):Can P f ps R:=fun F w vs hF hG hr=>hc F w vs hF hG ⟨hr.1.trans h.1,fun j c u k1 k2=>by
 have hj:j<ps.length:=by rw[h.1];exact(List.getElem?_eq_some_iff.1 k2).1
 exact(h.2 j ps[j] u (by simp[hj]) k2).plain c (hr.2 j c _ k1 (by simp[hj]))⟩
section
variable {T:ak} {k x:Int} {S:List Int} {s d:Nat} {late:Bool}
def KK(s d:Int):PV:=.agg [num 0,num s,num d,num 0,.raw (.slice none 0 0),num 0]
instance (s d:Int):IsPure (KK s d):=by unfold KK;infer_instance
theorem Hh(s d:Int):ay [] (KK s d) (dB ⟨0,s,d,0,[],0⟩):=ay.gY (ah.cons ay.pure<|ah.cons ay.pure<|ah.cons ay.pure<|ah.cons ay.pure<|ah.cons ay.bM<|ah.cons ay.pure ah.nil)
theorem wS{st:Nat→Int}(hst:st=fq S){p0:dx}:∀u n s',u6 T k x d st p0 late u n s'→sL T k x S n=s7 T (aF T k x) st n:=fun u n s' g=>by subst hst;exact ER g.here
theorem uA(hP:KH T k x S s d late):∃u,u6 T k x d (fq S) ⟨0,s,d,0,[],0⟩ late u s []:=⟨_,.inl ⟨hP.KU,rfl⟩⟩
theorem FG(hP:KH T k x S s d late):Can Tryz.prog 20 [aP T,ca k x,av S] (· = .tuple [eE (oS T k x S S.length),num 0]):=by
 have h:=tV T k x S (by have:=hP.len;have:=hP.Ga;omega) hP.Ga
 unfold D0 at h
 rw[hP.ok,if_pos rfl]at h
 exact h
end
section
variable {T:ak} {k x:Int} {S:List Int} {s d:Nat} {late:Bool}
theorem GO(hP:KH T k x S s d late)(hcv:late=false→uD T k x=true)(hsafe:late=false→∀m:Nat,(m:Int)<T.nodes→¬Gn k x m→0≤dN T [] d m→0≤dN T (aF T k x) d m):
  Can Tryz.prog 37 [aP T,eE (oS T k x S S.length),KK s d,num s] (fun r=>∃(rs:List Rz) (f:Int),r= .tuple [mo rs,num f]∧(f=6∨(f=0∧0<rs.length∧rs.length≤1000∧∀z∈rs,∃e:Nat,z.n=e∧Br T (s7 T (aF T k x) (fq S)) ⟨0,s,d,0,[],0⟩ s [] z.path e z.cS))):=by
 obtain⟨u,hu⟩:=uA hP
 have hv:=hP.valid
 have hl:=hP.len
 have R:=ts (st:=fq S) (p0:=⟨0,s,d,0,[],0⟩) hv hP.Ga hP.Lk hP.dst hcv hsafe hP.perm rfl
 have htl:((oS T k x S S.length).length:Int)=T.nodes:=by rw[qC];exact hl
 have hN:=(aM hv).nodes
 have hn12:=hP.Ga
 refine Can.LV (ah.cons ay.pure<|ah.cons ay.pure<|ah.cons (Hh _ _)<|ah.cons ay.pure ah.nil) (Can.mono (ES (R.congr (wS rfl)) hv hP.Ga (U:=EL T (s7 T (aF T k x) (fq S)) ⟨0,s,d,0,[],0⟩) (fun g=>g.mem) ?_ (oS T k x S S.length) htl (fun n hn=>A6 (by omega)) (zL hv hP.Ga) (p:=⟨0,s,d,0,[],0⟩) hu (fun g=>?_) I) ?_)
 ·have:=DE (T:=T) (p0:=⟨0,s,d,0,[],0⟩) (s7 T (aF T k x) (fq S)) hP.Ga hP.Lk
  omega
 ·have:=g.Iw.bound (by omega)
  omega
 ·rintro r (rfl|⟨rs,rfl,h1,h2,h3⟩)
  ·exact⟨[],6,rfl,.inl rfl⟩
  ·refine⟨rs,0,rfl,.inr ⟨rfl,h1,h2,fun z hz=>?_⟩⟩
   obtain⟨q,e,rfl,e2,e3⟩:=h3 z hz
   exact⟨e,e2,Br.congr (wS rfl) R e3 hu⟩
end
section
variable {T:ak} {k x:Int} {d:Nat} {st:Nat→Int} {p0:dx}
end
theorem G4{l:List Rz}{i:Nat}{z:Rz}(j:Nat)(h:l[i]? =some z)(hj:j<3){v:PV}(hv:(uX z)[j]? =some v):(lC l)[i*3+j]? =some v:=(flat_get uX 3 (fun _=>rfl) l i j z h hj).trans hv
theorem Gr{T:ak}{tb:Nat→de}{p0:dx}{Φ:Nat→Nat→List bV→Prop}(R:iK T tb p0 Φ){n e:Nat}{s:List bV}{p:List Int}{w:Int}(hb:Br T tb p0 n s p e w):∀ {u:Nat},Φ u n s→p.length≤u∧∀a∈p,∃b:Nat,a=(b:Int)∧b<2*T.ae.length:=by
 induction hb with
 |stop _=>intro u _;exact⟨Nat.zero_le _,fun a ha=>by cases ha⟩
 | @go n m e s a p w ha hm hr ih=>
  intro u hu
  rcases R.step hu with h|⟨_,_,h⟩
  ·have h:(dj T (tb n) (cV p0 s)).ax=[]:=h
   rw[h]at ha;cases ha
  ·obtain⟨b,m',e1,e2,e3,u',e4,e5⟩:=h a ha
   have:m'=m:=by rw[e1,Int.toNat_natCast,e3]at hm;omega
   subst this
   obtain⟨i1,i2⟩:=ih e5
   refine⟨by simp only[List.length_cons];omega,fun c hc=>?_⟩
   rcases List.mem_cons.1 hc with rfl|hc
   ·exact⟨b,e1,e2⟩
   ·exact i2 c hc
theorem yX(c:vi)(h:uL c=false):Can Tryz.prog 8 [qj c] (· =flag true):=by
 have hsn:=rD c
 rw[h]at hsn
 refine aH Tryz.func8 I Tryz.ntmps8 I<|ab (.a 2 I<|.k [1] I)<|aj<|bz 26 (.raw (.bool (true))) [1] I ?_ ?_
 ·exact .c rfl (jQ) I<|.a 3 I<|.c rfl (hsn) I<|.a 6 I<|.k [26,1] I
 refine ag I (fun hc=>?_) (fun hc=>?_)
 ·exact ab (.c rfl (jQ) I<|.a 1 I<|.k [2] I)<|ao<|⟨_,_,az.of I,ay.pure,rfl⟩
 ·cases hc
set_option maxHeartbeats 2000000 in
theorem Ah(T:ak)(k x:Int)(S:List Int)(n d:Int)(h:uL ⟨T,k,x,S,n,d⟩=true):Can Tryz.prog 8 [qj ⟨T,k,x,S,n,d⟩] (· =flag true):=by
  have hsn:=rD ⟨T,k,x,S,n,d⟩
  obtain⟨s,e,rfl,rfl,hP⟩:=Fw (Ha h)
  have hSl:=hP.len
  have h12:=hP.Ga
  have hsl:=hP.src
  have hv:=hP.valid
  have hla:=CX ⟨T,k,x,S,(s:Int),(e:Int)⟩ (show S.length≤1000 by omega)
  obtain⟨hcv,hsafe⟩:=EH h hP.Lp
  rw[h]at hsn
  obtain⟨w1,hw1⟩:∃q,Av ⟨T,k,x,S,(s:Int),(e:Int)⟩=q:=⟨_,rfl⟩
  rw[hw1]at hla hP
  have hmk:=nx T k x
  rw[hP.Lp]at hmk
  refine aH Tryz.func8 I Tryz.ntmps8 I<|ab (.a 2 I<|.k [1] I)<|aj<|bz 26 (.raw (.bool (w1))) [1] I ?_ ?_
  · exact .c rfl (jQ) I<|.a 3 I<|.c rfl (hsn) I<|.a 4 I<|.c rfl (hla) I<|.a 1 I<|.k [26,1] I
  refine ag I (fun hc=>?_) (fun hc=>?_)
  · exact ab (.c rfl (jQ) I<|.a 1 I<|.k [2] I)<|ao<|⟨_,_,az.of I,ay.pure,rfl⟩
  · obtain rfl:w1=false:=by simpa using hc
    have htab:=FG hP
    have hall:=GO hP (fun _=>hcv) (fun _=>hsafe)
    obtain⟨L,hL⟩:∃L,oS T k x S S.length=L:=⟨_,rfl⟩
    rw[hL]at htab hall
    obtain⟨M,hM⟩:∃M,aF T k x=M:=⟨_,rfl⟩
    have hfit:bW T M=true:=hM▸du T k x
    have hec:cD T [] [(e:Int)]=0:=by
      unfold cD
      rw[hv,jw]
      simp[aT.2 (show 0≤(e:Int)∧(e:Int)<T.nodes by have:=hP.dst;omega)]
    have hrd:=mR T [] (e:Int)
    rw[hec,Int.toNat_natCast]at hrd
    unfold dY at hrd
    rw[if_pos rfl]at hrd
    obtain⟨hb1,hb2⟩:=dv (D:=[]) hv (dir:=false) hP.dst
    have hDs:∀m,(bG T [] e false).getD m 0=dN T [] e m:=fun m=>rfl
    obtain⟨Ds,hDL⟩:∃L,bG T [] e false=L:=⟨_,rfl⟩
    rw[hDL]at hrd hb1 hb2 hDs
    have hst:=hP.KU
    have R:=ts (st:=fq S) (p0:=⟨0,s,e,0,[],0⟩) hv hP.Ga hP.Lk hP.dst (late:=false) (fun _=>hcv) (fun _=>hsafe) hP.perm rfl
    have hfin:∀(z:Rz) (e':Nat),Br T (s7 T (aF T k x) (fq S)) ⟨0,s,e,0,[],0⟩ s [] z.path e' z.cS→z.path.length≤100∧(∀a∈z.path,∃b:Nat,a=(b:Int)∧b<2*T.ae.length)∧(∀a∈z.path,aQ M a.toNat=false)∧
        ∀i,i<z.path.length→(∀j,j≤i→fq S (bm T (z.path.getD j 0).toNat).toNat=0)→Ds.getD (aS T (z.path.getD i 0).toNat).toNat 0=Ds.getD (bm T (z.path.getD i 0).toNat).toNat 0 - cp T (z.path.getD i 0).toNat:=fun z e' hb=>by
      obtain⟨u,hu⟩:=uA hP
      obtain⟨l1,l2⟩:=Gr R hb hu
      have hub:=hu.Iw.bound (by have:=(aM hv).nodes;omega)
      obtain⟨_,_,h3⟩:=Jo hv h12 hP.dst (late:=false) (fun _=>hcv) (fun _=>hsafe) hP.perm rfl hb hu.Iw
      refine⟨by omega,l2,by rw[←hM];exact h3,fun i hi hall=>?_⟩
      rw[hDs,hDs]
      exact Ee hv h12 hP.dst hcv hsafe hP.perm rfl hb hP.KU i hi hall
    rw[hM]at hmk
    clear hc
    refine ai<|ab (.a 1 I<|.v (eU I (rfl) I) I<|.a 4 I<|.c rfl (htab) I<|.a 5 I<|.k [1,3,4] I)<|aj<|ab (.a 2 I<|.k [1,3,39] I)<|ag I (fun hc=>?_) (fun hc=>?_)
    · cases hc
    · refine ai<|ab (.a 1 I<|.v (eU I (rfl) I) I<|.a 2 I<|.c rfl (hmk) I<|.a 5 I<|.k [1,3,5] I)<|ab (.a 1 I<|.v (eU I (rfl) I) I<|.a 2 I<|.v (s4 I (ah.cons ay.pure<|ah.cons ay.bM<|ah.cons ay.pure ah.nil) (hrd)) I<|.a 5 I<|.k [1,3,5,7] I)<|aO<|aw 1 I<|bw (eU I (rfl) I) I<|aw 8 I<|cN I I (bU.mono (bU.yl hall) (fun y σ' h=>?_))
      obtain⟨⟨rs,f,rfl,hrs⟩,rfl⟩:=h
      refine aw 5 I<|aE [1,5,7,9,10] I ?_
      refine aj<|ab (.a 1 I<|.v (cf I (rfl:decide (f=6)=decide (f=6))) I<|.k [1,5,7,9,10,71] I)<|ag I (fun hc=>?_) (fun hc=>?_)
      · skip
        exact ab (.a 1 I<|.k [2] I)<|ao<|⟨_,_,az.of I,ay.pure,rfl⟩
      · obtain ⟨rfl, hpos, hmax, hbr⟩ := hrs.resolve_left (ff hc)
        refine ai<|aj<|ab (.a 3 I<|.k [1,5,7,9,10,73,74] I)<|au<|eH [1,5,7,9,10,73,74] I<|bq (fun r st=>∃i:Nat,i≤rs.length∧r=rs.length - i∧st=⟨[(1,.bb (yF ⟨T,k,x,S,(s:Int),(e:Int)⟩) 0),(5,bn M),(7,av Ds),(9,mo rs),(10,num 0),(73,num rs.length),(74,num i)],[]⟩) rs.length ⟨0,by omega,by omega,rfl⟩ ?_
        rintro r st ⟨i,hi,rfl,rfl⟩
        refine ab (.a 1 I<|.k [1,5,7,9,10,73,74,75] I)<|aj<|ag I (fun hc=>?_) (fun hc=>?_)
        · have hlt:i<rs.length:=by have:=tt hc;omega
          obtain⟨z,hz⟩:∃z,rs[i]? =some z:=⟨_,List.getElem?_eq_getElem hlt⟩
          obtain⟨e',_,hb⟩:=hbr z (List.mem_of_getElem? hz)
          obtain⟨f1,f2,f3,f4⟩:=hfin z e' hb
          have hz2:(lC rs)[i*3+2]? =some (av z.path):=G4 2 hz (by omega) (rfl:(uX z)[2]? =some (av z.path))
          obtain⟨P,hPP⟩:∃P,z.path=P:=⟨_,rfl⟩
          rw[hPP]at f1 f2 f3 f4 hz2
          refine ai<|aj<|au<|ab (.a 2 I<|.k [1,5,7,9,10,11,73,74] I)<|ab (.a 1 I<|.k [1,5,7,9,10,11,12,73,74] I)<|ab (.a 2 I<|.v (aN ((i*3)) I) I<|.a 1 I<|.v (aJ I (hz2)) I<|.a 2 I<|.k [1,5,7,9,10,12,73,74,81,82,83] I)<|au<|eH [1,5,7,9,10,12,73,74,81,82,83] I<|bq (fun r st=>∃(j:Nat) (o:Bool),j≤P.length∧r=P.length - j∧(o=true→∀i,i<j→fq S (bm T (P.getD i 0).toNat).toNat=0)∧st=⟨[(1,.bb (yF ⟨T,k,x,S,(s:Int),(e:Int)⟩) 0),(5,bn M),(7,av Ds),(9,mo rs),(10,num 0),(12,flag o),(73,num rs.length),(74,num i),(81,av P),(82,num P.length),(83,num j)],[]⟩) P.length ⟨0,true,by omega,by omega,fun _ i hi=>absurd hi (by omega),rfl⟩ ?_
          rintro r st ⟨j,o,hj,rfl,ho,rfl⟩
          refine ab (.a 1 I<|.k [1,5,7,9,10,12,73,74,81,82,83,84] I)<|aj<|ag I (fun hc=>?_) (fun hc=>?_)
          · have hjl:j<P.length:=by have:=tt hc;omega
            have hmem:P.getD j 0∈P:=by rw[List.getD_eq_getElem?_getD,List.getElem?_eq_getElem hjl];exact List.getElem_mem hjl
            obtain⟨b,hab,hbl⟩:=f2 _ hmem
            have hup:=f3 _ hmem
            have hear:=f4 j hjl
            rw[hab,Int.toNat_natCast]at hup hear
            obtain⟨t1,t2⟩:=(aM hv).tail b hbl
            obtain⟨u1,u2⟩:=(aM hv).head b hbl
            obtain⟨v1,v2⟩:=(aM hv).cost b hbl
            have htc:=gh T hv b hbl
            have hhc:=gX T hv b hbl
            have hcc:=lg T hv b hbl
            have huc:=qv M b (by
              have h:=hfit
              simp only[bW,decide_eq_true_eq]at h
              omega)
            obtain⟨tn,htn⟩:=Int.eq_ofNat_of_zero_le t1
            obtain⟨hn,hhn⟩:=Int.eq_ofNat_of_zero_le u1
            rw[hup]at huc
            rw[htn]at htc t2
            rw[hhn]at hhc u2
            rw[htn,hhn,Int.toNat_natCast,Int.toNat_natCast]at hear
            obtain⟨v,hvv⟩:∃v,fq S tn=v:=⟨_,rfl⟩
            obtain⟨o2,ho2⟩:∃q,decide (v=0)=q:=⟨_,rfl⟩
            have hold:(o&&o2)=true→Ds.getD hn 0=Ds.getD tn 0 - cp T b:=fun h=>by
              obtain⟨rfl,rfl⟩:=Bool.and_eq_true_iff.1 h
              refine hear fun i hi=>?_
              by_cases hij:i<j
              · exact ho rfl i hij
              · obtain rfl:i=j:=by omega
                rw[hab,Int.toNat_natCast,htn,Int.toNat_natCast,hvv]
                exact tt ho2
            have hgt:∀m:Nat,(m:Int)<T.nodes→ -1≤Ds.getD m 0∧Ds.getD m 0≤4194240:=fun m hm=>hb2 _ (by rw[List.getD_eq_getElem?_getD,List.getElem?_eq_getElem (show m<Ds.length by omega)];exact List.getElem_mem _)
            have g1:=hgt tn t2
            have g2:=hgt hn u2
            obtain⟨x1,hx1⟩:∃v,Ds.getD hn 0=v:=⟨_,rfl⟩
            obtain⟨x2,hx2⟩:∃v,Ds.getD tn 0=v:=⟨_,rfl⟩
            obtain⟨cb,hcb⟩:∃v,cp T b=v:=⟨_,rfl⟩
            rw[hx1,hx2,hcb]at hold
            rw[hcb]at hcc v1 v2
            rw[hx2]at g1
            obtain⟨o3,ho3⟩:∃q,(o&&o2)=q:=⟨_,rfl⟩
            obtain⟨w2,hw2⟩:∃q,decide (x1≠x2 - cb)=q:=⟨_,rfl⟩
            refine ai<|aj<|au<|ab (.v (aN (j) I) I<|.v (aJ I ((aB P j hjl).trans (by rw[hab]))) I<|.a 1 I<|.k [1,5,7,9,10,12,14,73,74,81,82,83] I)<|ab (.a 1 I<|.v (eU I (rfl) I) I<|.a 1 I<|.c rfl (htc) I<|.a 1 I<|.k [1,5,7,9,10,12,14,15,73,74,81,82,83] I)<|bz 12 (.raw (.bool (o&&o2))) [1,5,7,9,10,14,15,73,74,81,82,83] I ?_ ?_
            · refine .a 2 I<|?_
              cases o
              · exact .a 8 I<|.k [12,1,5,7,9,10,14,15,73,74,81,82,83] I
              · exact .a 1 I<|.v (aJ I ((show some (av S)=some (av S) from rfl))) I<|.a 1 I<|.v (aN (tn) I) I<|.v (aJ I ((aB S tn (by omega)).trans (by rw[show S.getD tn 0=v from hvv]))) I<|.v (cf I (ho2)) I<|.a 2 I<|.k [12,1,5,7,9,10,14,15,73,74,81,82,83] I
            rw[ho3]at hold ⊢
            refine iJ mixed (by kernel_rfl) 125 (.raw (.bool (o3&&w2))) [1,5,7,9,10,12,73,74,81,82,83] I ?_ ?_
            · refine .a 2 I<|.v [100,101] (dU I (huc)) I I<|.a 4 I<|?_
              cases o3
              · exact .a 19 I<|.k [125,1,5,7,9,10,12,73,74,81,82,83] I
              · exact .a 2 I<|.v [108] (eU I (rfl) I) I I<|.a 1 I<|.v [109,110] (dU I (hhc)) I I<|.v [107,111] (aN (hn) I) I I<|.v [112] (aJ I ((aB Ds hn (by omega)).trans (by rw[hx1]))) I I<|.a 2 I<|.v [114,115] (aN (tn) I) I I<|.v [116] (aJ I ((aB Ds tn (by omega)).trans (by rw[hx2]))) I I<|.a 1 I<|.v [118] (eU I (rfl) I) I I<|.a 1 I<|.v [119,120] (dU I (hcc)) I I<|.v [117,121] (aU I (hn:=(show In64 (x2 - cb) by unfold In64;omega))) I I<|.v [113,122] (cf I (hw2)) I I<|.a 2 I<|.k [125,1,5,7,9,10,12,73,74,81,82,83] I
            refine ag I (fun hc=>?_) (fun hc=>?_)
            · obtain⟨rfl,rfl⟩:=Bool.and_eq_true_iff.1 hc
              exact absurd (hold rfl) (tt hw2)
            · refine ai<|aC (.v (aU I) I<|.a 1 I<|.k [1,5,7,9,10,12,73,74,81,82,83] I) ?_
              refine⟨P.length - (j+1),by omega,j+1,o3,by omega,rfl,fun h i hi=>?_,rfl⟩
              rw[h]at ho3
              obtain⟨rfl,rfl⟩:=Bool.and_eq_true_iff.1 ho3
              by_cases hij:i<j
              · exact ho rfl i hij
              · obtain rfl:i=j:=by omega
                rw[hab,Int.toNat_natCast,htn,Int.toNat_natCast,hvv]
                exact tt ho2
          · have hje:j=P.length:=by have:=ff hc;omega
            refine bd<|aC (.v (aU I) I<|.a 1 I<|.k [1,5,7,9,10,73,74] I) ?_
            exact⟨rs.length - (i+1),by omega,i+1,by omega,rfl,rfl⟩
        · have hie:i=rs.length:=by have:=ff hc;omega
          exact bd<|ab (.a 3 I<|.k [2] I)<|ao<|⟨_,_,az.of I,ay.pure,rfl⟩
theorem sY(c:vi):Can Tryz.prog 8 [qj c] (· =flag true):=by
 obtain⟨T,k,x,S,n,d⟩:=c
 cases h:uL ⟨T,k,x,S,n,d⟩with
 |false=>exact yX _ h
 |true=>exact Ah T k x S n d h
end
end PW
end Go.Proofs.YtnegbdpggideiaaGreatDoor
namespace Go.Proofs.YtnegbdpggideiaaGreatDoor.mixtureEarly
open Go.ChangeShapes Go.WideShapes Go.ChangeAt Go.RowKit
open cG Mem PW
set_option maxRecDepth 100000 in
theorem lifted(os:Os)(started:os.Started)(H:Type)(enc:TypeId×Value→H):
  ReturnsInHanded {} Tryz.checked os 8 .any (fun w args=>(Rows.mixtureEarlySpec.pre enc Tryz.prog Tryz.f8 [] false w args∧laidMetH Tryz.prog Rows.mixtureEarlyRow.laid w)∧sizedMet enc Tryz.prog Tryz.f8 (OpenSpec.ofChange Rows.mixtureEarlySpec) false w args)
   (Rows.mixtureEarlySpec.post enc Tryz.prog Tryz.f8 false true false false):=by
 refine returnsInHanded_of_change_and (C:=Tryz.checked) (X:=fun w _=>laidMetH Tryz.prog Rows.mixtureEarlyRow.laid w) (fun _ _ _ hh h=>h.of_heap hh) own started (by kernel_rfl) Tryz.func8
  (ChangeSpec.witness_shaped (enc:=enc) (C:=Tryz.checked) (os:=os) (X:=fun w _=>laidMetH Tryz.prog Rows.mixtureEarlyRow.laid w) false (World.doorLaid Tryz.prog 400 os) #[.agg #[.int .i64 0,.slice none 0 0,.slice none 0 0,.int .i64 0,.int .i64 0,.slice none 0 0,.int .i64 0,.int .i64 0]] 8 rfl (World.shaped_of_RefB (by kernel_rfl) (by kernel_rfl)) (by kernel_rfl) (by kernel_rfl) (by kernel_rfl) (laidMetH_of_parts3 (fuel:=8) (laidMet_of_run' 8 (by kernel_rfl) (by kernel_rfl)) (by kernel_rfl) (by kernel_rfl))) ?_
 intro W base args ds gs before hval0 hW _ _ hL _
 have hval:∀(j:Nat) t v,Tryz.f8.params[j]? =some t→args[j]? =some v→Value.okWide Tryz.prog W .any base t v:=hval0
 have hW':=hW
 obtain⟨p,q,hA0,hV,rfl,hfz,hnd⟩:=hW
 have hA:DataW.TrodAll enc Tryz.prog W 0 (fun _=>true) true Tryz.f8.params.toList args.toList ds p:=hA0
 rw[Tryz.params8]at hA hval
 obtain⟨v0,vs0,d0,ds0,p0,q0,hargs,rfl,rfl,h0,r0⟩:=trodAll_cons hA
 obtain⟨rfl,rfl,rfl⟩:=trodAll_nil r0
 obtain rfl:args= #[v0]:=by cases args;simp_all
 obtain⟨rfl,rfl⟩:=trodVars_none hV
 have lt0:=JY h0
 obtain⟨c,R0⟩:=Jm (hval 0 50 v0 rfl rfl) h0
 clear hA0 hval0
 refine((sY c) (fun _=>False) W #[v0] (fun _ h=>h.elim) (Cs hL) (bf.cons R0 (bf.nil _ _))).mono fun e W' ⟨x,he,bel,r,hr,hx⟩=>?_
 subst hr
 cases hx
 subst he
 exact⟨_,rfl,_,_,_,[],_,[],hW',trodAll_mk1 (shut_bool Tryz.underlying4 _),(trodAll_cons_mk (Below.trod laidOut (by kernel_rfl) (of_decide_eq_true (by kernel_rfl)) h0 bel lt0) trodAll_mk0),rfl,bel.frame _,fun h=>by cases h⟩
set_option maxRecDepth 100000 in
theorem LP:(Rows.mixtureEarlyRow.inPlace==Tryz.prog.inPlace 8)=true:=by kernel_rfl
set_option maxRecDepth 100000 in
theorem LQ:(Rows.mixtureEarlyRow.unfollowed==Tryz.prog.unfollowed 8)=true:=by kernel_rfl
set_option maxRecDepth 100000 in
theorem LR:(Rows.mixtureEarlyRow.recurses==Tryz.prog.recurses 8)=true:=by kernel_rfl
set_option maxRecDepth 100000 in
theorem LJ:(Rows.mixtureEarlyRow.named==Tryz.prog.varsNamed 8)=true:=by kernel_rfl
set_option maxRecDepth 100000 in
theorem closed:joinedFacts Tryz.prog 8 Tryz.f8 Rows.mixtureEarlySpec Rows.mixtureEarlyRow=true:=by
 unfold joinedFacts
 rw[LP,LQ,LR,LJ]
 kernel_rfl
theorem over:Rows.mixtureEarlyRow.holds Tryz.pinned (OpenSpec.ofChange Rows.mixtureEarlySpec):=
 OpenClaim.holds_of_wide 8 Tryz.f8 rfl rfl rfl rfl rfl rfl rfl ⟨rfl,rfl,rfl,rfl,rfl⟩ rfl rfl rfl rfl rfl (by kernel_rfl) Tryz.func8 closed
  (of_decide_eq_true (by kernel_rfl)) (by unfold Func.isWrapper;first|(rw[if_pos (by decide+kernel)];kernel_rfl)|(rw[if_neg (by decide+kernel)];exact⟨rfl,rfl⟩))
  (fun os started H enc _=>lifted os started H enc)
theorem proved:Rows.MixtureEarlyCardSaid:=
 Claim7.holds_tied_plain_at .later [] [.data,.data,.data] true (true,"3eedc3262a1e22f25a0699067de5cf2e4c3ca5fe316ddc4ea68067e33fe38499") false
  over (fun _ h=>by cases h) (by kernel_rfl) (fun _ h=>by cases h) mixtureEarly_row_tie rfl ⟨rfl,rfl⟩ (by kernel_rfl) rfl
  (fun f fn hf hfn=>by
   obtain rfl:f=8:=Option.some.inj ((show Tryz.prog.funcNamed "waypoint/waypointlaw31.MixtureEarly" =some 8 by kernel_rfl).symm.trans hf) |>.symm
   obtain rfl:fn=Tryz.f8:=(Option.some.inj (Tryz.func8.symm.trans hfn)).symm
   exact⟨by kernel_rfl,fun j t ht=>by
    rw[Tryz.params8]at ht
    have hm:t∈[50]:=by simpa using Array.mem_of_getElem? ht
    have hall:([50].all fun u=> !Tryz.prog.wantsStandIn u)=true:=by kernel_rfl
    exact(show Tryz.prog.wantsStandIn t=false by simpa using List.all_eq_true.1 hall t hm)⟩)
  (by kernel_rfl)
end Go.Proofs.YtnegbdpggideiaaGreatDoor.mixtureEarly
