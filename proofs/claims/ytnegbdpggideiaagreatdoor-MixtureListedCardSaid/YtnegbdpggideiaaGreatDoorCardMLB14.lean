/- Texts of the proof, part 14. -/
import Derived.RangeFuncNested
import Derived.RangeFuncBound
import Derived.RangeFuncCalls
import Derived.RangeFuncLeaves
import Derived.Shelf.Abstract
import Derived.Shelf.RegionOpen
import Derived.WalkKit
import Derived.OwnWalkIn
import Derived.TacticsInMore
import Derived.LoopNIn
import Derived.LoopIn
import Derived.Test.YtnegbdpggideiaaGreatDoorCardMLB13
set_option linter.unusedVariables false
set_option linter.unusedSimpArgs false
set_option maxRecDepth 10000
set_option maxHeartbeats 1000000
namespace Go.Proofs.YtnegbdpggideiaaGreatDoor
namespace fk
open Go.RowKit Go.Shelf cE
structure Rest (a b:Nat) (w w':World):Prop where
 os:w'.os=w.os
 tape:w'.tape=w.tape
 output:w'.output=w.output
 size:w.heap.size≤w'.heap.size
 block:∀k,k<w.heap.size→(k<a∨b≤k)→w'.heap[k]? =w.heap[k]?
 cells:∀(k:Nat) (o:Obj),w.heap[k]? =some o→o.isCells=true→w'.heap[k]? =some o
theorem Rest.refl(a b:Nat)(w:World):Rest a b w w:=⟨rfl,rfl,rfl,Nat.le_refl _,fun _ _ _=>rfl,fun _ _ h _=>h⟩
theorem Rest.trans{a b:Nat}{w w' w'':World}(h:Rest a b w w')(k:Rest a b w' w''):Rest a b w w'':=
 ⟨k.os.trans h.os,k.tape.trans h.tape,k.output.trans h.output,Nat.le_trans h.size k.size,fun j h1 h2=>(k.block j (Nat.lt_of_lt_of_le h1 h.size) h2).trans (h.block j h1 h2),fun j o h1 h2=>k.cells j o (h.cells j o h1 h2) h2⟩
theorem Rest.wide{a b a' b':Nat}{w w':World}(h:Rest a b w w')(h1:a'≤a)(h2:b≤b'):Rest a' b' w w':=
 ⟨h.os,h.tape,h.output,h.size,fun k k1 k2=>h.block k k1 (by omega),h.cells⟩
theorem Rest.put{a b l:Nat}{w:World}{o o0:Obj}(h0:w.heap[l]? =some o0)(hc:o0.isCells=false)(h1:a≤l)(h2:l<b):Rest a b w (w.putObj l o):=
 ⟨rfl,rfl,rfl,by simp,fun k _ k2=>World.putObj_heap_other (by omega),fun k o1 k1 k2=>(World.putObj_heap_other (fun e=>by subst e;rw[h0]at k1;cases k1;rw[hc]at k2;cases k2)).trans k1⟩
theorem Gt{w w':World}(h:Ext w w'){l:Nat}{o:Obj}(hl:w.heap.size≤l):Ext w (w'.putObj l o):=
 ⟨h.os,h.tape,h.output,by simp;exact h.size,fun k hk=>(World.putObj_heap_other (by omega)).trans (h.block k hk)⟩
def Calm(G:Value→World→Prop):Prop:=∀v w l r o,G v w→w.heap[l]? =some (Obj.loop r)→G v (w.putObj l o)
def yV(P:Program)(g:Nat)(lb:Array Value)(G:Value→World→Prop)(W₀:World):Prop:=
 ∀(n l:Nat) (W:World) (R:World→World→Prop),Below W₀.heap.size W₀ W→
  (∀W1 W2,R W1 W2→W1.heap.size≤W2.heap.size∧∀k,W.heap.size≤k→k<W1.heap.size→W2.heap[k]? =W1.heap[k]?)→
  (∀m v W1,Ext W W1→G v W1→YieldAt Fence.wide m P l #[v] W1 fun e W2=>e= .returned (.bool true)∧R W1 W2)→
  CallsIn Fence.wide n P g (#[.func (.yield l) #[] #[]]++lb) W fun e W'=>(∃v,e= .returned v)∧∃W1 W2,Ext W W1∧R W1 W2∧Rest W.heap.size W1.heap.size W2 W'
structure Left (s:Nat) (W1 W3:World):Prop where
 size:W1.heap.size≤W3.heap.size
 block:∀k,s≤k→k<W1.heap.size→W3.heap[k]? =W1.heap[k]?
theorem kT{P:Program}{n:Nat}{g:Operand}{ps:Array Tmp}{assign body:Code}{Q:Exit→Act→World→Prop}{a:Act}{w:World}
    {gf:Nat} {lb:Array Value} (hg:a.eval g= .func (.func gf) #[] lb) (eg:∀args w,(callFunc gf args).run P w= .ok (.enter gf args) w)
    {G:Value→World→Prop} (hG:Calm G) (hGx:∀v W W',G v W→Ext W W'→G v W') {W₀:World} (DB:yV P gf lb G W₀) (hb0:Below W₀.heap.size W₀ w) (hps:ps.size=1) (Rx:World→World→Prop)
    (hround:∀m l v (W1:World),l=w.heap.size+1→(∃r,W1.heap[l]? =some (.loop r))→Ext w W1→G v W1→
      assign.wpIn (Fence.wide.inRound l) m P (Exit.then (fun a₁ Wa=>Ext W1 Wa∧∀Wb,(∃r,Wb.heap[l]? =some (.loop r))→Ext w Wb→Wb.heap.size=Wa.heap.size→(∀k,k≠l→Wb.heap[k]? =Wa.heap[k]?)→G v Wb→
        body.wpIn (Fence.wide.inRound l) m P (Exit.then (fun _ W3=>Left w.heap.size Wb W3∧Rx Wb W3) (fun _ _ _=>False)) a₁ Wb) (fun _ _ _=>False))
        {tmps:=(ps.zip #[v]).foldl (fun t (p,v)=>t.setIfInBounds p v) a.tmps,defers:=[]} W1)
    (hdone:∀(Wb W3 W':World),Ext w Wb→w.heap.size<Wb.heap.size→Wb.heap.size≤W3.heap.size→Rx Wb W3→Rest w.heap.size Wb.heap.size W3 W'→W'.heap[w.heap.size]? =some (.deferred (some []))→Q .normal {a with defers:= {target:=.collected w.heap.size,args:= #[]}::a.defers} W'):
    (Code.rangeFunc g ps assign body).wpIn Fence.wide n P Q a w:=by
  refine wpIn_rangeFunc ?_
  intro fn hfn
  obtain⟨rec,hrec⟩:∃rec:LoopState→Option Code→Loop,rec=fun st pe=> {state:=st,pending:=pe,fn,tmps:=a.tmps,params:=ps,assign,body,defers:=w.heap.size}:=⟨_,rfl⟩
  obtain⟨W1,hW1⟩:∃W1,(w.alloc (.deferred (some []))).alloc (.loop (rec .ready none))=W1:=⟨_,rfl⟩
  have hL1:W1.heap[w.heap.size+1]? =some (.loop (rec .ready none)):=by
    rw[←hW1];have:=World.alloc_heap_new (w.alloc (.deferred (some []))) (.loop (rec .ready none));rwa [World.size_alloc]at this
  have hK1:W1.heap[w.heap.size]? =some (.deferred (some [])):=by
    rw[←hW1];exact(Below.heap_alloc _ _ _ (by simp)).trans (World.alloc_heap_new w _)
  have hz1:W1.heap.size=w.heap.size+2:=by rw[←hW1];simp
  have hE1:Ext w W1:=by rw[←hW1];exact((Ext.refl w).alloc _).alloc _
  have hb1:Below W₀.heap.size W₀ W1:=hb0.trans (Below.mono hE1 hb0.size)
  refine⟨w.heap.size+1,[{target:=.collected w.heap.size,args:= #[]}],W1,{target:=.fn (.func gf) lb,args:= #[.func (.yield (w.heap.size+1)) #[] #[]]},W1,gf,
    #[.func (.yield (w.heap.size+1)) #[] #[]]++lb,W1,?_,?_,?_,?_,fun h=>by simp[Fence.wide]at h,?_⟩
  · rw[←hW1,hrec];exact run_enterLoop_outer _ _ _ _ _
  · simp only[resolve,hg]
    simp[go_sem]
  · intro f' _;trivial
  · simp[invoke,go_sem,eg]
  · refine (DB (n - 1) (w.heap.size + 1) W1 (fun A B => A.heap.size ≤ B.heap.size ∧ (∀ k, W1.heap.size ≤ k → k < A.heap.size → B.heap[k]? = A.heap[k]?) ∧
        ∃Wb W3,Ext w Wb∧A.heap.size≤Wb.heap.size∧Wb.heap.size≤W3.heap.size∧Rx Wb W3∧Rest w.heap.size W1.heap.size W3 B∧B.heap[w.heap.size+1]? =some (.loop (rec .ready none))∧B.heap[w.heap.size]? =some (.deferred (some []))) hb1 (fun A B h=>⟨h.1,h.2.1⟩) ?_).mono ?_
    ·
      intro m v W2 hE2 hv
      have hl:W2.heap[w.heap.size+1]? =some (.loop (rec .ready none)):=(hE2.block _ (by omega)).trans hL1
      have hk:W2.heap[w.heap.size]? =some (.deferred (some [])):=(hE2.block _ (by omega)).trans hK1
      have hlt:w.heap.size+1<W2.heap.size:=(Array.getElem?_eq_some_iff.1 hl).1
      have hy:=run_yield (P:=P) (args:= #[v]) hl (by rw[hrec];exact hps.symm)
      rw[hrec]at hy
      refine⟨fn,_,assign,body,hy,roundIn_of_wpIn hfn (wpIn_mono (hround m _ v W2 rfl ⟨_,hl⟩ (hE1.trans hE2) hv) ?_)⟩
      rintro e a1 Wa he
      cases e with
      |normal=>
        obtain⟨hEa,hb⟩:=he
        have hla:Wa.heap[w.heap.size+1]? =some (.loop (rec .ready none)):=(hEa.block _ hlt).trans hl
        have hlta:w.heap.size+1<Wa.heap.size:=(Array.getElem?_eq_some_iff.1 hla).1
        have hza:=hEa.size
        refine⟨_,run_beginRound hla (by rw[hrec]),?_⟩
        obtain⟨Wb,hWb⟩:∃Wb,Wb=Wa.putObj (w.heap.size+1) (.loop {rec .ready none with state:=.busy}):=⟨_,rfl⟩
        have hl2:Wb.heap[w.heap.size+1]? =some (.loop {rec .ready none with state:=.busy}):=by rw[hWb];exact World.putObj_heap_same hlta
        have hk2:Wb.heap[w.heap.size]? =some (.deferred (some [])):=by rw[hWb];exact(World.putObj_heap_other (by omega)).trans ((hEa.block _ (by omega)).trans hk)
        have hzb:Wb.heap.size=Wa.heap.size:=by rw[hWb];simp
        have hEb:Ext w Wb:=by rw[hWb];exact Gt ((hE1.trans hE2).trans hEa) (by omega)
        have hother:∀k,k≠w.heap.size+1→Wb.heap[k]? =Wa.heap[k]? :=fun k hk=>by rw[hWb];exact World.putObj_heap_other hk
        rw[←hWb]
        refine wpIn_mono (hb Wb ⟨_,hl2⟩ hEb hzb hother (by rw[hWb];exact hG _ _ _ _ _ (hGx _ _ _ hv hEa) hla)) ?_
        rintro e2 a3 W3 hp
        cases e2 with
        |normal=>
          obtain⟨hleft,hrx⟩:=hp
          have hl3:W3.heap[w.heap.size+1]? =some (.loop {rec .ready none with state:=.busy}):=(hleft.block _ (by omega) (by omega)).trans hl2
          have hk3:W3.heap[w.heap.size]? =some (.deferred (some [])):=(hleft.block _ (by omega) (by omega)).trans hk2
          have he:=run_endRound (P:=P) none hl3
          rw[hrec]at he
          have hs3:=hleft.size
          refine⟨_,_,he,rfl,?_,?_,Wb,W3,hEb,by omega,hs3,hrx,?_,?_,?_⟩
          · simp only[World.putObj_size];omega
          · intro k h1 h2
            rw[World.putObj_heap_other (by omega),hleft.block k (by omega) (by omega),hother k (by omega),hEa.block k h2]
          · exact Rest.put hl3 rfl (by omega) (by omega)
          · have:=World.putObj_heap_same (w:=W3) (r:=w.heap.size+1) (o:=.loop (rec .ready none)) (by omega)
            rw[hrec]at this ⊢
            exact this
          · rw[World.putObj_heap_other (by omega)];exact hk3
        |_=>exact hp.elim
      |_=>exact he.elim
    ·
      rintro e W' ⟨⟨v,rfl⟩,A,B,hEA,⟨h1,h2,Wb,W3,k1,k2,k3,k4,k5,k6,k7⟩,hrest⟩
      have hzB:w.heap.size+1<B.heap.size:=(Array.getElem?_eq_some_iff.1 k6).1
      have hzA:=hEA.size
      have hl4:W'.heap[w.heap.size+1]? =some (.loop (rec .ready none)):=(hrest.block _ hzB (by omega)).trans k6
      have hk4:W'.heap[w.heap.size]? =some (.deferred (some [])):=(hrest.block _ (by omega) (by omega)).trans k7
      have he:=run_endLoop (P:=P) hl4 (by rw[hrec];simp)
      rw[hrec]at he
      refine⟨none,_,he,hdone Wb W3 _ k1 (by omega) k3 k4 ?_ ?_⟩
      · refine Rest.trans (k5.wide (Nat.le_refl _) (by omega)) (Rest.trans (hrest.wide (by omega) (by omega)) (Rest.put hl4 rfl (by omega) (by omega)))
      · rw[World.putObj_heap_other (by omega)];exact hk4
end fk
end Go.Proofs.YtnegbdpggideiaaGreatDoor
namespace Go.Proofs.YtnegbdpggideiaaGreatDoor
namespace PW
open Go.RowKit cE Mem
section
variable {P:Program} {ops:Array Oper} {n:Nat}
theorem FU{o:Oper}{a:Act}{w:World}{K K':Act→World→Prop}{Q Q':Exit→Act→World→Prop}(hK:∀a w,K a w→K' a w)(hp:∀c a w,Q (.panic c) a w→Q' (.panic c) a w)(hL:¬LetsOut Q)(h:o.wp P a w K Q):o.wpIn Fence.wide n P a w K' Q':=by
 refine⟨fun _ _=>trivial,?_⟩
 rw[show Fence.wide.round=none from rfl,Oper.semAt_none]
 unfold Oper.wp at h
 generalize (execOp a.eval o).run P w=x at*
 cases x with
 |ok x w'=>
  cases x<;>simp only[Oper.uponIn,Oper.upon]at h ⊢
  case value v=>exact hK _ _ h
  case skip=>exact hK _ _ h
  case defer d=>exact hK _ _ h
  case enter f args=>exact⟨fun h=>by simp[Fence.wide]at h,callsIn_wide.2 (h.mono fun e w'' he=>by cases e<;>first|exact hK _ _ he|exact hp _ _ _ he|exact(hL he).elim)⟩
  case row r args=>exact⟨fun h=>by simp[Fence.wide]at h,fun c cs _=>by
   obtain⟨v,w',r,s⟩:=h c cs
   exact⟨v,w',hK _ _ r,stepsIn_wide.2 s⟩⟩
  all_goals exact h.elim
 |halt x w'=>cases x<;>simp only[Oper.uponIn,Oper.upon]at h ⊢ <;>first|exact hp _ _ _ h|exact h
section
variable {f m:Nat} (hB:yR ops f m=true)
include hB
theorem ny{Q:Exit→Act→World→Prop}:∀(r k:Nat) (a:Act) (w:World),k+r=ops.size→m≤k→wpOpsIn Fence.wide n P ops Q (List.range' k r) a w→wpAnyIn Fence.wide n P .any ops Q r (upto ops.size k) a w
 |0,k,a,w,hk,_,h=>by
  obtain rfl:k=ops.size:=by omega
  exact⟨sP,h⟩
 |r+1,k,a,w,hk,hm,h=>by
  have hr:=qa hB k (by omega) hm
  refine⟨fun h0=>absurd (hr.symm.trans h0) (by simp),fun i hi=>?_⟩
  rw[hr]at hi
  simp at hi
  subst hi
  rw[List.range'_succ,wpOpsIn_cons]at h
  rw[vw]
  exact wpOpIn_mono (fun a w h=>ny r (i+1) a w (by omega) (by omega) h) h
end
def pG(n:Nat)(P:Program)(ops:Array Oper)(Q:Exit→Act→World→Prop)(m r:Nat):Exit→Act→World→Prop
 | .normal,a,w=>wpOpsIn Fence.wide n P ops Q (List.range' m r) a w
 |_,_,_=>False
theorem s5{Q:Exit→Act→World→Prop}{m r:Nat}:¬LetsOut (pG n P ops Q m r):=fun⟨_,_,h⟩=>h
theorem rR{f m:Nat}(hB:yR ops f m=true)(hm:m≤ops.size){Q:Exit→Act→World→Prop}:∀(fuel:Nat) (l₁ ls:Array Bool) (a:Act) (w:World),l₁.size=m→ls.size=ops.size→(∀i,i<m→ls.getD i true=l₁.getD i true)→(∀i,m≤i→i<ops.size→ls.getD i true=false)→Down ops ls→bM ls m=fuel→
  wpAny P .any (ops.extract 0 m) (pG n P ops Q m (ops.size - m)) fuel l₁ a w→wpAnyIn Fence.wide n P .any ops Q (fuel+(ops.size - m)) ls a w:=by
 have hsz:(ops.extract 0 m).size=m:=by simp;omega
 have hget:∀i,i<m→(ops.extract 0 m)[i]? =ops[i]? :=fun i hi=>by rw[Array.getElem?_extract];simp;omega
 have haft:∀i,i<m→ln (ops.extract 0 m) i=ln ops i:=fun i hi=>by unfold ln;rw[hget i hi]
 intro fuel
 induction fuel with
 |zero=>
  intro l₁ ls a w hs1 hs2 hsame hrest hd hu h
  have:ls=upto ops.size m:=by
   apply Array.ext
   ·simp[upto,hs2]
   ·intro i h1 h2
    have hi:i<ops.size:=by omega
    have e:ls.getD i true=(upto ops.size m).getD i true:=by
     rw[ga _ _ _ hi]
     by_cases him:i<m
     ·rw[cT hu i him];simp[him]
     ·rw[hrest i (by omega) hi];simp[him]
    simpa[h1,h2]using e
  rw[this]
  simpa using ny hB (ops.size - m) m a w (by omega) (Nat.le_refl _) h.2
 |succ fuel ih=>
  intro l₁ ls a w hs1 hs2 hsame hrest hd hu h
  have hf:∀b c (i:Nat),i<ops.size→ls.getD i b=ls.getD i c:=fun b c i hi=>by simp[show i<ls.size by omega]
  obtain⟨i0,hi0,hi1,hi2⟩:=fr (ls:=ls) (m:=m) (by omega)
  have hrd:∀i,i∈Region.ready .any ops ls→i<m:=fun i hi=>by
   obtain⟨h1,h2,h3⟩:=cA.1 hi
   rcases Nat.lt_or_ge i m with h'|h'
   ·exact h'
   ·have:=dT hs2 hd (gi hB) f i i0 h1 (oh hB i h1 h' i0 (by omega)) h3
    rw[hf false true i0 (by omega),hi1]at this
    cases this
  have hin:∀i,i∈Region.ready .any ops ls→i∈Region.ready .any (ops.extract 0 m) l₁:=fun i hi=>by
   have him:=hrd i hi
   obtain⟨h1,h2,h3⟩:=cA.1 hi
   refine cA.2 ⟨by omega,by rw[←hsame i him];exact h2,fun k hk=>?_⟩
   rw[haft i him]at hk
   have hki:=gi hB i h1 k hk
   have:=h3 k hk
   rw[hf false true k (by omega),hsame k (by omega)]at this
   simpa[show k<l₁.size by omega]using this
  have hi0r:i0∈Region.ready .any ops ls:=cA.2 ⟨by omega,hi1,fun k hk=>by
   have:=gi hB i0 (by omega) k hk
   rw[hf false true k (by omega)];exact hi2 k this⟩
  rw[show fuel+1+(ops.size - m)=(fuel+(ops.size - m))+1 by omega]
  refine⟨fun h0=>absurd hi0r (by rw[h0];simp),fun i hi=>?_⟩
  have him:=hrd i hi
  obtain⟨h1,h2,h3⟩:=cA.1 hi
  have hstep:=h.2 i (hin i hi)
  have next:∀a w,wpAny P .any (ops.extract 0 m) (pG n P ops Q m (ops.size - m)) fuel (l₁.setIfInBounds i true) a w→wpAnyIn Fence.wide n P .any ops Q (fuel+(ops.size - m)) (ls.setIfInBounds i true) a w:=fun a w hh=>by
   refine ih _ _ a w (by simpa using hs1) (by simpa using hs2) (fun j hj=>?_) (fun j hj hj'=>?_) (fun j hj hj' k hk=>?_) (by have:=fq h2 him (by omega);omega) hh
   ·by_cases e:i=j
    ·subst e;simp[show i<ls.size by omega,show i<l₁.size by omega]
    ·have:=hsame j hj
     simp only[Array.getD_eq_getD_getElem?,Array.getElem?_setIfInBounds_ne e]at this ⊢
     exact this
   ·have:=hrest j hj hj'
    simp only[Array.getD_eq_getD_getElem?,Array.getElem?_setIfInBounds_ne (show i≠j by omega)]at this ⊢
    exact this
   ·by_cases e:i=j
    ·subst e
     have hki:=gi hB i h1 k hk
     have:=h3 k hk
     simp only[Array.getD_eq_getD_getElem?,Array.getElem?_setIfInBounds_ne (show i≠k by omega)]at this ⊢
     exact this
    ·have hj2:ls.getD j true=true:=by
      simp only[Array.getD_eq_getD_getElem?,Array.getElem?_setIfInBounds_ne e]at hj ⊢
      exact hj
     have:=hd j hj2 hj' k hk
     by_cases e2:i=k
     ·subst e2;simp[show i<ls.size by omega]
     ·simp only[Array.getD_eq_getD_getElem?,Array.getElem?_setIfInBounds_ne e2]at this ⊢
      exact this
  unfold wpOp at hstep
  unfold wpOpIn
  rw[hget i him]at hstep
  have ho:ops[i]? =some ops[i]:=by simp[h1]
  rw[ho]at hstep ⊢
  simp only at hstep ⊢
  have hy:Region.wanted ops[i] (yielded (ops.extract 0 m) a.tmps)=Region.wanted ops[i] (yielded ops a.tmps):=by
   unfold Region.wanted
   cases hg:(ops[i]).guard with
   |none=>rfl
   |some g=>
    obtain⟨j,wt⟩:=g
    have:=sS hB i ops[i] j wt ho hg
    simp only[yielded]
    rw[hget j (by omega)]
  rw[hy]at hstep
  split
  ·rename_i hw
   rw[if_pos hw]at hstep
   rcases hstep with hh|⟨hh,hl⟩
   ·exact FU next (fun _ _ _ h=>h.elim) s5 hh
   ·exact absurd hl s5
  ·rename_i hw
   rw[if_neg hw]at hstep
   exact⟨fun _ _=>trivial,next _ _ hstep⟩
theorem rJ{N:Nat}{id:Nat}{l:List Oper}{t t':bZ}{σ:cf}{F:Nat→Prop}{base:Nat}{E:Env}{a:Act}{w:World}{Q:Exit→Act→World→Prop}(m f:Nat)(D:List Nat)(hm:P.follows .mixedOrders=true)(hB:Region.lexB .any (l.take m).toArray=true)
    (hn:((l.take m).all fun o=>o.dst.all fun e=>decide (e<N)&&D.contains e)=true) (hbar:yR l.toArray f m=true) (hml:Nat.ble m l.length=true) (hs:dG F base N ⟨t,σ⟩ E a w)
    (h:dH P N (l.take m).toArray σ (l.take m) t t') (hw:∀a' w',Ext w w'→dG F base N ⟨t',σ⟩ E a' w'→wpOpsIn Fence.wide n P l.toArray Q (List.range' m (l.toArray.size - m)) a' w'):(Code.region id l.toArray true).wpIn Fence.wide n P Q a w:=by
  obtain⟨arr,ds⟩:=a
  have hds:ds=[]:=hs.j7
  have hmle:m≤l.length:=Nat.ble_eq.mp hml
  have hlt:(l.take m).length=m:=by simp;omega
  refine wpIn_region_any hm ?_
  have hfr:=sa (Q:=pG n P l.toArray Q m (l.toArray.size - m)) hs D hB hn h (fun b w' hE hs'=>hw _ _ hE hs')
  have he:l.toArray.extract 0 m=(l.take m).toArray:=by simp
  have := rR (P := P) (n := n) hbar (by simpa using hmle) (Q := Q) m (Array.replicate m false) (Array.replicate l.toArray.size false) ⟨arr, ds⟩ { w with drawn := w.drawn + 1 } (by simp) (by simp) (fun i hi => by rw [eQ _ _ hi, eQ _ _ (by simp; omega)]) (fun i _ hi => eQ _ _ hi _) (fun i hi hi' => by
      have:(Array.replicate l.toArray.size false).getD i true=false:=eQ _ _ hi' _
      rw[this]at hi;cases hi) (by
      have:∀k,k≤l.length→bM (Array.replicate l.toArray.size false) k=k:=by
        intro k
        induction k with
        |zero=>intro _;rfl
        |succ k ih=>
          intro hk
          simp only[bM]
          rw[ih (by omega)]
          have:(Array.replicate l.toArray.size false).getD k true=false:=eQ _ _ (by simp;omega) _
          rw[this];simp
      exact this m hmle) (by rw[he];rw[hlt]at hfr;exact hfr)
  rw[show m+(l.toArray.size - m)=l.toArray.size by simp;omega]at this
  exact this
end
end PW
end Go.Proofs.YtnegbdpggideiaaGreatDoor
namespace Go.Proofs.YtnegbdpggideiaaGreatDoor
namespace PW
open Go.RowKit cE Mem
theorem o5{w w':World}{l:Nat}{r:Loop}(hl:w.heap[l]? =some (.loop r))(ho:∀k,k≠l→w'.heap[k]? =w.heap[k]?){a:Addr}{x:Value}(h:w.cell? a=some x):w'.cell? a=some x:=by
 have hne:a.block≠l:=fun e=>by
  unfold World.cell? at h
  rw[e,hl]at h
  simp at h
 rw[jG (ho _ hne)]
 exact h
theorem cC.other{E:Env}{w w':World}{l:Nat}{r:Loop}(hl:w.heap[l]? =some (.loop r))(hz:w'.heap.size=w.heap.size)(ho:∀k,k≠l→w'.heap[k]? =w.heap[k]?){v:Value}{p:PV}(h:cC E w v p):cC E w' v p:=by
 induction h with
 |any v=>exact .any v
 |raw v=>exact .raw v
 |b7=>exact .b7
 |empty a c h=>exact .empty a c h
 |slice b off n c cs xs h0 h1 h2 hb hM hc hl2 _ ih=>exact .slice b off n c cs xs h0 h1 h2 (by omega) hM (fun i x hx=>o5 hl ho (hc i x hx)) hl2 ih
 |aX b o' off cs xs hb hM hc hl2 _ ih=>exact .aX b o' off cs xs (by omega) hM (fun i x hx=>o5 hl ho (hc i x hx)) hl2 ih
 |agg cs xs hl2 _ ih=>exact .agg cs xs hl2 ih
 |tuple cs xs hl2 _ ih=>exact .tuple cs xs hl2 ih
 |func f cs xs hl2 _ ih=>exact .func f cs xs hl2 ih
 |ptr i off b hi h=>exact .ptr i off b hi h
 |own i hi v h hs=>exact .own i hi v h hs
theorem gZ.other{F:Nat→Prop}{w w':World}{l:Nat}{r:Loop}(hl:w.heap[l]? =some (.loop r))(ho:∀k,k≠l→w'.heap[k]? =w.heap[k]?)(h:gZ F w):gZ F w':=fun g cs hg=>by
 obtain⟨h1,t,fz,h2⟩:=h g cs hg
 have hne:g≠l:=fun e=>by rw[e,hl]at h2;cases h2
 exact⟨h1,t,fz,by rw[ho g hne];exact h2⟩
section
variable {P:Program} {ops:Array Oper} {n:Nat}
theorem C1{lp:Nat}{o:Oper}{a:Act}{w:World}{K K':Act→World→Prop}{Q Q':Exit→Act→World→Prop}(hnd:∀c,o.op≠ .defer c)(hK:∀a w,K a w→K' a w)(hp:∀c a w,Q (.panic c) a w→Q' (.panic c) a w)(hL:¬LetsOut Q)(h:o.wp P a w K Q):o.wpIn (Fence.wide.inRound lp) n P a w K' Q':=by
 refine⟨fun _ _=>trivial,?_⟩
 rw[Fence.inRound_round,Oper.semAt_eq _ _ _ hnd]
 unfold Oper.wp at h
 generalize (execOp a.eval o).run P w=x at*
 cases x with
 |ok x w'=>
  cases x<;>simp only[Oper.uponIn,Oper.upon]at h ⊢
  case value v=>exact hK _ _ h
  case skip=>exact hK _ _ h
  case defer d=>exact hK _ _ h
  case enter f args=>exact⟨fun h=>by simp[Fence.wide]at h,CallsIn.inRound lp (callsIn_wide.2 (h.mono fun e w'' he=>by cases e<;>first|exact hK _ _ he|exact hp _ _ _ he|exact(hL he).elim))⟩
  case row r args=>exact⟨fun h=>by simp[Fence.wide]at h,fun c cs _=>by
   obtain⟨v,w',r,s⟩:=h c cs
   exact⟨v,w',hK _ _ r,stepsIn_wide.2 s⟩⟩
  all_goals exact h.elim
 |halt x w'=>cases x<;>simp only[Oper.uponIn,Oper.upon]at h ⊢ <;>first|exact hp _ _ _ h|exact h
def DY(lp n:Nat)(P:Program)(ops:Array Oper)(Q:Exit→Act→World→Prop)(js:List Nat):Exit→Act→World→Prop
 | .normal,a,w=>wpOpsIn (Fence.wide.inRound lp) n P ops Q js a w
 |_,_,_=>False
theorem sU{lp:Nat}{Q:Exit→Act→World→Prop}{js:List Nat}:¬LetsOut (DY lp n P ops Q js):=fun⟨_,_,h⟩=>h
theorem zi{lp m:Nat}{Q:Exit→Act→World→Prop}{js:List Nat}(hm:m≤ops.size)(hg:∀(i:Nat) o,i<m→ops[i]? =some o→o.guard=none∧∀c,o.op≠ .defer c):∀(is:List Nat) (a:Act) (w:World),(∀i∈is,i<m)→wpOps P (ops.extract 0 m) (DY lp n P ops Q js) is a w→wpOpsIn (Fence.wide.inRound lp) n P ops Q (is++js) a w
 | [],a,w,_,h=>h
 |i::is,a,w,hi,h=>by
  have him:=hi i (by simp)
  have hget:(ops.extract 0 m)[i]? =ops[i]? :=by rw[Array.getElem?_extract];simp;omega
  rw[wpOps_cons]at h
  rw[List.cons_append,wpOpsIn_cons]
  unfold wpOp at h
  unfold wpOpIn
  rw[hget]at h
  have ho:ops[i]? =some ops[i]:=Array.getElem?_eq_getElem (by omega)
  rw[ho]at h ⊢
  simp only at h ⊢
  obtain⟨h1,h2⟩:=hg i _ him ho
  have hw:∀x,Region.wanted ops[i] x=true:=fun x=>by unfold Region.wanted;rw[h1]
  rw[if_pos (hw _)]at h ⊢
  rcases h with h|⟨_,h⟩
  ·exact C1 h2 (fun a' w' h=>zi hm hg is a' w' (fun j hj=>hi j (by simp[hj])) h) (fun _ _ _ h=>h.elim) sU h
  ·exact absurd h sU
theorem mr{lp m id N L:Nat}{l:List Oper}{st:St}{F:Nat→Prop}{base:Nat}{E:Env}{a:Act}{w:World}{Q:Exit→Act→World→Prop}(hm:Nat.ble m l.length=true)(hg:((l.take m).all fun o=>o.guard.isNone&& !uz o.op)=true){K:St→Prop}(hs:dG F base N st E a w)(hL:E.L=L)
  (h:WR P N L (l.take m).toArray (l.take m) st K) (hk:∀s E' a' w',K s→dG F base N s E' a' w'→cP E w E' w'→Below base w w'→wpOpsIn (Fence.wide.inRound lp) n P l.toArray Q (List.range' m (l.length - m)) a' w'):(Code.region id l.toArray false).wpIn (Fence.wide.inRound lp) n P Q a w:=by
 have hmle:m≤l.length:=Nat.ble_eq.mp hm
 have hlt:(l.take m).length=m:=by simp;omega
 refine wpIn_region ?_
 have hr:List.range l.toArray.size=List.range' 0 m++List.range' m (l.length - m):=by
  have h:= @List.range'_append_1 0 m (l.length - m)
  rw[Nat.zero_add,show m+(l.length - m)=l.length by omega]at h
  rw[List.range_eq_range',List.size_toArray]
  exact h.symm
 rw[hr]
 refine zi (m:=m) (by simpa using hmle) (fun i o hi ho=>?_) _ a w (fun i hi=>by simp at hi;omega) ?_
 ·have hmem:o∈l.take m:=by
   have:(l.take m)[i]? =some o:=by rw[List.getElem?_take,if_pos hi];simpa using ho
   exact List.mem_of_getElem? this
  have:=List.all_eq_true.1 hg o hmem
  simp only[Bool.and_eq_true,Option.isNone_iff_eq_none,Bool.not_eq_true']at this
  exact⟨this.1,fun c e=>by rw[e]at this;exact absurd this.2 (by simp[uz])⟩
 ·have he:l.toArray.extract 0 m=(l.take m).toArray:=by simp
  rw[he]
  have:=h F base E w E a w ⟨hL,cP.refl _ _,Below.refl _ _⟩ hs (DY lp n P l.toArray Q (List.range' m (l.length - m))) 0 (fun a' w' ⟨s,E',h1,h2,h3,h4⟩=>hk s E' a' w' h1 h2 h3 h4) (fun j=>by simp)
  rw[hlt]at this
  exact this
theorem lN{F:Fence}(hF:F=Fence.wide∨∃lp,F=Fence.wide.inRound lp){i:Nat}{is:List Nat}{o:Oper}{a:Act}{w:World}{v:Value}{Q:Exit→Act→World→Prop}(ho:ops[i]? =some o)(hg:o.guard=none)(hnd:∀c,o.op≠ .defer c)(hr:(execOp a.eval o).run P w= .ok (.value v) w)(h:wpOpsIn F n P ops Q is (a.put o.dst v) w):wpOpsIn F n P ops Q (i::is) a w:=by
 rw[wpOpsIn_cons]
 unfold wpOpIn
 rw[ho]
 simp only
 rw[if_pos (by unfold Region.wanted;rw[hg])]
 have hsem:o.semAt F.round a.eval=execOp a.eval o:=by
  rcases hF with rfl|⟨lp,rfl⟩
  ·exact Oper.semAt_none _ _
  ·rw[Fence.inRound_round,Oper.semAt_eq _ _ _ hnd]
 refine⟨fun _ _=>?_,?_⟩
 ·rcases hF with rfl|⟨lp,rfl⟩<;>trivial
 ·rw[hsem,hr]
  exact h
theorem A4{lp:Nat}{i l:Nat}{is:List Nat}{o:Oper}{a:Act}{w:World}{Q:Exit→Act→World→Prop}{x y:Operand}{ats:Array TypeId}{R:Ending→World→Prop}(ho:ops[i]? =some o)(hg:o.guard=none)(hop:o.op= .call {callee:=.value x,args:= #[y],argTypes:=ats})
  (hx:a.eval x= .func (.yield l) #[] #[]) (hy:YieldAt Fence.wide (n - 1) P l #[a.eval y] w R) (hR:∀e w',R e w'→∃v,e= .returned v∧wpOpsIn (Fence.wide.inRound lp) n P ops Q is (a.put o.dst v) w'):wpOpsIn (Fence.wide.inRound lp) n P ops Q (i::is) a w:=by
 obtain⟨fn,tmps,assign,body,h1,h2⟩:=hy
 rw[wpOpsIn_cons]
 unfold wpOpIn
 rw[ho]
 simp only
 rw[if_pos (by unfold Region.wanted;rw[hg])]
 refine⟨fun _ _=>trivial,?_⟩
 rw[Fence.inRound_round,Oper.semAt_eq _ _ _ (fun c e=>by rw[hop]at e;cases e)]
 have hr:(execOp a.eval o).run P w= .ok (.round l fn tmps assign body) w:=by
  simp[execOp,hop,resolve,hx,Deferred.ofValue,invoke,h1]
 rw[hr]
 refine⟨fun h=>by simp[Fence.wide]at h,RoundIn.mono h2 fun e w' he=>?_⟩
 obtain⟨v,rfl,hq⟩:=hR e w' he
 exact hq
theorem CY{o:Oper}{a:Act}{w:World}{x:Operand}{ty:TypeId}{q:Bool}(ho:o.op= .unOp .not ty x)(hx:a.eval x= .bool q):(execOp a.eval o).run P w= .ok (.value (.bool (!q))) w:=by
 simp only[execOp,ho,hx,Op.unary,Sem.run_bind,Sem.run_pure,Result.andThen_ok]
theorem Bw{o:Oper}{a:Act}{w:World}{x:Operand}{ty:TypeId}{b:Nat}{c:Value}(ho:o.op= .load ty x)(hk:rO P ty=some none)(hx:a.eval x= .pointer (some ⟨b,0,none⟩))(hc:w.cell? ⟨b,0,none⟩=some c):(execOp a.eval o).run P w= .ok (.value c) w:=by
 have h:=jo (P:=P) hk hc
 simp only[execOp,ho,hx,Sem.run_bind,h,Result.andThen_ok,Sem.run_pure]
theorem ve{o:Oper}{a:Act}{w:World}{x:Operand}(ho:o.op= .assign x):(execOp a.eval o).run P w= .ok (.value (a.eval x)) w:=by
 simp only[execOp,ho,Sem.run_pure]
theorem Sat.other{F:Nat→Prop}{base:Nat}{σ:cf}{E:Env}{w w':World}{l:Nat}{r:Loop}(hl:w.heap[l]? =some (.loop r))(hz:w'.heap.size=w.heap.size)(ho:∀k,k≠l→w'.heap[k]? =w.heap[k]?)(h:Sat F base σ E w):Sat F base σ E w':=by
 have hne:∀ {k:Nat} {o:Obj},w.heap[k]? =some o→(∀r,o≠ .loop r)→k≠l:=fun {k o} hk hr e=>by subst e;rw[hl]at hk;cases hk;exact hr _ rfl
 have hL:∀ {cs:List Value} {xs:List PV},aW E w cs xs→aW E w' cs xs:=fun hr=>⟨hr.1,fun i x u k1 k2=>(hr.2 i x u k1 k2).other hl hz ho⟩
 refine⟨by rw[hz];exact h.bl,fun b hb=>⟨by rw[hz];exact(h.fb b hb).1,(h.fb b hb).2⟩,h.len,h.mm,fun i blk hi=>?_,h.inj,h.gl.other hl ho⟩
 have hb:=h.blk i blk hi
 generalize E.at_ i=v at hb
 cases blk with
 |cells t xs=>
  obtain⟨b',cs,rfl,h1,h2,h3⟩:=hb
  exact⟨b',cs,rfl,h1,(ho b' (hne h2 (fun r e=>by cases e))).trans h2,hL h3⟩
 |row e size n xs=>
  obtain⟨cs,h1,h2⟩:=hb
  refine⟨cs,⟨h1.1,?_⟩,hL h2⟩
  rcases h1.2 with h|⟨g',cap,cur,rfl,k1,k2,k3⟩
  ·exact .inl h
  ·exact .inr ⟨g',cap,cur,rfl,k1,(ho g' (hne k2 (fun r e=>by cases e))).trans k2,k3⟩
 |mp kv=>
  obtain⟨r',es,ck,rfl,h1,h2,h3,h4⟩:=hb
  exact⟨r',es,ck,rfl,h1,(ho r' (hne h2 (fun r e=>by cases e))).trans h2,h3,hL h4⟩
theorem dZ.other{E:Env}{w w':World}{l:Nat}{r:Loop}(hl:w.heap[l]? =some (.loop r))(hz:w'.heap.size=w.heap.size)(ho:∀k,k≠l→w'.heap[k]? =w.heap[k]?){ρ:Operand→Value}{t:bZ}(h:dZ E w ρ t):dZ E w' ρ t:=fun k p hk=>(h k p hk).other hl hz ho
theorem Ax{o:Oper}{a:Act}{w:World}{x:Operand}(ho:o.op= .move x):(execOp a.eval o).run P w= .ok (.value (a.eval x)) w:=by
 simp only[execOp,ho,Sem.run_pure]
theorem uT{o:Oper}{a:Act}{w:World}{op:BinOp}{x y:Operand}{ty tz:TypeId}{c b:Int}{v:Value}(ho:o.op= .binOp op ty x y tz)(hx:a.eval x= .int .i64 c)(hy:a.eval y= .int .i64 b)(hv:(binOp op ty (.int .i64 c) (.int .i64 b)).run P w= .ok v w):(execOp a.eval o).run P w= .ok (.value v) w:=by
 have hg:(eqGuard op ty x y (.int .i64 c) (.int .i64 b)).run P w= .ok () w:=by unfold eqGuard;split<;>rfl
 simp only[execOp,ho,hx,hy,Sem.run_bind,Sem.run_pure,Result.andThen_ok,hg,hv]
end
end PW
end Go.Proofs.YtnegbdpggideiaaGreatDoor
namespace Go.Proofs.YtnegbdpggideiaaGreatDoor
namespace PW
open Go.RowKit Go.Shelf cE Mem Net fk
theorem vP(l:List Int)(hl:l.length≤1000):bU Tryz.prog 144 [aw l] [] (fun r σ'=>r= .own 0∧σ'=[some (.row 3 1 l.length (aP l))]):=by
 refine cr Tryz.func144 rfl Tryz.ntmps144 rfl<|ab (.a 1 rfl<|.k [0] rfl)<|ak<|aR (WR.mono (K:=fun s=>∃b:Bool,s=⟨[(0,aw l),(4,.raw (.bool b))],[]⟩∧(b=true→l=[])) ?_ ?_)
 ·cases l with
  |nil=>exact au 1 rfl<|uA rfl Iz rfl rfl rfl rfl rfl fun b=>aH [0,4] rfl ⟨b,rfl,fun _=>rfl⟩
  |cons a l=>exact au 1 rfl<|bC (nu rfl Iz rfl rfl (Nat.succ_pos _)) rfl rfl rfl<|aH [0,4] rfl ⟨_,rfl,fun h=>by cases h⟩
 rintro _ ⟨b,rfl,hb⟩
 refine ah rfl (fun hc=>?_) (fun hc=>?_)
 ·have:l=[]:=hb hc
  subst this
  refine ab (.a 1 rfl<|.k [2] rfl)<|gM 2 3 1 rfl ?_
  exact aq<|⟨_,az.of rfl,rfl,rfl⟩
 ·refine aj<|aR<|cz (ky rfl (bL.sl.get rfl)) rfl<|au 1 rfl<|cz (bA rfl (bL.rk.get rfl) rfl rfl rfl (show(aP l).length=l.length*1 by simp[aP]) (by unfold maxLen;omega)) rfl<|au 1 rfl<|aH [2] rfl ?_
  refine dp [1] (.cons 2 rfl (Ren.own (i:=0) rfl) .nil) (.kept rfl (.row aE.pure) .nil) rfl rfl ?_
  exact aq<|⟨_,az.of rfl,rfl,by rw[Nat.zero_add];rfl⟩
theorem vZ(l:List Int)(hl:l.length≤1000)(σ:cf):bU Tryz.prog 144 [aw l] σ (fun r σ'=>r= .own σ.length∧σ'=σ++[some (.row 3 1 l.length (aP l))]):=by
 refine bU.frame (bU.mono (vP l hl) ?_)
 rintro r σ' ⟨rfl,rfl⟩
 exact⟨[.row 3 1 l.length (aP l)],rfl,_,_,Up.own rfl,mF.cons (.row kN.pure) mF.nil,by simp,rfl⟩
theorem tT(ys:List PV)(L:List Int):bU Tryz.prog 128 [.aX ys 0,.own 1] [none,some (.row 3 1 L.length (aP L))] (fun r σ'=>r= .func 165 [.ptr 2 0,.ptr 3 0]∧σ'=[none,some (.row 3 1 L.length (aP L)),some (.cells 147 [.aX ys 0]),some (.cells 37 [.own 1])]):=by
 refine cr Tryz.func128 rfl Tryz.ntmps128 rfl<|aR<|cz (fJ (xs:=[_]) rfl rfl rfl) rfl<|cz (fJ (xs:=[_]) rfl rfl rfl) rfl<|au 1 rfl<|aH [2,3] rfl ?_
 exact ab (.a 2 rfl<|.k [4] rfl)<|aq<|⟨_,az.of rfl,rfl,rfl⟩
noncomputable def yl(k:Nat):Code→Option Code
 | .region i ops d=>if i=k then some (.region i ops d) else none
 | .seq x y=>(yl k x).orElse fun _=>yl k y
 | .cond _ x y=>(yl k x).orElse fun _=>yl k y
 | .block _ x=>yl k x
 | .loop x=>yl k x
 |_=>none
noncomputable def IN(f:Func):Code:=f.body.getD .skip
def II(ys:List PV)(pre:List Int)(a:Int)(l:Nat)(s:St):Prop:=
 s.σ=[none,some (.row 3 1 (pre++[a]).length (aP (pre++[a]))),some (.cells 147 [.aX ys 0]),some (.cells 37 [.own 1])]∧Sub s.t [(3,.aX [.raw (.func (.yield l) #[] #[])] 0),(30,num ([a]:List Int).length),(31,num 0),(48,.func 165 [.ptr 2 0,.ptr 3 0])]
noncomputable def Jy:Code:=(yl 6 (IN Tryz.f165)).getD .skip
set_option maxRecDepth 100000 in
set_option maxHeartbeats 8000000 in
theorem Gh(ys:List PV)[aJ ys](pre:List Int)(a:Int)(l n:Nat)(o:Out)(c:Int)(hpl:pre.length+1≤1000):
  W Tryz.prog 55 0 Jy ⟨[(1,.aX [.aX (du n o [.aX ys 0] c) 0] 0),(2,.aX [aw pre] 0),(3,.aX [.raw (.func (.yield l) #[] #[])] 0),(4,num 0),(5,num a),(30,num ([a]:List Int).length),(31,num 0)],[]⟩ (Hi (II ys pre a l)):=by
 have hic:=vZ pre (by omega) []
 have hbr:=tT ys (pre++[a])
 refine wB mixed ?_
 ·refine uv [[(1,.aX [.aX (du n o [.aX ys 0] c) 0] 0),(2,.aX [aw pre] 0),(3,.aX [.raw (.func (.yield l) #[] #[])] 0),(4,num 0),(5,num a),(30,num ([a]:List Int).length),(31,num 0),(36,.aX (du n o [.aX ys 0] c) 0),(37,.aX (du n o [.aX ys 0] c) 0),(38,.aX (du n o [.aX ys 0] c) 3),(39,.slice 1 [.aX ys 0]),(40,num 0),(41,.aX [.aX ys 0] 0),(42,.aX ys 0),(43,aw pre),(44,.own 0),(45,num a),(46,.slice 1 [num a]),(47,.own 1),(48,.func 165 [.ptr 2 0,.ptr 3 0])]] [[],[some (.row 3 1 pre.length (aP pre))],[none,some (.row 3 1 (pre++[a]).length (aP (pre++[a])))],[none,some (.row 3 1 (pre++[a]).length (aP (pre++[a]))),some (.cells 147 [.aX ys 0]),some (.cells 37 [.own 1])]] [1,2,3,4,5,30,31] rfl (by kernel_rfl) (fun M hi ho=>?_)
  have μ0:M 0 8191 0 [3,30,31,48] 3:=hi<|qb rfl (by kernel_rfl) (⟨rfl,bm (ks:=[3,30,31,48]) rfl⟩)
  have μ1:M 1 4095 0 [3,30,31,42,47] 2:=hi<|aa [(12,8191)] rfl (by kernel_rfl)<|eC rfl rfl rfl rfl hbr (ho μ0) rfl rfl af
  have μ2:M 2 2047 0 [3,30,31,42,44,46] 1:=hi<|aa [(11,4095)] rfl (by kernel_rfl)<|bX rfl rfl (cI.to (σ:=[some (.row 3 1 pre.length (aP pre))]) (p':=.own 1) (σ'':=[none,some (.row 3 1 (pre++[a]).length (aP (pre++[a])))]) (bA (e:=3) (s:=1) (by':=8) (i:=0) (m:=1) (n:=pre.length) (xs:=aP pre) (ys:=[num a]) rfl (bL.rk.get rfl) rfl rfl rfl rfl ⟨by unfold maxLen;omega,by omega⟩) rfl (by rw[List.length_append,←cK];rfl)) rfl (ho μ1) rfl rfl af
  have μ3:M 3 1023 0 [3,30,31,42,44,45] 1:=hi<|aa [(10,2047)] rfl (by kernel_rfl)<|bc rfl rfl (aQ (xs:=[num a]) rfl (bL.sl.get rfl) ⟨Nat.le_of_ble_eq_true rfl,Nat.le_of_ble_eq_true rfl⟩ rfl rfl) rfl (ho μ2) rfl rfl af
  have μ4:M 4 511 0 [3,5,30,31,42,44] 1:=hi<|aa [(9,1023)] rfl (by kernel_rfl)<|ag (ho μ3) rfl rfl af
  have μ5:M 3 1791 0 [3,30,31,42,43,46] 0:=hi<|aa [(8,2047)] rfl (by kernel_rfl)<|eC rfl rfl rfl rfl hic (ho μ2) rfl rfl af
  have μ6:M 4 767 0 [3,30,31,42,43,45] 0:=hi<|aa [(8,1023),(10,1791)] rfl (by kernel_rfl)<|eC rfl rfl rfl rfl hic (ho μ3) rfl rfl<|bc rfl rfl (aQ (xs:=[num a]) rfl (bL.sl.get rfl) ⟨Nat.le_of_ble_eq_true rfl,Nat.le_of_ble_eq_true rfl⟩ rfl rfl) rfl (ho μ5) rfl rfl af
  have μ7:M 5 255 0 [3,5,30,31,42,43] 0:=hi<|aa [(8,511),(9,767)] rfl (by kernel_rfl)<|eC rfl rfl rfl rfl hic (ho μ4) rfl rfl<|ag (ho μ6) rfl rfl af
  have μ8:M 4 1663 0 [2,3,30,31,42,46] 0:=hi<|aa [(7,1791)] rfl (by kernel_rfl)<|ag (ho μ5) rfl rfl af
  have μ9:M 5 639 0 [2,3,30,31,42,45] 0:=hi<|aa [(7,767),(10,1663)] rfl (by kernel_rfl)<|ag (ho μ6) rfl rfl<|bc rfl rfl (aQ (xs:=[num a]) rfl (bL.sl.get rfl) ⟨Nat.le_of_ble_eq_true rfl,Nat.le_of_ble_eq_true rfl⟩ rfl rfl) rfl (ho μ8) rfl rfl af
  have μ10:M 6 127 0 [2,3,5,30,31,42] 0:=hi<|aa [(7,255),(9,639)] rfl (by kernel_rfl)<|ag (ho μ7) rfl rfl<|ag (ho μ9) rfl rfl af
  have μ11:M 2 4031 0 [3,30,31,41,47] 2:=hi<|aa [(6,4095)] rfl (by kernel_rfl)<|bc rfl rfl (aO rfl ((rfl:([PV.aX ys 0]:List PV)[0]? =some (.aX ys 0)))) rfl (ho μ1) rfl rfl af
  have μ12:M 3 1983 0 [3,30,31,41,44,46] 1:=hi<|aa [(6,2047),(11,4031)] rfl (by kernel_rfl)<|bc rfl rfl (aO rfl ((rfl:([PV.aX ys 0]:List PV)[0]? =some (.aX ys 0)))) rfl (ho μ2) rfl rfl<|bX rfl rfl (cI.to (σ:=[some (.row 3 1 pre.length (aP pre))]) (p':=.own 1) (σ'':=[none,some (.row 3 1 (pre++[a]).length (aP (pre++[a])))]) (bA (e:=3) (s:=1) (by':=8) (i:=0) (m:=1) (n:=pre.length) (xs:=aP pre) (ys:=[num a]) rfl (bL.rk.get rfl) rfl rfl rfl rfl ⟨by unfold maxLen;omega,by omega⟩) rfl (by rw[List.length_append,←cK];rfl)) rfl (ho μ11) rfl rfl af
  have μ13:M 4 959 0 [3,30,31,41,44,45] 1:=hi<|aa [(6,1023),(10,1983)] rfl (by kernel_rfl)<|bc rfl rfl (aO rfl ((rfl:([PV.aX ys 0]:List PV)[0]? =some (.aX ys 0)))) rfl (ho μ3) rfl rfl<|bc rfl rfl (aQ (xs:=[num a]) rfl (bL.sl.get rfl) ⟨Nat.le_of_ble_eq_true rfl,Nat.le_of_ble_eq_true rfl⟩ rfl rfl) rfl (ho μ12) rfl rfl af
  have μ14:M 5 447 0 [3,5,30,31,41,44] 1:=hi<|aa [(6,511),(9,959)] rfl (by kernel_rfl)<|bc rfl rfl (aO rfl ((rfl:([PV.aX ys 0]:List PV)[0]? =some (.aX ys 0)))) rfl (ho μ4) rfl rfl<|ag (ho μ13) rfl rfl af
  have μ15:M 4 1727 0 [3,30,31,41,43,46] 0:=hi<|aa [(6,1791),(8,1983)] rfl (by kernel_rfl)<|bc rfl rfl (aO rfl ((rfl:([PV.aX ys 0]:List PV)[0]? =some (.aX ys 0)))) rfl (ho μ5) rfl rfl<|eC rfl rfl rfl rfl hic (ho μ12) rfl rfl af
  have μ16:M 5 703 0 [3,30,31,41,43,45] 0:=hi<|aa [(6,767),(8,959),(10,1727)] rfl (by kernel_rfl)<|bc rfl rfl (aO rfl ((rfl:([PV.aX ys 0]:List PV)[0]? =some (.aX ys 0)))) rfl (ho μ6) rfl rfl<|eC rfl rfl rfl rfl hic (ho μ13) rfl rfl<|bc rfl rfl (aQ (xs:=[num a]) rfl (bL.sl.get rfl) ⟨Nat.le_of_ble_eq_true rfl,Nat.le_of_ble_eq_true rfl⟩ rfl rfl) rfl (ho μ15) rfl rfl af
  have μ17:M 6 191 0 [3,5,30,31,41,43] 0:=hi<|aa [(6,255),(8,447),(9,703)] rfl (by kernel_rfl)<|bc rfl rfl (aO rfl ((rfl:([PV.aX ys 0]:List PV)[0]? =some (.aX ys 0)))) rfl (ho μ7) rfl rfl<|eC rfl rfl rfl rfl hic (ho μ14) rfl rfl<|ag (ho μ16) rfl rfl af
  have μ18:M 5 1599 0 [2,3,30,31,41,46] 0:=hi<|aa [(6,1663),(7,1727)] rfl (by kernel_rfl)<|bc rfl rfl (aO rfl ((rfl:([PV.aX ys 0]:List PV)[0]? =some (.aX ys 0)))) rfl (ho μ8) rfl rfl<|ag (ho μ15) rfl rfl af
  have μ19:M 6 575 0 [2,3,30,31,41,45] 0:=hi<|aa [(6,639),(7,703),(10,1599)] rfl (by kernel_rfl)<|bc rfl rfl (aO rfl ((rfl:([PV.aX ys 0]:List PV)[0]? =some (.aX ys 0)))) rfl (ho μ9) rfl rfl<|ag (ho μ16) rfl rfl<|bc rfl rfl (aQ (xs:=[num a]) rfl (bL.sl.get rfl) ⟨Nat.le_of_ble_eq_true rfl,Nat.le_of_ble_eq_true rfl⟩ rfl rfl) rfl (ho μ18) rfl rfl af
  have μ20:M 7 63 0 [2,3,5,30,31,41] 0:=hi<|aa [(6,127),(7,191),(9,575)] rfl (by kernel_rfl)<|bc rfl rfl (aO rfl ((rfl:([PV.aX ys 0]:List PV)[0]? =some (.aX ys 0)))) rfl (ho μ10) rfl rfl<|ag (ho μ17) rfl rfl<|ag (ho μ19) rfl rfl af
  have μ21:M 3 3999 0 [3,30,31,39,40,47] 2:=hi<|aa [(5,4031)] rfl (by kernel_rfl)<|bc rfl rfl (aM (0) rfl (by simp) (by simp)) rfl (ho μ11) rfl rfl af
  have μ22:M 4 1951 0 [3,30,31,39,40,44,46] 1:=hi<|aa [(5,1983),(11,3999)] rfl (by kernel_rfl)<|bc rfl rfl (aM (0) rfl (by simp) (by simp)) rfl (ho μ12) rfl rfl<|bX rfl rfl (cI.to (σ:=[some (.row 3 1 pre.length (aP pre))]) (p':=.own 1) (σ'':=[none,some (.row 3 1 (pre++[a]).length (aP (pre++[a])))]) (bA (e:=3) (s:=1) (by':=8) (i:=0) (m:=1) (n:=pre.length) (xs:=aP pre) (ys:=[num a]) rfl (bL.rk.get rfl) rfl rfl rfl rfl ⟨by unfold maxLen;omega,by omega⟩) rfl (by rw[List.length_append,←cK];rfl)) rfl (ho μ21) rfl rfl af
  have μ23:M 5 927 0 [3,30,31,39,40,44,45] 1:=hi<|aa [(5,959),(10,1951)] rfl (by kernel_rfl)<|bc rfl rfl (aM (0) rfl (by simp) (by simp)) rfl (ho μ13) rfl rfl<|bc rfl rfl (aQ (xs:=[num a]) rfl (bL.sl.get rfl) ⟨Nat.le_of_ble_eq_true rfl,Nat.le_of_ble_eq_true rfl⟩ rfl rfl) rfl (ho μ22) rfl rfl af
  have μ24:M 6 415 0 [3,5,30,31,39,40,44] 1:=hi<|aa [(5,447),(9,927)] rfl (by kernel_rfl)<|bc rfl rfl (aM (0) rfl (by simp) (by simp)) rfl (ho μ14) rfl rfl<|ag (ho μ23) rfl rfl af
  have μ25:M 5 1695 0 [3,30,31,39,40,43,46] 0:=hi<|aa [(5,1727),(8,1951)] rfl (by kernel_rfl)<|bc rfl rfl (aM (0) rfl (by simp) (by simp)) rfl (ho μ15) rfl rfl<|eC rfl rfl rfl rfl hic (ho μ22) rfl rfl af
  have μ26:M 6 671 0 [3,30,31,39,40,43,45] 0:=hi<|aa [(5,703),(8,927),(10,1695)] rfl (by kernel_rfl)<|bc rfl rfl (aM (0) rfl (by simp) (by simp)) rfl (ho μ16) rfl rfl<|eC rfl rfl rfl rfl hic (ho μ23) rfl rfl<|bc rfl rfl (aQ (xs:=[num a]) rfl (bL.sl.get rfl) ⟨Nat.le_of_ble_eq_true rfl,Nat.le_of_ble_eq_true rfl⟩ rfl rfl) rfl (ho μ25) rfl rfl af
  have μ27:M 7 159 0 [3,5,30,31,39,40,43] 0:=hi<|aa [(5,191),(8,415),(9,671)] rfl (by kernel_rfl)<|bc rfl rfl (aM (0) rfl (by simp) (by simp)) rfl (ho μ17) rfl rfl<|eC rfl rfl rfl rfl hic (ho μ24) rfl rfl<|ag (ho μ26) rfl rfl af
  have μ28:M 6 1567 0 [2,3,30,31,39,40,46] 0:=hi<|aa [(5,1599),(7,1695)] rfl (by kernel_rfl)<|bc rfl rfl (aM (0) rfl (by simp) (by simp)) rfl (ho μ18) rfl rfl<|ag (ho μ25) rfl rfl af
  have μ29:M 7 543 0 [2,3,30,31,39,40,45] 0:=hi<|aa [(5,575),(7,671),(10,1567)] rfl (by kernel_rfl)<|bc rfl rfl (aM (0) rfl (by simp) (by simp)) rfl (ho μ19) rfl rfl<|ag (ho μ26) rfl rfl<|bc rfl rfl (aQ (xs:=[num a]) rfl (bL.sl.get rfl) ⟨Nat.le_of_ble_eq_true rfl,Nat.le_of_ble_eq_true rfl⟩ rfl rfl) rfl (ho μ28) rfl rfl af
  have μ30:M 8 31 0 [2,3,5,30,31,39,40] 0:=hi<|aa [(5,63),(7,159),(9,543)] rfl (by kernel_rfl)<|bc rfl rfl (aM (0) rfl (by simp) (by simp)) rfl (ho μ20) rfl rfl<|ag (ho μ27) rfl rfl<|ag (ho μ29) rfl rfl af
  have μ31:M 4 3983 0 [3,4,30,31,39,47] 2:=hi<|aa [(4,3999)] rfl (by kernel_rfl)<|ag (ho μ21) rfl rfl af
  have μ32:M 5 1935 0 [3,4,30,31,39,44,46] 1:=hi<|aa [(4,1951),(11,3983)] rfl (by kernel_rfl)<|ag (ho μ22) rfl rfl<|bX rfl rfl (cI.to (σ:=[some (.row 3 1 pre.length (aP pre))]) (p':=.own 1) (σ'':=[none,some (.row 3 1 (pre++[a]).length (aP (pre++[a])))]) (bA (e:=3) (s:=1) (by':=8) (i:=0) (m:=1) (n:=pre.length) (xs:=aP pre) (ys:=[num a]) rfl (bL.rk.get rfl) rfl rfl rfl rfl ⟨by unfold maxLen;omega,by omega⟩) rfl (by rw[List.length_append,←cK];rfl)) rfl (ho μ31) rfl rfl af
  have μ33:M 6 911 0 [3,4,30,31,39,44,45] 1:=hi<|aa [(4,927),(10,1935)] rfl (by kernel_rfl)<|ag (ho μ23) rfl rfl<|bc rfl rfl (aQ (xs:=[num a]) rfl (bL.sl.get rfl) ⟨Nat.le_of_ble_eq_true rfl,Nat.le_of_ble_eq_true rfl⟩ rfl rfl) rfl (ho μ32) rfl rfl af
  have μ34:M 7 399 0 [3,4,5,30,31,39,44] 1:=hi<|aa [(4,415),(9,911)] rfl (by kernel_rfl)<|ag (ho μ24) rfl rfl<|ag (ho μ33) rfl rfl af
  have μ35:M 6 1679 0 [3,4,30,31,39,43,46] 0:=hi<|aa [(4,1695),(8,1935)] rfl (by kernel_rfl)<|ag (ho μ25) rfl rfl<|eC rfl rfl rfl rfl hic (ho μ32) rfl rfl af
  have μ36:M 7 655 0 [3,4,30,31,39,43,45] 0:=hi<|aa [(4,671),(8,911),(10,1679)] rfl (by kernel_rfl)<|ag (ho μ26) rfl rfl<|eC rfl rfl rfl rfl hic (ho μ33) rfl rfl<|bc rfl rfl (aQ (xs:=[num a]) rfl (bL.sl.get rfl) ⟨Nat.le_of_ble_eq_true rfl,Nat.le_of_ble_eq_true rfl⟩ rfl rfl) rfl (ho μ35) rfl rfl af
  have μ37:M 8 143 0 [3,4,5,30,31,39,43] 0:=hi<|aa [(4,159),(8,399),(9,655)] rfl (by kernel_rfl)<|ag (ho μ27) rfl rfl<|eC rfl rfl rfl rfl hic (ho μ34) rfl rfl<|ag (ho μ36) rfl rfl af
  have μ38:M 7 1551 0 [2,3,4,30,31,39,46] 0:=hi<|aa [(4,1567),(7,1679)] rfl (by kernel_rfl)<|ag (ho μ28) rfl rfl<|ag (ho μ35) rfl rfl af
  have μ39:M 8 527 0 [2,3,4,30,31,39,45] 0:=hi<|aa [(4,543),(7,655),(10,1551)] rfl (by kernel_rfl)<|ag (ho μ29) rfl rfl<|ag (ho μ36) rfl rfl<|bc rfl rfl (aQ (xs:=[num a]) rfl (bL.sl.get rfl) ⟨Nat.le_of_ble_eq_true rfl,Nat.le_of_ble_eq_true rfl⟩ rfl rfl) rfl (ho μ38) rfl rfl af
  have μ40:M 9 15 0 [2,3,4,5,30,31,39] 0:=hi<|aa [(4,31),(7,143),(9,527)] rfl (by kernel_rfl)<|ag (ho μ30) rfl rfl<|ag (ho μ37) rfl rfl<|ag (ho μ39) rfl rfl af
  have μ41:M 4 3991 0 [3,30,31,38,40,47] 2:=hi<|aa [(3,3999)] rfl (by kernel_rfl)<|ag (ho μ21) rfl rfl af
  have μ42:M 5 1943 0 [3,30,31,38,40,44,46] 1:=hi<|aa [(3,1951),(11,3991)] rfl (by kernel_rfl)<|ag (ho μ22) rfl rfl<|bX rfl rfl (cI.to (σ:=[some (.row 3 1 pre.length (aP pre))]) (p':=.own 1) (σ'':=[none,some (.row 3 1 (pre++[a]).length (aP (pre++[a])))]) (bA (e:=3) (s:=1) (by':=8) (i:=0) (m:=1) (n:=pre.length) (xs:=aP pre) (ys:=[num a]) rfl (bL.rk.get rfl) rfl rfl rfl rfl ⟨by unfold maxLen;omega,by omega⟩) rfl (by rw[List.length_append,←cK];rfl)) rfl (ho μ41) rfl rfl af
  have μ43:M 6 919 0 [3,30,31,38,40,44,45] 1:=hi<|aa [(3,927),(10,1943)] rfl (by kernel_rfl)<|ag (ho μ23) rfl rfl<|bc rfl rfl (aQ (xs:=[num a]) rfl (bL.sl.get rfl) ⟨Nat.le_of_ble_eq_true rfl,Nat.le_of_ble_eq_true rfl⟩ rfl rfl) rfl (ho μ42) rfl rfl af
  have μ44:M 7 407 0 [3,5,30,31,38,40,44] 1:=hi<|aa [(3,415),(9,919)] rfl (by kernel_rfl)<|ag (ho μ24) rfl rfl<|ag (ho μ43) rfl rfl af
  have μ45:M 6 1687 0 [3,30,31,38,40,43,46] 0:=hi<|aa [(3,1695),(8,1943)] rfl (by kernel_rfl)<|ag (ho μ25) rfl rfl<|eC rfl rfl rfl rfl hic (ho μ42) rfl rfl af
  have μ46:M 7 663 0 [3,30,31,38,40,43,45] 0:=hi<|aa [(3,671),(8,919),(10,1687)] rfl (by kernel_rfl)<|ag (ho μ26) rfl rfl<|eC rfl rfl rfl rfl hic (ho μ43) rfl rfl<|bc rfl rfl (aQ (xs:=[num a]) rfl (bL.sl.get rfl) ⟨Nat.le_of_ble_eq_true rfl,Nat.le_of_ble_eq_true rfl⟩ rfl rfl) rfl (ho μ45) rfl rfl af
  have μ47:M 8 151 0 [3,5,30,31,38,40,43] 0:=hi<|aa [(3,159),(8,407),(9,663)] rfl (by kernel_rfl)<|ag (ho μ27) rfl rfl<|eC rfl rfl rfl rfl hic (ho μ44) rfl rfl<|ag (ho μ46) rfl rfl af
  have μ48:M 7 1559 0 [2,3,30,31,38,40,46] 0:=hi<|aa [(3,1567),(7,1687)] rfl (by kernel_rfl)<|ag (ho μ28) rfl rfl<|ag (ho μ45) rfl rfl af
  have μ49:M 8 535 0 [2,3,30,31,38,40,45] 0:=hi<|aa [(3,543),(7,663),(10,1559)] rfl (by kernel_rfl)<|ag (ho μ29) rfl rfl<|ag (ho μ46) rfl rfl<|bc rfl rfl (aQ (xs:=[num a]) rfl (bL.sl.get rfl) ⟨Nat.le_of_ble_eq_true rfl,Nat.le_of_ble_eq_true rfl⟩ rfl rfl) rfl (ho μ48) rfl rfl af
  have μ50:M 9 23 0 [2,3,5,30,31,38,40] 0:=hi<|aa [(3,31),(7,151),(9,535)] rfl (by kernel_rfl)<|ag (ho μ30) rfl rfl<|ag (ho μ47) rfl rfl<|ag (ho μ49) rfl rfl af
  have μ51:M 5 3975 0 [3,4,30,31,38,47] 2:=hi<|aa [(3,3983),(4,3991)] rfl (by kernel_rfl)<|ag (ho μ31) rfl rfl<|ag (ho μ41) rfl rfl af
  have μ52:M 6 1927 0 [3,4,30,31,38,44,46] 1:=hi<|aa [(3,1935),(4,1943),(11,3975)] rfl (by kernel_rfl)<|ag (ho μ32) rfl rfl<|ag (ho μ42) rfl rfl<|bX rfl rfl (cI.to (σ:=[some (.row 3 1 pre.length (aP pre))]) (p':=.own 1) (σ'':=[none,some (.row 3 1 (pre++[a]).length (aP (pre++[a])))]) (bA (e:=3) (s:=1) (by':=8) (i:=0) (m:=1) (n:=pre.length) (xs:=aP pre) (ys:=[num a]) rfl (bL.rk.get rfl) rfl rfl rfl rfl ⟨by unfold maxLen;omega,by omega⟩) rfl (by rw[List.length_append,←cK];rfl)) rfl (ho μ51) rfl rfl af
  have μ53:M 7 903 0 [3,4,30,31,38,44,45] 1:=hi<|aa [(3,911),(4,919),(10,1927)] rfl (by kernel_rfl)<|ag (ho μ33) rfl rfl<|ag (ho μ43) rfl rfl<|bc rfl rfl (aQ (xs:=[num a]) rfl (bL.sl.get rfl) ⟨Nat.le_of_ble_eq_true rfl,Nat.le_of_ble_eq_true rfl⟩ rfl rfl) rfl (ho μ52) rfl rfl af
  have μ54:M 8 391 0 [3,4,5,30,31,38,44] 1:=hi<|aa [(3,399),(4,407),(9,903)] rfl (by kernel_rfl)<|ag (ho μ34) rfl rfl<|ag (ho μ44) rfl rfl<|ag (ho μ53) rfl rfl af
  have μ55:M 7 1671 0 [3,4,30,31,38,43,46] 0:=hi<|aa [(3,1679),(4,1687),(8,1927)] rfl (by kernel_rfl)<|ag (ho μ35) rfl rfl<|ag (ho μ45) rfl rfl<|eC rfl rfl rfl rfl hic (ho μ52) rfl rfl af
  have μ56:M 8 647 0 [3,4,30,31,38,43,45] 0:=hi<|aa [(3,655),(4,663),(8,903),(10,1671)] rfl (by kernel_rfl)<|ag (ho μ36) rfl rfl<|ag (ho μ46) rfl rfl<|eC rfl rfl rfl rfl hic (ho μ53) rfl rfl<|bc rfl rfl (aQ (xs:=[num a]) rfl (bL.sl.get rfl) ⟨Nat.le_of_ble_eq_true rfl,Nat.le_of_ble_eq_true rfl⟩ rfl rfl) rfl (ho μ55) rfl rfl af
  have μ57:M 9 135 0 [3,4,5,30,31,38,43] 0:=hi<|aa [(3,143),(4,151),(8,391),(9,647)] rfl (by kernel_rfl)<|ag (ho μ37) rfl rfl<|ag (ho μ47) rfl rfl<|eC rfl rfl rfl rfl hic (ho μ54) rfl rfl<|ag (ho μ56) rfl rfl af
  have μ58:M 8 1543 0 [2,3,4,30,31,38,46] 0:=hi<|aa [(3,1551),(4,1559),(7,1671)] rfl (by kernel_rfl)<|ag (ho μ38) rfl rfl<|ag (ho μ48) rfl rfl<|ag (ho μ55) rfl rfl af
  have μ59:M 9 519 0 [2,3,4,30,31,38,45] 0:=hi<|aa [(3,527),(4,535),(7,647),(10,1543)] rfl (by kernel_rfl)<|ag (ho μ39) rfl rfl<|ag (ho μ49) rfl rfl<|ag (ho μ56) rfl rfl<|bc rfl rfl (aQ (xs:=[num a]) rfl (bL.sl.get rfl) ⟨Nat.le_of_ble_eq_true rfl,Nat.le_of_ble_eq_true rfl⟩ rfl rfl) rfl (ho μ58) rfl rfl af
  have μ60:M 10 7 0 [2,3,4,5,30,31,38] 0:=hi<|aa [(3,15),(4,23),(7,135),(9,519)] rfl (by kernel_rfl)<|ag (ho μ40) rfl rfl<|ag (ho μ50) rfl rfl<|ag (ho μ57) rfl rfl<|ag (ho μ59) rfl rfl af
  have μ61:M 5 3987 0 [3,30,31,37,40,47] 2:=hi<|aa [(2,3991)] rfl (by kernel_rfl)<|ag (ho μ41) rfl rfl af
  have μ62:M 6 1939 0 [3,30,31,37,40,44,46] 1:=hi<|aa [(2,1943),(11,3987)] rfl (by kernel_rfl)<|ag (ho μ42) rfl rfl<|bX rfl rfl (cI.to (σ:=[some (.row 3 1 pre.length (aP pre))]) (p':=.own 1) (σ'':=[none,some (.row 3 1 (pre++[a]).length (aP (pre++[a])))]) (bA (e:=3) (s:=1) (by':=8) (i:=0) (m:=1) (n:=pre.length) (xs:=aP pre) (ys:=[num a]) rfl (bL.rk.get rfl) rfl rfl rfl rfl ⟨by unfold maxLen;omega,by omega⟩) rfl (by rw[List.length_append,←cK];rfl)) rfl (ho μ61) rfl rfl af
  have μ63:M 7 915 0 [3,30,31,37,40,44,45] 1:=hi<|aa [(2,919),(10,1939)] rfl (by kernel_rfl)<|ag (ho μ43) rfl rfl<|bc rfl rfl (aQ (xs:=[num a]) rfl (bL.sl.get rfl) ⟨Nat.le_of_ble_eq_true rfl,Nat.le_of_ble_eq_true rfl⟩ rfl rfl) rfl (ho μ62) rfl rfl af
  have μ64:M 8 403 0 [3,5,30,31,37,40,44] 1:=hi<|aa [(2,407),(9,915)] rfl (by kernel_rfl)<|ag (ho μ44) rfl rfl<|ag (ho μ63) rfl rfl af
  have μ65:M 7 1683 0 [3,30,31,37,40,43,46] 0:=hi<|aa [(2,1687),(8,1939)] rfl (by kernel_rfl)<|ag (ho μ45) rfl rfl<|eC rfl rfl rfl rfl hic (ho μ62) rfl rfl af
  have μ66:M 8 659 0 [3,30,31,37,40,43,45] 0:=hi<|aa [(2,663),(8,915),(10,1683)] rfl (by kernel_rfl)<|ag (ho μ46) rfl rfl<|eC rfl rfl rfl rfl hic (ho μ63) rfl rfl<|bc rfl rfl (aQ (xs:=[num a]) rfl (bL.sl.get rfl) ⟨Nat.le_of_ble_eq_true rfl,Nat.le_of_ble_eq_true rfl⟩ rfl rfl) rfl (ho μ65) rfl rfl af
  have μ67:M 9 147 0 [3,5,30,31,37,40,43] 0:=hi<|aa [(2,151),(8,403),(9,659)] rfl (by kernel_rfl)<|ag (ho μ47) rfl rfl<|eC rfl rfl rfl rfl hic (ho μ64) rfl rfl<|ag (ho μ66) rfl rfl af
  have μ68:M 8 1555 0 [2,3,30,31,37,40,46] 0:=hi<|aa [(2,1559),(7,1683)] rfl (by kernel_rfl)<|ag (ho μ48) rfl rfl<|ag (ho μ65) rfl rfl af
  have μ69:M 9 531 0 [2,3,30,31,37,40,45] 0:=hi<|aa [(2,535),(7,659),(10,1555)] rfl (by kernel_rfl)<|ag (ho μ49) rfl rfl<|ag (ho μ66) rfl rfl<|bc rfl rfl (aQ (xs:=[num a]) rfl (bL.sl.get rfl) ⟨Nat.le_of_ble_eq_true rfl,Nat.le_of_ble_eq_true rfl⟩ rfl rfl) rfl (ho μ68) rfl rfl af
  have μ70:M 10 19 0 [2,3,5,30,31,37,40] 0:=hi<|aa [(2,23),(7,147),(9,531)] rfl (by kernel_rfl)<|ag (ho μ50) rfl rfl<|ag (ho μ67) rfl rfl<|ag (ho μ69) rfl rfl af
  have μ71:M 6 3971 0 [3,4,30,31,37,47] 2:=hi<|aa [(2,3975),(4,3987)] rfl (by kernel_rfl)<|ag (ho μ51) rfl rfl<|ag (ho μ61) rfl rfl af
  have μ72:M 7 1923 0 [3,4,30,31,37,44,46] 1:=hi<|aa [(2,1927),(4,1939),(11,3971)] rfl (by kernel_rfl)<|ag (ho μ52) rfl rfl<|ag (ho μ62) rfl rfl<|bX rfl rfl (cI.to (σ:=[some (.row 3 1 pre.length (aP pre))]) (p':=.own 1) (σ'':=[none,some (.row 3 1 (pre++[a]).length (aP (pre++[a])))]) (bA (e:=3) (s:=1) (by':=8) (i:=0) (m:=1) (n:=pre.length) (xs:=aP pre) (ys:=[num a]) rfl (bL.rk.get rfl) rfl rfl rfl rfl ⟨by unfold maxLen;omega,by omega⟩) rfl (by rw[List.length_append,←cK];rfl)) rfl (ho μ71) rfl rfl af
  have μ73:M 8 899 0 [3,4,30,31,37,44,45] 1:=hi<|aa [(2,903),(4,915),(10,1923)] rfl (by kernel_rfl)<|ag (ho μ53) rfl rfl<|ag (ho μ63) rfl rfl<|bc rfl rfl (aQ (xs:=[num a]) rfl (bL.sl.get rfl) ⟨Nat.le_of_ble_eq_true rfl,Nat.le_of_ble_eq_true rfl⟩ rfl rfl) rfl (ho μ72) rfl rfl af
  have μ74:M 9 387 0 [3,4,5,30,31,37,44] 1:=hi<|aa [(2,391),(4,403),(9,899)] rfl (by kernel_rfl)<|ag (ho μ54) rfl rfl<|ag (ho μ64) rfl rfl<|ag (ho μ73) rfl rfl af
  have μ75:M 8 1667 0 [3,4,30,31,37,43,46] 0:=hi<|aa [(2,1671),(4,1683),(8,1923)] rfl (by kernel_rfl)<|ag (ho μ55) rfl rfl<|ag (ho μ65) rfl rfl<|eC rfl rfl rfl rfl hic (ho μ72) rfl rfl af
  have μ76:M 9 643 0 [3,4,30,31,37,43,45] 0:=hi<|aa [(2,647),(4,659),(8,899),(10,1667)] rfl (by kernel_rfl)<|ag (ho μ56) rfl rfl<|ag (ho μ66) rfl rfl<|eC rfl rfl rfl rfl hic (ho μ73) rfl rfl<|bc rfl rfl (aQ (xs:=[num a]) rfl (bL.sl.get rfl) ⟨Nat.le_of_ble_eq_true rfl,Nat.le_of_ble_eq_true rfl⟩ rfl rfl) rfl (ho μ75) rfl rfl af
  have μ77:M 10 131 0 [3,4,5,30,31,37,43] 0:=hi<|aa [(2,135),(4,147),(8,387),(9,643)] rfl (by kernel_rfl)<|ag (ho μ57) rfl rfl<|ag (ho μ67) rfl rfl<|eC rfl rfl rfl rfl hic (ho μ74) rfl rfl<|ag (ho μ76) rfl rfl af
  have μ78:M 9 1539 0 [2,3,4,30,31,37,46] 0:=hi<|aa [(2,1543),(4,1555),(7,1667)] rfl (by kernel_rfl)<|ag (ho μ58) rfl rfl<|ag (ho μ68) rfl rfl<|ag (ho μ75) rfl rfl af
  have μ79:M 10 515 0 [2,3,4,30,31,37,45] 0:=hi<|aa [(2,519),(4,531),(7,643),(10,1539)] rfl (by kernel_rfl)<|ag (ho μ59) rfl rfl<|ag (ho μ69) rfl rfl<|ag (ho μ76) rfl rfl<|bc rfl rfl (aQ (xs:=[num a]) rfl (bL.sl.get rfl) ⟨Nat.le_of_ble_eq_true rfl,Nat.le_of_ble_eq_true rfl⟩ rfl rfl) rfl (ho μ78) rfl rfl af
  have μ80:M 11 3 0 [2,3,4,5,30,31,37] 0:=hi<|aa [(2,7),(4,19),(7,131),(9,515)] rfl (by kernel_rfl)<|ag (ho μ60) rfl rfl<|ag (ho μ70) rfl rfl<|ag (ho μ77) rfl rfl<|ag (ho μ79) rfl rfl af
  have μ81:M 6 3985 0 [3,30,31,36,40,47] 2:=hi<|aa [(1,3987)] rfl (by kernel_rfl)<|ag (ho μ61) rfl rfl af
  have μ82:M 7 1937 0 [3,30,31,36,40,44,46] 1:=hi<|aa [(1,1939),(11,3985)] rfl (by kernel_rfl)<|ag (ho μ62) rfl rfl<|bX rfl rfl (cI.to (σ:=[some (.row 3 1 pre.length (aP pre))]) (p':=.own 1) (σ'':=[none,some (.row 3 1 (pre++[a]).length (aP (pre++[a])))]) (bA (e:=3) (s:=1) (by':=8) (i:=0) (m:=1) (n:=pre.length) (xs:=aP pre) (ys:=[num a]) rfl (bL.rk.get rfl) rfl rfl rfl rfl ⟨by unfold maxLen;omega,by omega⟩) rfl (by rw[List.length_append,←cK];rfl)) rfl (ho μ81) rfl rfl af
  have μ83:M 8 913 0 [3,30,31,36,40,44,45] 1:=hi<|aa [(1,915),(10,1937)] rfl (by kernel_rfl)<|ag (ho μ63) rfl rfl<|bc rfl rfl (aQ (xs:=[num a]) rfl (bL.sl.get rfl) ⟨Nat.le_of_ble_eq_true rfl,Nat.le_of_ble_eq_true rfl⟩ rfl rfl) rfl (ho μ82) rfl rfl af
  have μ84:M 9 401 0 [3,5,30,31,36,40,44] 1:=hi<|aa [(1,403),(9,913)] rfl (by kernel_rfl)<|ag (ho μ64) rfl rfl<|ag (ho μ83) rfl rfl af
  have μ85:M 8 1681 0 [3,30,31,36,40,43,46] 0:=hi<|aa [(1,1683),(8,1937)] rfl (by kernel_rfl)<|ag (ho μ65) rfl rfl<|eC rfl rfl rfl rfl hic (ho μ82) rfl rfl af
  have μ86:M 9 657 0 [3,30,31,36,40,43,45] 0:=hi<|aa [(1,659),(8,913),(10,1681)] rfl (by kernel_rfl)<|ag (ho μ66) rfl rfl<|eC rfl rfl rfl rfl hic (ho μ83) rfl rfl<|bc rfl rfl (aQ (xs:=[num a]) rfl (bL.sl.get rfl) ⟨Nat.le_of_ble_eq_true rfl,Nat.le_of_ble_eq_true rfl⟩ rfl rfl) rfl (ho μ85) rfl rfl af
  have μ87:M 10 145 0 [3,5,30,31,36,40,43] 0:=hi<|aa [(1,147),(8,401),(9,657)] rfl (by kernel_rfl)<|ag (ho μ67) rfl rfl<|eC rfl rfl rfl rfl hic (ho μ84) rfl rfl<|ag (ho μ86) rfl rfl af
  have μ88:M 9 1553 0 [2,3,30,31,36,40,46] 0:=hi<|aa [(1,1555),(7,1681)] rfl (by kernel_rfl)<|ag (ho μ68) rfl rfl<|ag (ho μ85) rfl rfl af
  have μ89:M 10 529 0 [2,3,30,31,36,40,45] 0:=hi<|aa [(1,531),(7,657),(10,1553)] rfl (by kernel_rfl)<|ag (ho μ69) rfl rfl<|ag (ho μ86) rfl rfl<|bc rfl rfl (aQ (xs:=[num a]) rfl (bL.sl.get rfl) ⟨Nat.le_of_ble_eq_true rfl,Nat.le_of_ble_eq_true rfl⟩ rfl rfl) rfl (ho μ88) rfl rfl af
  have μ90:M 11 17 0 [2,3,5,30,31,36,40] 0:=hi<|aa [(1,19),(7,145),(9,529)] rfl (by kernel_rfl)<|ag (ho μ70) rfl rfl<|ag (ho μ87) rfl rfl<|ag (ho μ89) rfl rfl af
  have μ91:M 7 3969 0 [3,4,30,31,36,47] 2:=hi<|aa [(1,3971),(4,3985)] rfl (by kernel_rfl)<|ag (ho μ71) rfl rfl<|ag (ho μ81) rfl rfl af
  have μ92:M 8 1921 0 [3,4,30,31,36,44,46] 1:=hi<|aa [(1,1923),(4,1937),(11,3969)] rfl (by kernel_rfl)<|ag (ho μ72) rfl rfl<|ag (ho μ82) rfl rfl<|bX rfl rfl (cI.to (σ:=[some (.row 3 1 pre.length (aP pre))]) (p':=.own 1) (σ'':=[none,some (.row 3 1 (pre++[a]).length (aP (pre++[a])))]) (bA (e:=3) (s:=1) (by':=8) (i:=0) (m:=1) (n:=pre.length) (xs:=aP pre) (ys:=[num a]) rfl (bL.rk.get rfl) rfl rfl rfl rfl ⟨by unfold maxLen;omega,by omega⟩) rfl (by rw[List.length_append,←cK];rfl)) rfl (ho μ91) rfl rfl af
  have μ93:M 9 897 0 [3,4,30,31,36,44,45] 1:=hi<|aa [(1,899),(4,913),(10,1921)] rfl (by kernel_rfl)<|ag (ho μ73) rfl rfl<|ag (ho μ83) rfl rfl<|bc rfl rfl (aQ (xs:=[num a]) rfl (bL.sl.get rfl) ⟨Nat.le_of_ble_eq_true rfl,Nat.le_of_ble_eq_true rfl⟩ rfl rfl) rfl (ho μ92) rfl rfl af
  have μ94:M 10 385 0 [3,4,5,30,31,36,44] 1:=hi<|aa [(1,387),(4,401),(9,897)] rfl (by kernel_rfl)<|ag (ho μ74) rfl rfl<|ag (ho μ84) rfl rfl<|ag (ho μ93) rfl rfl af
  have μ95:M 9 1665 0 [3,4,30,31,36,43,46] 0:=hi<|aa [(1,1667),(4,1681),(8,1921)] rfl (by kernel_rfl)<|ag (ho μ75) rfl rfl<|ag (ho μ85) rfl rfl<|eC rfl rfl rfl rfl hic (ho μ92) rfl rfl af
  have μ96:M 10 641 0 [3,4,30,31,36,43,45] 0:=hi<|aa [(1,643),(4,657),(8,897),(10,1665)] rfl (by kernel_rfl)<|ag (ho μ76) rfl rfl<|ag (ho μ86) rfl rfl<|eC rfl rfl rfl rfl hic (ho μ93) rfl rfl<|bc rfl rfl (aQ (xs:=[num a]) rfl (bL.sl.get rfl) ⟨Nat.le_of_ble_eq_true rfl,Nat.le_of_ble_eq_true rfl⟩ rfl rfl) rfl (ho μ95) rfl rfl af
  have μ97:M 11 129 0 [3,4,5,30,31,36,43] 0:=hi<|aa [(1,131),(4,145),(8,385),(9,641)] rfl (by kernel_rfl)<|ag (ho μ77) rfl rfl<|ag (ho μ87) rfl rfl<|eC rfl rfl rfl rfl hic (ho μ94) rfl rfl<|ag (ho μ96) rfl rfl af
  have μ98:M 10 1537 0 [2,3,4,30,31,36,46] 0:=hi<|aa [(1,1539),(4,1553),(7,1665)] rfl (by kernel_rfl)<|ag (ho μ78) rfl rfl<|ag (ho μ88) rfl rfl<|ag (ho μ95) rfl rfl af
  have μ99:M 11 513 0 [2,3,4,30,31,36,45] 0:=hi<|aa [(1,515),(4,529),(7,641),(10,1537)] rfl (by kernel_rfl)<|ag (ho μ79) rfl rfl<|ag (ho μ89) rfl rfl<|ag (ho μ96) rfl rfl<|bc rfl rfl (aQ (xs:=[num a]) rfl (bL.sl.get rfl) ⟨Nat.le_of_ble_eq_true rfl,Nat.le_of_ble_eq_true rfl⟩ rfl rfl) rfl (ho μ98) rfl rfl af
  have μ100:M 12 1 0 [2,3,4,5,30,31,36] 0:=hi<|aa [(1,3),(4,17),(7,129),(9,513)] rfl (by kernel_rfl)<|ag (ho μ80) rfl rfl<|ag (ho μ90) rfl rfl<|ag (ho μ97) rfl rfl<|ag (ho μ99) rfl rfl af
  have μ101:M 7 3984 0 [1,3,30,31,40,47] 2:=hi<|aa [(0,3985)] rfl (by kernel_rfl)<|ag (ho μ81) rfl rfl af
  have μ102:M 8 1936 0 [1,3,30,31,40,44,46] 1:=hi<|aa [(0,1937),(11,3984)] rfl (by kernel_rfl)<|ag (ho μ82) rfl rfl<|bX rfl rfl (cI.to (σ:=[some (.row 3 1 pre.length (aP pre))]) (p':=.own 1) (σ'':=[none,some (.row 3 1 (pre++[a]).length (aP (pre++[a])))]) (bA (e:=3) (s:=1) (by':=8) (i:=0) (m:=1) (n:=pre.length) (xs:=aP pre) (ys:=[num a]) rfl (bL.rk.get rfl) rfl rfl rfl rfl ⟨by unfold maxLen;omega,by omega⟩) rfl (by rw[List.length_append,←cK];rfl)) rfl (ho μ101) rfl rfl af
  have μ103:M 9 912 0 [1,3,30,31,40,44,45] 1:=hi<|aa [(0,913),(10,1936)] rfl (by kernel_rfl)<|ag (ho μ83) rfl rfl<|bc rfl rfl (aQ (xs:=[num a]) rfl (bL.sl.get rfl) ⟨Nat.le_of_ble_eq_true rfl,Nat.le_of_ble_eq_true rfl⟩ rfl rfl) rfl (ho μ102) rfl rfl af
  have μ104:M 10 400 0 [1,3,5,30,31,40,44] 1:=hi<|aa [(0,401),(9,912)] rfl (by kernel_rfl)<|ag (ho μ84) rfl rfl<|ag (ho μ103) rfl rfl af
  have μ105:M 9 1680 0 [1,3,30,31,40,43,46] 0:=hi<|aa [(0,1681),(8,1936)] rfl (by kernel_rfl)<|ag (ho μ85) rfl rfl<|eC rfl rfl rfl rfl hic (ho μ102) rfl rfl af
  have μ106:M 10 656 0 [1,3,30,31,40,43,45] 0:=hi<|aa [(0,657),(8,912),(10,1680)] rfl (by kernel_rfl)<|ag (ho μ86) rfl rfl<|eC rfl rfl rfl rfl hic (ho μ103) rfl rfl<|bc rfl rfl (aQ (xs:=[num a]) rfl (bL.sl.get rfl) ⟨Nat.le_of_ble_eq_true rfl,Nat.le_of_ble_eq_true rfl⟩ rfl rfl) rfl (ho μ105) rfl rfl af
  have μ107:M 11 144 0 [1,3,5,30,31,40,43] 0:=hi<|aa [(0,145),(8,400),(9,656)] rfl (by kernel_rfl)<|ag (ho μ87) rfl rfl<|eC rfl rfl rfl rfl hic (ho μ104) rfl rfl<|ag (ho μ106) rfl rfl af
  have μ108:M 10 1552 0 [1,2,3,30,31,40,46] 0:=hi<|aa [(0,1553),(7,1680)] rfl (by kernel_rfl)<|ag (ho μ88) rfl rfl<|ag (ho μ105) rfl rfl af
  have μ109:M 11 528 0 [1,2,3,30,31,40,45] 0:=hi<|aa [(0,529),(7,656),(10,1552)] rfl (by kernel_rfl)<|ag (ho μ89) rfl rfl<|ag (ho μ106) rfl rfl<|bc rfl rfl (aQ (xs:=[num a]) rfl (bL.sl.get rfl) ⟨Nat.le_of_ble_eq_true rfl,Nat.le_of_ble_eq_true rfl⟩ rfl rfl) rfl (ho μ108) rfl rfl af
  have μ110:M 12 16 0 [1,2,3,5,30,31,40] 0:=hi<|aa [(0,17),(7,144),(9,528)] rfl (by kernel_rfl)<|ag (ho μ90) rfl rfl<|ag (ho μ107) rfl rfl<|ag (ho μ109) rfl rfl af
  have μ111:M 8 3968 0 [1,3,4,30,31,47] 2:=hi<|aa [(0,3969),(4,3984)] rfl (by kernel_rfl)<|ag (ho μ91) rfl rfl<|ag (ho μ101) rfl rfl af
  have μ112:M 9 1920 0 [1,3,4,30,31,44,46] 1:=hi<|aa [(0,1921),(4,1936),(11,3968)] rfl (by kernel_rfl)<|ag (ho μ92) rfl rfl<|ag (ho μ102) rfl rfl<|bX rfl rfl (cI.to (σ:=[some (.row 3 1 pre.length (aP pre))]) (p':=.own 1) (σ'':=[none,some (.row 3 1 (pre++[a]).length (aP (pre++[a])))]) (bA (e:=3) (s:=1) (by':=8) (i:=0) (m:=1) (n:=pre.length) (xs:=aP pre) (ys:=[num a]) rfl (bL.rk.get rfl) rfl rfl rfl rfl ⟨by unfold maxLen;omega,by omega⟩) rfl (by rw[List.length_append,←cK];rfl)) rfl (ho μ111) rfl rfl af
  have μ113:M 10 896 0 [1,3,4,30,31,44,45] 1:=hi<|aa [(0,897),(4,912),(10,1920)] rfl (by kernel_rfl)<|ag (ho μ93) rfl rfl<|ag (ho μ103) rfl rfl<|bc rfl rfl (aQ (xs:=[num a]) rfl (bL.sl.get rfl) ⟨Nat.le_of_ble_eq_true rfl,Nat.le_of_ble_eq_true rfl⟩ rfl rfl) rfl (ho μ112) rfl rfl af
  have μ114:M 11 384 0 [1,3,4,5,30,31,44] 1:=hi<|aa [(0,385),(4,400),(9,896)] rfl (by kernel_rfl)<|ag (ho μ94) rfl rfl<|ag (ho μ104) rfl rfl<|ag (ho μ113) rfl rfl af
  have μ115:M 10 1664 0 [1,3,4,30,31,43,46] 0:=hi<|aa [(0,1665),(4,1680),(8,1920)] rfl (by kernel_rfl)<|ag (ho μ95) rfl rfl<|ag (ho μ105) rfl rfl<|eC rfl rfl rfl rfl hic (ho μ112) rfl rfl af
  have μ116:M 11 640 0 [1,3,4,30,31,43,45] 0:=hi<|aa [(0,641),(4,656),(8,896),(10,1664)] rfl (by kernel_rfl)<|ag (ho μ96) rfl rfl<|ag (ho μ106) rfl rfl<|eC rfl rfl rfl rfl hic (ho μ113) rfl rfl<|bc rfl rfl (aQ (xs:=[num a]) rfl (bL.sl.get rfl) ⟨Nat.le_of_ble_eq_true rfl,Nat.le_of_ble_eq_true rfl⟩ rfl rfl) rfl (ho μ115) rfl rfl af
  have μ117:M 12 128 0 [1,3,4,5,30,31,43] 0:=hi<|aa [(0,129),(4,144),(8,384),(9,640)] rfl (by kernel_rfl)<|ag (ho μ97) rfl rfl<|ag (ho μ107) rfl rfl<|eC rfl rfl rfl rfl hic (ho μ114) rfl rfl<|ag (ho μ116) rfl rfl af
  have μ118:M 11 1536 0 [1,2,3,4,30,31,46] 0:=hi<|aa [(0,1537),(4,1552),(7,1664)] rfl (by kernel_rfl)<|ag (ho μ98) rfl rfl<|ag (ho μ108) rfl rfl<|ag (ho μ115) rfl rfl af
  have μ119:M 12 512 0 [1,2,3,4,30,31,45] 0:=hi<|aa [(0,513),(4,528),(7,640),(10,1536)] rfl (by kernel_rfl)<|ag (ho μ99) rfl rfl<|ag (ho μ109) rfl rfl<|ag (ho μ116) rfl rfl<|bc rfl rfl (aQ (xs:=[num a]) rfl (bL.sl.get rfl) ⟨Nat.le_of_ble_eq_true rfl,Nat.le_of_ble_eq_true rfl⟩ rfl rfl) rfl (ho μ118) rfl rfl af
  have μ120:M 13 0 0 [1,2,3,4,5,30,31] 0:=hi<|aa [(0,1),(4,16),(7,128),(9,512)] rfl (by kernel_rfl)<|ag (ho μ100) rfl rfl<|ag (ho μ110) rfl rfl<|ag (ho μ117) rfl rfl<|ag (ho μ119) rfl rfl af
  exact μ120
end PW
end Go.Proofs.YtnegbdpggideiaaGreatDoor
namespace Go.Proofs.YtnegbdpggideiaaGreatDoor
namespace PW
open Go.RowKit Go.Shelf cE Mem Net fk
attribute [local go_sem] Oper.semAt_some
theorem ti{w:World}{l:Nat}{r:Loop}{o:Obj}(hl:w.heap[l]? =some (.loop r)){a:Addr}{x:Value}(h:w.cell? a=some x):(w.putObj l o).cell? a=some x:=by
 have hne:a.block≠l:=fun e=>by
  unfold World.cell? at h
  rw[e,hl]at h
  simp at h
 rw[jG (World.putObj_heap_other hne)]
 exact h
theorem cC.loop{E:Env}{w:World}{l:Nat}{r:Loop}{o:Obj}(hl:w.heap[l]? =some (.loop r)){v:Value}{p:PV}(h:cC E w v p):cC E (w.putObj l o) v p:=by
 induction h with
 |any v=>exact .any v
 |raw v=>exact .raw v
 |b7=>exact .b7
 |empty a c h=>exact .empty a c h
 |slice b off n c cs xs h0 h1 h2 hb hM hc hl2 _ ih=>exact .slice b off n c cs xs h0 h1 h2 (by simpa using hb) hM (fun i x hx=>ti hl (hc i x hx)) hl2 ih
 |aX b o' off cs xs hb hM hc hl2 _ ih=>exact .aX b o' off cs xs (by simpa using hb) hM (fun i x hx=>ti hl (hc i x hx)) hl2 ih
 |agg cs xs hl2 _ ih=>exact .agg cs xs hl2 ih
 |tuple cs xs hl2 _ ih=>exact .tuple cs xs hl2 ih
 |func f cs xs hl2 _ ih=>exact .func f cs xs hl2 ih
 |ptr i off b hi h=>exact .ptr i off b hi h
 |own i hi v h hs=>exact .own i hi v h hs
def ep(e:Nat)(dI:Int)(path:List Int):List PV:=[num e,num dI,aw path]
theorem sQ(e:Nat)(dI:Int)(path:List Int):IsPure (.agg (ep e dI path)):=by unfold ep;infer_instance
def GR(F0:Nat→Prop)(e:Nat)(dI:Int)(path:List Int)(x:Value)(W:World):Prop:=cC (EF F0) W x (.agg (ep e dI path))
theorem GR.calm(F0:Nat→Prop)(e:Nat)(dI:Int)(path:List Int):fk.Calm (GR F0 e dI path):=fun _ _ _ _ _ h hl=>cC.loop hl h
theorem AH{P:Program}{ops:Array Oper}{n i l:Nat}{o:Oper}{a:Act}{w:World}{Q:Exit→Act→World→Prop}{x y:Operand}{ats:Array TypeId}{R:Ending→World→Prop}(ho:ops[i]? =some o)(hg:o.guard=none)(hop:o.op= .call {callee:=.value x,args:= #[y],argTypes:=ats})
  (hx:a.eval x= .func (.yield l) #[] #[]) (hy:YieldAt Fence.wide (n - 1) P l #[a.eval y] w R) (hR:∀e w',R e w'→∃v,e= .returned v∧Q .normal (a.put o.dst v) w'):wpOpsIn Fence.wide n P ops Q [i] a w:=by
 obtain⟨fn,tmps,assign,body,h1,h2⟩:=hy
 rw[wpOpsIn_cons]
 unfold wpOpIn
 rw[ho]
 simp only
 rw[if_pos (by unfold Region.wanted;rw[hg])]
 refine⟨fun _ _=>trivial,?_⟩
 rw[show Fence.wide.round=none from rfl,Oper.semAt_none]
 have hr:(execOp a.eval o).run P w= .ok (.round l fn tmps assign body) w:=by
  simp[execOp,hop,resolve,hx,Deferred.ofValue,invoke,h1]
 rw[hr]
 refine⟨fun h=>by simp[Fence.wide]at h,h2.mono fun e w' he=>?_⟩
 obtain⟨v,rfl,hq⟩:=hR e w' he
 exact hq
section
variable {T:ai} {tb:Nat→dR} {p0:eU} {Φ:Nat→Nat→List bY→Prop}
set_option maxRecDepth 100000 in
set_option maxHeartbeats 4000000 in
theorem Gc{n:Nat}{o:Out}{vs:List PV}{c:Int}{pre:List Int}(ha:o.aI=[])(hpl:pre.length≤1000)[hvs:aJ vs]{xb pb:Value}{W₀:World}{F0:Nat→Prop}(hF:∀b,F0 b→b<W₀.heap.size)(gl:gZ F0 W₀)(hX:cC (EF F0) W₀ xb (.aX [.aX (du n o vs c) 0] 0))(hP:cC (EF F0) W₀ pb (.aX [aw pre] 0)):
  yV Tryz.prog 165 #[xb,pb] (GR F0 n o.dI pre) W₀:=by
 intro n' l W R hW hkeep hY
 have hargs:aW (EF F0) W (#[Value.func (.yield l) #[] #[]]++ #[xb,pb]).toList [.raw (.func (.yield l) #[] #[]),.aX [.aX (du n o vs c) 0] 0,.aX [aw pre] 0]:=
  aW.cons (.raw _) (aW.cons (hX.ext hW) (aW.cons (hP.ext hW) (aW.nil _ _)))
 have hF':∀b,F0 b→b<W.heap.size:=fun b hb=>Nat.lt_of_lt_of_le (hF b hb) hW.size
 have gl':gZ F0 W:=gl.goes (E:=EF F0) (E':=EF F0) (.ext hW)
 refine callsIn_of_wp_marks Tryz.func165 rfl trivial ?_ rfl
 have hs0:=iO (N:=55) (Sat.start F0 W hF' gl') hargs (by simp)
 have hc0:oA W.heap.size 0 (EF F0) W (EF F0) W:=⟨rfl,cP.refl _ _,Below.refl _ _⟩
 refine wpIn_seq (piece (K:=fun s=>s=⟨[(1,.aX [.aX (du n o vs c) 0] 0),(2,.aX [aw pre] 0),(3,.aX [.raw (.func (.yield l) #[] #[])] 0)],[]⟩) hc0 hs0 ?_ ?_)
 ·skip
  refine aB (.a 1 rfl<|.k [1,2,3] rfl) ?_
  exact rfl
 rintro _ E1 a1 w1 rfl hs1 g1 b1
 refine wpIn_seq (wpIn_seq (piece (K:=fun s=>s=⟨[(1,.aX [.aX (du n o vs c) 0] 0),(2,.aX [aw pre] 0),(3,.aX [.raw (.func (.yield l) #[] #[])] 0),(12,flag true)],[]⟩) ⟨rfl,g1,b1⟩ hs1 ?_ ?_))
 ·skip
  refine aB (.a 5 rfl<|.v (CU rfl rfl rfl (decide_eq_true (by rw[ha];rfl))) rfl<|.k [1,2,3,12] rfl) ?_
  exact rfl
 rintro _ E2 a2 w2 rfl hs2 g2 b2
 refine wpIn_cond_true (dO (hs2.tmp 12 _ rfl)) ?_
 refine wpIn_seq ?_
 skip
 refine rJ 12 20 [13,14,15,16,17,18,19,20,21,22,23,24] mixed (by kernel_rfl) (by kernel_rfl) (by kernel_rfl) rfl (hs2) (.a 4 rfl<|.v [16] (aO rfl (rfl)) rfl rfl<|.a 3 rfl<|.v [20] (aO rfl (rfl)) rfl rfl<|.a 1 rfl<|.v [22] (dX rfl (qk pre hpl)) rfl rfl<|.a 1 rfl<|.k [13,24] rfl) ?_
 intro a3 w3 hE3 hs3
 have hEW:Ext W w3:=Ext.trans b2 hE3
 have h24:=hs3.tmp 24 (.agg (ep n o.dI pre)) rfl
 have hv:GR F0 n o.dI pre (a3.eval (.tmp 24)) w3:=(sQ n o.dI pre).out _ F0 _ _ (fun b hb=>(hs3.sat.mm b).2 (.inl hb)) h24
 refine AH (x:=.tmp 13) (y:=.tmp 24) rfl rfl rfl (dO (hs3.tmp 13 _ rfl)) (hY _ _ w3 hEW hv) ?_
 rintro e w4 ⟨rfl,hr⟩
 refine⟨_,rfl,wpIn_ret ?_⟩
 show LeavesInM _ _ _ _ _ _ (a3.put (some 25) (.bool true)).defers _ _
 rw[show(a3.put (some 25) (.bool true)).defers=[] from hs3.j7]
 exact⟨_,results_none rfl _ _ _,⟨_,rfl⟩,w3,w4,hEW,hr,Rest.refl _ _ _⟩
end
end PW
end Go.Proofs.YtnegbdpggideiaaGreatDoor
namespace Go.Proofs.YtnegbdpggideiaaGreatDoor
namespace PW
open Go.RowKit Go.Shelf cE Mem Net fk
attribute [local go_sem] Oper.semAt_some
theorem dZ.one{E:Env}{w:World}{ρ:Operand→Value}{k:Nat}{p:PV}{t:bZ}(h:cC E w (ρ (.tmp k)) p)(ht:dZ E w ρ t):dZ E w ρ ((k,p)::t):=ht.Cy h
theorem dZ.Iv{E:Env}{w:World}{ρ:Operand→Value}:dZ E w ρ []:=fun k p h=>by cases h
theorem lT{a:Act}{k:Nat}{v:Value}(h:k<a.tmps.size):(a.put (some k) v).eval (.tmp k)=v:=by
 show(a.tmps.setIfInBounds k v).getD k undef=v
 simp[h]
theorem rD{a:Act}{k j:Nat}{v:Value}(h:j≠k):(a.put (some k) v).eval (.tmp j)=a.eval (.tmp j):=by
 show(a.tmps.setIfInBounds k v).getD j undef=a.tmps.getD j undef
 simp[Array.getD_eq_getD_getElem?,Array.getElem?_setIfInBounds_ne (Ne.symm h)]
set_option maxRecDepth 100000 in
set_option maxHeartbeats 8000000 in
theorem EU{n:Nat}{o:Out}{ys:List PV}{c:Int}{pre q:List Int}{a:Int}{e:Nat}{dI:Int}(ha:o.aI=[a])(hpl:pre.length+1≤1000)[hv1:aJ ys]{xb pb:Value}{W₀:World}{F0:Nat→Prop}(hF:∀b,F0 b→b<W₀.heap.size)(gl:gZ F0 W₀)(hX:cC (EF F0) W₀ xb (.aX [.aX (du n o [.aX ys 0] c) 0] 0))(hP:cC (EF F0) W₀ pb (.aX [aw pre] 0))
  (hin:∀(xb' pb':Value) (W':World),(∀b,F0 b→b<W'.heap.size)→gZ F0 W'→cC (EF F0) W' xb' (.aX [.aX ys 0] 0)→cC (EF F0) W' pb' (.aX [aw (pre++[a])] 0)→yV Tryz.prog 165 #[xb',pb'] (GR F0 e dI ((pre++[a])++q)) W'):
  yV Tryz.prog 165 #[xb,pb] (GR F0 e dI (pre++a::q)) W₀:=by
 intro n' l W R hW hkeep hY
 have hargs:aW (EF F0) W (#[Value.func (.yield l) #[] #[]]++ #[xb,pb]).toList [.raw (.func (.yield l) #[] #[]),.aX [.aX (du n o [.aX ys 0] c) 0] 0,.aX [aw pre] 0]:=
  aW.cons (.raw _) (aW.cons (hX.ext hW) (aW.cons (hP.ext hW) (aW.nil _ _)))
 have hF':∀b,F0 b→b<W.heap.size:=fun b hb=>Nat.lt_of_lt_of_le (hF b hb) hW.size
 have gl':gZ F0 W:=gl.goes (E:=EF F0) (E':=EF F0) (.ext hW)
 refine callsIn_of_wp_marks Tryz.func165 rfl trivial ?_ rfl
 have hs0:=iO (N:=55) (Sat.start F0 W hF' gl') hargs (by simp)
 have hc0:oA W.heap.size 0 (EF F0) W (EF F0) W:=⟨rfl,cP.refl _ _,Below.refl _ _⟩
 refine wpIn_seq (piece (K:=fun s=>s=⟨[(1,.aX [.aX (du n o [.aX ys 0] c) 0] 0),(2,.aX [aw pre] 0),(3,.aX [.raw (.func (.yield l) #[] #[])] 0)],[]⟩) hc0 hs0 ?_ ?_)
 ·skip
  refine aB (.a 1 rfl<|.k [1,2,3] rfl) ?_
  exact rfl
 rintro _ E1 a1 w1 rfl hs1 g1 b1
 refine wpIn_seq (wpIn_seq (piece (K:=fun s=>s=⟨[(1,.aX [.aX (du n o [.aX ys 0] c) 0] 0),(2,.aX [aw pre] 0),(3,.aX [.raw (.func (.yield l) #[] #[])] 0),(12,flag false)],[]⟩) ⟨rfl,g1,b1⟩ hs1 ?_ ?_))
 ·skip
  refine aB (.a 5 rfl<|.v (CU rfl rfl rfl (decide_eq_false (by rw[ha];simp))) rfl<|.k [1,2,3,12] rfl) ?_
  exact rfl
 rintro _ E2 a2 w2 rfl hs2 g2 b2
 refine wpIn_cond_false (dO (hs2.tmp 12 _ rfl)) (wpIn_skip ?_)
 refine wpIn_seq (piece (K:=fun s=>s=⟨[(1,.aX [.aX (du n o [.aX ys 0] c) 0] 0),(2,.aX [aw pre] 0),(3,.aX [.raw (.func (.yield l) #[] #[])] 0),(29,aw o.aI),(30,num o.aI.length),(31,num 0)],[]⟩) ⟨rfl,g2,b2⟩ hs2 ?_ ?_)
 ·skip
  refine aB (.a 6 rfl<|.k [1,2,3,29,30,31] rfl) ?_
  exact rfl
 rintro _ E3 a3 w3 rfl hs3 g3 b3
 rw[ha]at hs3
 refine wpIn_block ?_
 refine uX (fun a' w'=>∃D W1 W2,a'.defers=[{target:=.collected D,args:= #[]}]∧a'.tmps.size=55∧a'.eval (.tmp 31)= .int .i64 1∧a'.eval (.tmp 30)= .int .i64 1∧w'.heap[D]? =some (.deferred (some []))∧Ext W W1∧R W1 W2∧fk.Rest W.heap.size W1.heap.size W2 w'∧W.heap.size≤D∧D<W1.heap.size) ?_ ?_
 ·
  refine wpIn_seq (piece (K:=fun s=>s=⟨[(1,.aX [.aX (du n o [.aX ys 0] c) 0] 0),(2,.aX [aw pre] 0),(3,.aX [.raw (.func (.yield l) #[] #[])] 0),(29,aw [a]),(30,num ([a]:List Int).length),(31,num 0),(32,flag true)],[]⟩) ⟨rfl,g3,b3⟩ hs3 ?_ ?_)
  ·skip
   refine aB (.a 1 rfl<|.k [1,2,3,29,30,31,32] rfl) ?_
   exact rfl
  rintro _ E4 a4 w4 rfl hs4 g4 b4
  refine wpIn_seq (wpIn_cond_true (dO (hs4.tmp 32 _ rfl)) (wpIn_skip ?_))
  refine wpIn_seq (wpIn_block ?_)
  refine wpIn_seq (piece (K:=fun s=>s=⟨[(1,.aX [.aX (du n o [.aX ys 0] c) 0] 0),(2,.aX [aw pre] 0),(3,.aX [.raw (.func (.yield l) #[] #[])] 0),(4,num 0),(5,num a),(30,num ([a]:List Int).length),(31,num 0)],[]⟩) ⟨rfl,g4,b4⟩ hs4 ?_ ?_)
  ·skip
   refine aB (.a 1 rfl<|.v (aM (0) rfl (by simp) (by simp)) rfl<|.v (aO rfl ((rfl:(aP [a])[0]? =some (num a)))) rfl<|.a 2 rfl<|.k [1,2,3,4,5,30,31] rfl) ?_
   exact rfl
  rintro _ E5 a5 w5 rfl hs5 g5 b5
  refine wpIn_seq (piece (L:=0) (K:=II ys pre a l) ⟨rfl,g5,b5⟩ hs5 (Gh ys pre a l n o c hpl) ?_)
  rintro⟨t6,σ6⟩ E6 a6 w6 ⟨hσ6,hsub6⟩ hs6 g6 b6
  simp only at hσ6 hsub6
  subst hσ6
  have ht6:=hs6.tmp.sub hsub6
  have hpl2:aJ (aP (pre++[a])):=inferInstance
  have h48:=(aC.iC (f:=165) (an.cons (aC.jh (i:=2) (k:=0) (blk:=.cells 147 [.aX ys 0]) (ys:=[.aX ys 0]) rfl (show an _ [.aX ys 0] [.aX ys 0] from an.pure))<|an.cons (aC.jh (i:=3) (k:=0) (blk:=.cells 37 [.own 1]) (ys:=[aw (pre++[a])]) rfl (an.cons (aC.fu (i:=1) rfl an.pure) an.nil)) an.nil)).rep hs6.sat (G:=F0) (fun b hb=>(hs6.sat.mm b).2 (.inl hb)) (fun b hb=>(hs6.sat.fb b hb).2) _ (ht6 48 _ rfl)
  have h3:cC (EF F0) w6 (a6.eval (.tmp 3)) (.aX [.raw (.func (.yield l) #[] #[])] 0):=(inferInstance:IsPure (.aX [.raw (.func (.yield l) #[] #[])] 0)).out _ F0 _ _ (fun b hb=>(hs6.sat.mm b).2 (.inl hb)) (ht6 3 _ rfl)
  have h30:a6.eval (.tmp 30)= .int .i64 1:=dO (ht6 30 _ rfl)
  have h31:a6.eval (.tmp 31)= .int .i64 0:=dO (ht6 31 _ rfl)
  have hd6:a6.defers=[]:=hs6.j7
  have hz6:a6.tmps.size=55:=hs6.size
  have hE6:Ext W w6:=b6
  have hF6:∀b,F0 b→b<w6.heap.size:=fun b hb=>Nat.lt_of_lt_of_le (hF' b hb) hE6.size
  have gl6:gZ F0 w6:=gl'.goes (E:=EF F0) (E':=EF F0) (.ext hE6)
  clear ht6 hs6 g6 b6 hsub6
  generalize hz48:a6.eval (.tmp 48)=z48 at h48
  cases h48 with
  |func _ cs _ hcl hcr=>
  obtain⟨cs⟩:=cs
  match cs,hcl,hcr with
  | [xb',pb'],_,hcr=>
  have hxb:=hcr 0 xb' _ rfl rfl
  have hpb:=hcr 1 pb' _ rfl rfl
  refine wpIn_block ?_
  refine kT hz48 (enters_of Tryz.func165 (by kernel_rfl) rfl) (GR.calm F0 e dI ((pre++[a])++q)) (fun v A B h hE=>cC.ext hE h) (hin xb' pb' w6 hF6 gl6 hxb hpb) (Below.refl _ _) rfl (fun Wb W3=>∃Wc,Ext Wb Wc∧R Wc W3) ?_ ?_
  ·intro m l2 v W1 hl2 hloop hE1 hv
   obtain⟨rl,hrl⟩:=hloop
   obtain⟨arr6,ds6⟩:=a6
   simp only at hd6 hz6
   subst hd6
   have hF1:∀b,F0 b→b<W1.heap.size:=fun b hb=>Nat.lt_of_lt_of_le (hF6 b hb) hE1.size
   have gl1:gZ F0 W1:=gl6.goes (E:=EF F0) (E':=EF F0) (.ext hE1)
   have hsA:dG F0 W1.heap.size 55 ⟨[(49,.agg (ep e dI ((pre++[a])++q))),(3,.aX [.raw (.func (.yield l) #[] #[])] 0)],[]⟩ (EF F0) ((⟨arr6,[]⟩:Act).put (some 49) v) W1:=
    ⟨Sat.start F0 W1 hF1 gl1,dZ.put (dZ.one (h3.ext hE1) dZ.Iv) hv (by simp[hz6]),rfl,by simp[Act.put,hz6]⟩
   rw[show({tmps:=(#[49].zip #[v]).foldl (fun t (p,v)=>t.setIfInBounds p v) arr6,defers:=[]}:Act)=(⟨arr6,[]⟩:Act).put (some 49) v from by simp[Act.put]]
   refine mr (m:=2) (K:=fun s=>s=⟨[(3,.aX [.raw (.func (.yield l) #[] #[])] 0),(6,.ptr 0 0)],[some (.cells 107 (ep e dI ((pre++[a])++q)))]⟩) rfl rfl hsA rfl (by refine au 2 rfl ?_;refine aH [3,6] rfl ?_;rfl) ?_
   rintro _ Ea a7 Wa rfl hsB gB bB
   refine⟨bB,fun Wb hlb hEb hzb hoth hvb=>?_⟩
   have hla:Wa.heap[l2]? =some (.loop rl):=(bB.block _ (Array.getElem?_eq_some_iff.1 hrl).1).trans hrl
   have hpr:aJ (ep e dI ((pre++[a])++q)):=by unfold ep;infer_instance
   have r6:=((aC.jh (i:=0) (k:=0) (blk:=.cells 107 (ep e dI ((pre++[a])++q))) (ys:=ep e dI ((pre++[a])++q)) rfl (show an _ (ep e dI ((pre++[a])++q)) (ep e dI ((pre++[a])++q)) from an.pure)).rep hsB.sat (G:=F0) (fun b hb=>(hsB.sat.mm b).2 (.inl hb)) (fun b hb=>(hsB.sat.fb b hb).2) _ (hsB.tmp 6 _ rfl)).other hla hzb hoth
   have r3:=((inferInstance:IsPure (.aX [.raw (.func (.yield l) #[] #[])] 0)).out _ F0 _ _ (fun b hb=>(hsB.sat.mm b).2 (.inl hb)) (hsB.tmp 3 _ rfl)).other hla hzb hoth
   have hFb:∀b,F0 b→b<Wb.heap.size:=fun b hb=>Nat.lt_of_lt_of_le (hF6 b hb) hEb.size
   have glb:gZ F0 Wb:=(gl1.goes (E:=EF F0) (E':=EF F0) (.ext (w':=Wa) bB)).other hla hoth
   have hsC:dG F0 Wb.heap.size 55 ⟨[(3,.aX [.raw (.func (.yield l) #[] #[])] 0),(6,.aX (ep e dI ((pre++[a])++q)) 0)],[]⟩ (EF F0) a7 Wb:=
    ⟨Sat.start F0 Wb hFb glb,dZ.one r3 (dZ.one r6 dZ.Iv),hsB.j7,hsB.size⟩
   refine wpIn_block (wpIn_seq ?_)
   refine mr (m:=2) (K:=fun s=>s=⟨[(50,.raw (.func (.yield l) #[] #[])),(51,.agg (ep e dI ((pre++[a])++q)))],[]⟩) rfl rfl hsC rfl (by refine au 2 rfl ?_;refine aH [50,51] rfl ?_;rfl) ?_
   rintro _ Ed a8 Wc rfl hsD gD bD
   have hEbc:Ext Wb Wc:=bD
   have hEWc:Ext W Wc:=(hE6.trans hEb).trans hEbc
   have h51:=(sQ e dI ((pre++[a])++q)).out _ F0 _ _ (fun b hb=>(hsD.sat.mm b).2 (.inl hb)) (hsD.tmp 51 _ rfl)
   rw[show(pre++[a])++q=pre++a::q by simp]at h51
   have hz8:a8.tmps.size=55:=hsD.size
   show wpOpsIn _ _ _ _ _ [2,3] a8 Wc
   refine A4 (x:=.tmp 50) (y:=.tmp 51) rfl rfl rfl (dO (hsD.tmp 50 _ rfl)) (hY _ _ Wc hEWc h51) ?_
   rintro e4 W4 ⟨rfl,hr4⟩
   refine⟨_,rfl,?_⟩
   refine lN (.inr ⟨_,rfl⟩) rfl rfl (fun c e=>by cases e) (CY rfl (lT (by omega))) ?_
   refine wpIn_cond_false (lT (by simp[Act.put,hz8])) (wpIn_skip ?_)
   obtain⟨k1,k2⟩:=hkeep _ _ hr4
   have hs1:=hE6.size
   have hs2:=hEbc.size
   exact⟨⟨by omega,fun k h1 h2=>(k2 k (by omega) (by omega)).trans (hEbc.block k h2)⟩,Wc,hEbc,hr4⟩
  ·intro Wb W3 W' hEb hlt hle hrx hrest hD
   obtain⟨Wc,hEbc,hr⟩:=hrx
   have hs1:=hE6.size
   have hs2:=hEbc.size
   refine wpIn_region ?_
   refine lN (.inl rfl) rfl rfl (fun c e=>by cases e) (uT rfl (show Act.eval {a6 with defers:=_} (.tmp 31)=_ from h31) rfl (v:=.int .i64 1) (by simp[binOp,Op.intArith,ju (show In64 1 by unfold In64;omega)])) ?_
   refine lN (.inl rfl) rfl rfl (fun c e=>by cases e) (Ax rfl) ?_
   refine⟨w6.heap.size,Wc,W3,by show _::a6.defers=_;rw[hd6],by show((a6.tmps.setIfInBounds 54 _).setIfInBounds 31 _).size=55;simp[hz6],?_,?_,hD,(hE6.trans hEb).trans hEbc,hr,hrest.wide hs1 hs2,hs1,by omega⟩
   ·refine(lT (k:=31) (by show 31<(a6.tmps.setIfInBounds 54 _).size;simp[hz6])).trans ?_
    exact lT (k:=54) (by show 54<a6.tmps.size;omega)
   ·refine(rD (k:=31) (j:=30) (by decide)).trans ?_
    refine(rD (k:=54) (j:=30) (by decide)).trans ?_
    exact h30
 ·rintro a' w' ⟨D,W1,W2,hd,hz,h31,h30,hD,hE,hR,hrest,hD1,hD2⟩
  refine wpIn_seq (wpIn_region ?_)
  refine lN (.inl rfl) rfl rfl (fun c e=>by cases e) (uT rfl h31 h30 (v:=.bool false) (by simp[binOp,Op.intCmp])) ?_
  have h32:(a'.put (some 32) (.bool false)).eval (.tmp 32)= .bool false:=by
   show(a'.tmps.setIfInBounds 32 _).getD 32 _=_
   simp[hz]
  refine wpIn_seq (wpIn_cond_false h32 (wpIn_exit ?_))
  show LeavesInM _ _ _ _ _ _ (a'.put (some 32) (.bool false)).defers _ _
  rw[show(a'.put (some 32) (.bool false)).defers=[{target:=.collected D,args:= #[]}] from hd]
  refine⟨by simp,.inl ⟨_,_,rfl,run_takeDeferred hD,?_⟩⟩
  exact⟨_,results_none rfl _ _ _,⟨_,rfl⟩,W1,W2,hE,hR,hrest.trans (Rest.put hD rfl hD1 hD2)⟩
end PW
end Go.Proofs.YtnegbdpggideiaaGreatDoor
namespace Go.Proofs.YtnegbdpggideiaaGreatDoor
namespace PW
open Go.RowKit Go.Shelf cE Mem Net fk
attribute [local go_sem] Oper.semAt_some
theorem xj{w:World}{a:Addr}{x:Value}(h:w.cell? a=some x):∃o,w.heap[a.block]? =some o∧o.isCells=true:=by
 unfold World.cell? at h
 cases ho:w.heap[a.block]? with
 |none=>rw[ho]at h;simp at h
 |some o=>exact⟨o,rfl,by rw[ho]at h;cases o<;>simp_all[Obj.isCells]⟩
theorem cC.cells{E:Env}{w w':World}(hz:w.heap.size≤w'.heap.size)(hc:∀(k:Nat) (o:Obj),w.heap[k]? =some o→o.isCells=true→w'.heap[k]? =some o){v:Value}{p:PV}(h:cC E w v p):cC E w' v p:=by
 have key:∀ {a:Addr} {x:Value},w.cell? a=some x→w'.cell? a=some x:=fun {a x} h=>by
  obtain⟨o,h1,h2⟩:=xj h
  rw[jG ((hc _ _ h1 h2).trans h1.symm)]
  exact h
 induction h with
 |any v=>exact .any v
 |raw v=>exact .raw v
 |b7=>exact .b7
 |empty a c h=>exact .empty a c h
 |slice b off n c cs xs h0 h1 h2 hb hM hcc hl2 _ ih=>exact .slice b off n c cs xs h0 h1 h2 (by omega) hM (fun i x hx=>key (hcc i x hx)) hl2 ih
 |aX b o' off cs xs hb hM hcc hl2 _ ih=>exact .aX b o' off cs xs (by omega) hM (fun i x hx=>key (hcc i x hx)) hl2 ih
 |agg cs xs hl2 _ ih=>exact .agg cs xs hl2 ih
 |tuple cs xs hl2 _ ih=>exact .tuple cs xs hl2 ih
 |func f cs xs hl2 _ ih=>exact .func f cs xs hl2 ih
 |ptr i off b hi h=>exact .ptr i off b hi h
 |own i hi v h hs=>exact .own i hi v h hs
set_option maxRecDepth 100000 in
set_option maxHeartbeats 8000000 in
theorem AV{xv pv:PV}[IsPure xv][IsPure pv]{e:Nat}{dI:Int}{p:List Int}
    (hin:∀(F0:Nat→Prop) (xb pb:Value) (W':World),(∀b,F0 b→b<W'.heap.size)→gZ F0 W'→cC (EF F0) W' xb xv→cC (EF F0) W' pb pv→yV Tryz.prog 165 #[xb,pb] (GR F0 e dI p) W'):
    Can Tryz.prog 164 [.raw (.slice none 0 0),.func 165 [xv,pv]] (· = .slice 1 (ep e dI p)):=by
  intro F0 w vs hF gl hR
  refine(callsIn_wide (n:=4)).1 ?_
  refine callsIn_of_wp_marks Tryz.func164 rfl trivial ?_ rfl
  have hs0:=iO (N:=13) (Sat.start F0 w hF gl) hR (by have:=hR.1;simp at this;omega)
  have hc0:oA w.heap.size 0 (EF F0) w (EF F0) w:=⟨rfl,cP.refl _ _,Below.refl _ _⟩
  refine wpIn_seq (piece (L:=0) (K:=fun s=>s=⟨[(1,.func 165 [xv,pv]),(2,.ptr 0 0)],[some (.cells 104 [.raw (.slice none 0 0)])]⟩) hc0 hs0 ?_ ?_)
  · skip
    refine bI<|cz (fJ (xs:=[_]) rfl rfl rfl) rfl<|au 1 rfl<|aH [1,2] rfl ?_
    exact rfl
  rintro _ E1 a1 w1 rfl hs1 g1 b1
  refine wpIn_seq (wpIn_seq (piece (L:=0) (K:=fun s=>s=⟨[(2,.ptr 0 0),(6,.func 165 [xv,pv])],[some (.cells 104 [.raw (.slice none 0 0)])]⟩) ⟨rfl,g1,b1⟩ hs1 ?_ ?_))
  · skip
    refine aB (.a 1 rfl<|.k [2,6] rfl) ?_
    exact rfl
  rintro _ E2 a2 w2 rfl hs2 g2 b2
  have hE2:Ext w w2:=b2
  have hF2:∀b,F0 b→b<w2.heap.size:=fun b hb=>Nat.lt_of_lt_of_le (hF b hb) hE2.size
  have hM2:∀b,E2.M b→b<w2.heap.size:=fun b hb=>hs2.sat.lt hb
  obtain⟨B,cs0,hB,hBb,hBh,hBr⟩:=hs2.sat.blk 0 _ rfl
  have h6:=(inferInstance:IsPure (.func 165 [xv,pv])).out _ E2.M _ _ (fun b hb=>hb) (hs2.tmp 6 _ rfl)
  have h2:a2.eval (.tmp 2)= .pointer (some ⟨B,0,none⟩):=by
    have:=hs2.tmp 2 _ rfl
    generalize a2.eval (.tmp 2)=z at this
    cases this with
    |ptr _ _ b' _ h=>
      rcases h with h|⟨n',c',h⟩<;>rw[hB]at h<;>cases h
      rfl
  have hBl:B<w2.heap.size:=(Array.getElem?_eq_some_iff.1 hBh).1
  obtain⟨c0,rfl⟩:∃c0,cs0= #[c0]:=by
    obtain⟨cl⟩:=cs0
    match cl,hBr.1 with
    | [c0],_=>exact⟨c0,rfl⟩
  have hd2:=hs2.j7
  have hz2:=hs2.size
  generalize hz48:a2.eval (.tmp 6)=z48 at h6
  cases h6 with
  |func _ cs _ hcl hcr=>
  obtain⟨cs⟩:=cs
  match cs,hcl,hcr with
  | [xb',pb'],_,hcr=>
  have hxb:=hcr 0 xb' _ rfl rfl
  have hpb:=hcr 1 pb' _ rfl rfl
  refine wpIn_block ?_
  refine kT hz48 (enters_of Tryz.func165 (by kernel_rfl) rfl) (GR.calm E2.M e dI p) (fun v A B h hE=>cC.ext hE h) (hin E2.M xb' pb' w2 hM2 hs2.sat.gl hxb hpb) (Below.refl _ _) rfl (fun Wb W3=>∃c,W3.heap[B]? =some (.cells #[c] 104 (0,0))∧cC (EF F0) W3 c (.slice 1 (ep e dI p))∧Below w.heap.size Wb W3) ?_ ?_
  · intro m l2 v W1 hl2 hloop hE1 hv
    obtain⟨rl,hrl⟩:=hloop
    have hpr:aJ (ep e dI p):=by unfold ep;infer_instance
    have hor:ct (ep e dI p):=by unfold ep;infer_instance
    have h2t:=hs2.tmp.sub (t':=[(2,.ptr 0 0)]) (bm (ks:=[2]) rfl)
    obtain⟨arr2,ds2⟩:=a2
    simp only at hd2 hz2
    subst hd2
    have hvE:cC E2 W1 v (.agg (ep e dI p)):=cC.back hv
    have hsA:dG F0 w.heap.size 13 ⟨[(7,.agg (ep e dI p)),(2,.ptr 0 0)],[some (.cells 104 [.raw (.slice none 0 0)])]⟩ E2 ((⟨arr2,[]⟩:Act).put (some 7) v) W1:=
      ⟨hs2.sat.ext hE1,dZ.put (fun k q hk=>(h2t k q hk).ext hE1) hvE (by simp[hz2]),rfl,by simp[Act.put,hz2]⟩
    rw[show({tmps:=(#[7].zip #[v]).foldl (fun t (p,v)=>t.setIfInBounds p v) arr2,defers:=[]}:Act)=(⟨arr2,[]⟩:Act).put (some 7) v from by simp[Act.put]]
    refine mr (m:=2) (L:=E2.L) (K:=fun s=>s=⟨[(2,.ptr 0 0),(5,.aX (ep e dI p) 0)],[some (.cells 104 [.raw (.slice none 0 0)]),none]⟩) rfl rfl hsA rfl (by
      refine au 2 rfl ?_
      refine HE 1 (σ':=[some (.cells 104 [.raw (.slice none 0 0)]),none]) (t':=[(2,.ptr 0 0),(5,.aX (ep e dI p) 0)]) (blk:=.cells 107 (ep e dI p)) rfl ⟨rfl,rfl,fun j hj=>.inl (by match j,hj with|0,_=>rfl|1,h=>exact absurd rfl h|_+2,_=>rfl)⟩ (.cons 2 rfl (.same _)<|.cons 5 rfl (.ptr 0) .nil) ?_
      exact aZ rfl) ?_
    rintro _ Ea a7 Wa rfl hsB gB bB
    have hEa:Ext W1 Wa:=by
      refine⟨bB.os,bB.tape,bB.output,bB.size,fun k hk=>?_⟩
      rcases Nat.lt_or_ge k w.heap.size with h|h
      · exact bB.block k h
      · by_cases hm:E2.M k
        · rcases (hsA.sat.mm k).1 hm with hf | ⟨i, blk, hi, hbk⟩
          · exact absurd (hF k hf) (by omega)
          · match i,hi with
            |0,hi=>
              cases hi
              rw[hB]at hbk
              cases hbk
              obtain⟨B1,c1,q1,_,q2,q3⟩:=hsA.sat.blk 0 _ rfl
              obtain⟨B2,c2,q4,_,q5,q6⟩:=hsB.sat.blk 0 _ rfl
              have e0:Ea.at_ 0=E2.at_ 0:=gB.at_ 0 (by rw[hsA.sat.len];simp)
              rw[hB]at q1
              rw[e0,hB]at q4
              cases q1
              cases q4
              rw[q2,q5]
              have:c1=c2:=by
                obtain⟨c1⟩:=c1
                obtain⟨c2⟩:=c2
                match c1,c2,q3,q6 with
                | [x1],[x2],q3,q6=>
                  have r1:=dO (q3.2 0 x1 _ rfl rfl)
                  have r2:=dO (q6.2 0 x2 _ rfl rfl)
                  rw[r1,r2]
              rw[this]
        · exact gB.heap k hk hm
    refine⟨hEa,fun Wb hlb hEb hzb hoth hvb=>?_⟩
    have hla:Wa.heap[l2]? =some (.loop rl):=(hEa.block _ (Array.getElem?_eq_some_iff.1 hrl).1).trans hrl
    have hsC:dG F0 w.heap.size 13 ⟨[(2,.ptr 0 0),(5,.aX (ep e dI p) 0)],[some (.cells 104 [.raw (.slice none 0 0)]),none]⟩ Ea a7 Wb:=
      ⟨hsB.sat.other hla hzb hoth,hsB.tmp.other hla hzb hoth,hsB.j7,hsB.size⟩
    refine wpIn_block ?_
    refine mr (m:=5) (L:=Ea.L) (K:=fun s=>s.σ=[some (.cells 104 [.own 3]),none,none,some (.row 107 3 1 (ep e dI p))]) rfl rfl hsC rfl (by
      refine au 2 rfl ?_
      refine bE (aQ (xs:=ep e dI p) rfl (bL.sl.get rfl) ⟨Nat.le_of_ble_eq_true rfl,Nat.le_of_ble_eq_true rfl⟩ rfl rfl) rfl ?_
      refine Dd 8 107 3 rfl ?_
      refine cz (bA (e:=107) (s:=3) (by':=40) (i:=2) (m:=1) (n:=0) (xs:=[]) (ys:=ep e dI p) rfl (bL.rk.get rfl) rfl rfl rfl rfl ⟨by unfold maxLen;omega,by omega⟩) rfl ?_
      refine bd (cG rfl (bL.tk.get rfl) rfl rfl rfl (Nat.le_of_ble_eq_true rfl)) rfl rfl ?_
      exact aZ rfl) ?_
    rintro⟨t8,σ8⟩ E8 a8 W3 hσ8 hs8 g8 b8
    simp only at hσ8
    subst hσ8
    have e0:E8.at_ 0= .pointer (some ⟨B,0,none⟩):=by
      rw[g8.at_ 0 (by rw[hsC.sat.len];simp),gB.at_ 0 (by rw[hsA.sat.len];simp),hB]
    obtain⟨B',cs8,q1,_,q2,q3⟩:=hs8.sat.blk 0 _ rfl
    rw[e0]at q1
    cases q1
    obtain⟨cl8⟩:=cs8
    match cl8,q3 with
    | [c8],q3=>
    have hown:=q3.2 0 c8 _ rfl rfl
    have hrep:cC (EF F0) W3 c8 (.slice 1 (ep e dI p)):=(aC.fu (i:=3) rfl (show an _ (ep e dI p) (ep e dI p) from an.pure)).rep hs8.sat (G:=F0) (fun b hb=>(hs8.sat.mm b).2 (.inl hb)) (fun b hb=>(hs8.sat.fb b hb).2) _ hown
    refine⟨⟨b8.size,fun k h1 h2=>g8.heap k h2 (fun hm=>?_)⟩,c8,q2,hrep,b8⟩
    rcases(hsC.sat.mm k).1 hm with hf|⟨i,blk,hi,hbk⟩
    · exact absurd (hF2 k hf) (by omega)
    · match i,hi with
      |0,hi=>
        rw[gB.at_ 0 (by rw[hsA.sat.len];simp),hB]at hbk
        cases hbk
        exact absurd (show w2.heap.size≤B from h1) (by omega)
      |1,hi=>cases hi
  · intro Wb W3 W' hEb hlt hle hrx hrest hD
    obtain⟨c,hc1,hc2,hc3⟩:=hrx
    have hcW:W'.heap[B]? =some (.cells #[c] 104 (0,0)):=hrest.cells _ _ hc1 rfl
    have hcell:W'.cell? ⟨B,0,none⟩=some c:=by simp[World.cell?,hcW]
    have hz2':a2.tmps.size=13:=hz2
    refine wpIn_seq (wpIn_region ?_)
    refine lN (.inl rfl) rfl rfl (fun c e=>by cases e) (Bw rfl (bL.tk.get rfl) (show Act.eval {a2 with defers:=_} (.tmp 2)=_ from h2) hcell) ?_
    refine lN (.inl rfl) rfl rfl (fun c e=>by cases e) (ve rfl) ?_
    refine wpIn_ret ?_
    show LeavesInM _ _ _ _ _ _ (_::a2.defers) _ _
    rw[hd2]
    refine⟨by simp,.inl ⟨_,_,rfl,run_takeDeferred hD,?_⟩⟩
    refine⟨c,?_,c,rfl,?_,_,rfl,?_⟩
    · refine(results_tmp rfl _ _ _).trans ?_
      congr 1
      refine(lT (k:=4) (a:=Act.put {a2 with defers:=_} (some 12) c) (v:=_) (by show 4<(a2.tmps.setIfInBounds 12 c).size;simp[hz2'])).trans ?_
      exact lT (k:=12) (a:= {a2 with defers:=_}) (by show 12<a2.tmps.size;omega)
    · have h1:=hEb
      have hs1:=hE2.size
      refine⟨hrest.os.trans (hc3.os.trans (hEb.os.trans hE2.os)),hrest.tape.trans (hc3.tape.trans (hEb.tape.trans hE2.tape)),hrest.output.trans (hc3.output.trans (hEb.output.trans hE2.output)),?_,fun k hk=>?_⟩
      · have:=hrest.size;simp only[World.putObj_size];omega
      · rw[World.putObj_heap_other (by omega),hrest.block k (by omega) (.inl (by omega)),hc3.block k hk,hEb.block k (by omega),hE2.block k hk]
    · have hr1:=cC.cells hrest.size hrest.cells hc2
      have hrp:fk.Rest 0 (w2.heap.size+1) W' (W'.putObj w2.heap.size (.deferred none)):=Rest.put hD rfl (Nat.zero_le _) (Nat.lt_succ_self _)
      exact cC.cells hrp.size hrp.cells hr1
theorem vX{xv pv:PV}[IsPure xv][IsPure pv]{e:Nat}{dI:Int}{p:List Int}
  (hin:∀(F0:Nat→Prop) (xb pb:Value) (W':World),(∀b,F0 b→b<W'.heap.size)→gZ F0 W'→cC (EF F0) W' xb xv→cC (EF F0) W' pb pv→yV Tryz.prog 165 #[xb,pb] (GR F0 e dI p) W'):
  Can Tryz.prog 127 [.func 165 [xv,pv]] (· = .slice 1 (ep e dI p)):=by
 refine aG Tryz.func127 rfl Tryz.ntmps127 rfl ?_
 haveI:aJ (ep e dI p):=by unfold ep;infer_instance
 exact ab (.a 1 rfl<|.k [0] rfl)<|ab (.a 1 rfl<|.c rfl (AV hin) rfl<|.a 1 rfl<|.k [2] rfl)<|aq<|⟨_,_,az.of rfl,aC.pure,rfl⟩
theorem rL(ys:List PV)[aJ ys]:Can Tryz.prog 128 [.aX ys 0,.raw (.slice none 0 0)] (· = .func 165 [.aX [.aX ys 0] 0,.aX [aw []] 0]):=by
 refine aG Tryz.func128 rfl Tryz.ntmps128 rfl<|aR<|cz (fJ (xs:=[_]) rfl rfl rfl) rfl<|cz (fJ (xs:=[_]) rfl rfl rfl) rfl<|au 1 rfl<|aH [2,3] rfl ?_
 exact ab (.a 2 rfl<|.k [4] rfl)<|aq<|⟨_,_,az.of rfl,aC.iC (an.cons (aC.jh (i:=0) (ys:=[.aX ys 0]) rfl (show an _ [.aX ys 0] [.aX ys 0] from an.pure))<|an.cons (aC.jh (i:=1) rfl (an.cons aC.b7 an.nil)) an.nil),rfl⟩
section
variable {T:ai} {tb:Nat→dR} {p0:eU} {Φ:Nat→Nat→List bY→Prop}
theorem Good.G4{v:PV}{n:Nat}{s:List bY}{c:Int}(h:Good T tb p0 Φ v n s c):∃ys,v= .aX ys 0∧aJ ys:=by
 obtain⟨vs,cs,e1,e2,e3,e4,e5⟩:=h.parts
 haveI:aJ vs:=⟨fun i x hx=>by
  have hlt:=(List.getElem?_eq_some_iff.1 hx).1
  have:=(e5 i (by rw[←e2];exact hlt)).pure
  rw[List.getD_eq_getElem?_getD,hx]at this
  exact this⟩
 exact⟨_,e1,by unfold du;infer_instance⟩
theorem EY(hL:Lone T tb p0 Φ):∀(u n:Nat) (s:List bY) (v:PV) (c:Int),Φ u n s→Good T tb p0 Φ v n s c→∃(p:List Int) (e:Nat) (dI:Int),Br T tb p0 n s p e dI∧dI= -1∧p.length≤u∧c=1∧
  ∀pre:List Int,pre.length+u≤1000→∀(F0:Nat→Prop) (xb pb:Value) (W₀:World),(∀b,F0 b→b<W₀.heap.size)→gZ F0 W₀→cC (EF F0) W₀ xb (.aX [v] 0)→cC (EF F0) W₀ pb (.aX [aw pre] 0)→yV Tryz.prog 165 #[xb,pb] (GR F0 e dI (pre++p)) W₀:=by
 intro u
 induction u using Nat.strongRecOn with
 |_ u ih=>
 intro n s v c hΦ hg
 obtain⟨vs,cs,rfl,e2,e3,e4,e5⟩:=hg.parts
 have hone:=hL.one hΦ
 cases ha:(bV T tb p0 n s).aI with
 |nil=>
  have hvs:vs=[]:=List.eq_nil_of_length_eq_zero (by rw[e2,ha];rfl)
  subst hvs
  have hc:c=1:=by rw[e4,ha];rfl
  refine⟨[],n,(bV T tb p0 n s).dI,.stop ha,hL.del hΦ ha,Nat.zero_le _,hc,fun pre hpl F0 xb pb W₀ hF gl hX hP=>?_⟩
  rw[List.append_nil]
  exact Gc ha (by omega) hF gl hX hP
 |cons a l=>
  have hl:l=[]:=by
   rw[ha]at hone
   exact List.eq_nil_of_length_eq_zero (by simp only[List.length_cons]at hone;omega)
  subst hl
  have hmem:a∈(bV T tb p0 n s).aI:=by rw[ha];exact List.mem_singleton.2 rfl
  have hstep:∃b m:Nat,a=(b:Int)∧b<2*T.ae.length∧aS T b=(m:Int)∧∃u',u'<u∧Φ u' m (bV T tb p0 n s).ft.stack:=by
   rcases hL.runs.step hΦ with h|⟨_,_,h⟩
   ·rw[ha]at h;cases h
   ·exact h a hmem
  obtain⟨b,m,hab,hb,hm,u',hu,hΦ'⟩:=hstep
  have h0:=e5 0 (by rw[ha];exact Nat.one_pos)
  rw[ha,List.getD_cons_zero,hab,Int.toNat_natCast,hm,Int.toNat_natCast]at h0
  match vs,cs,e2,e3,e4,h0 with
  | [],_,e2,_,_,_=>rw[ha]at e2;cases e2
  |_::_::_,_,e2,_,_,_=>rw[ha]at e2;simp at e2
  | [v1],[],_,e3,_,_=>rw[ha]at e3;cases e3
  | [v1],_::_::_,_,e3,_,_=>rw[ha]at e3;simp at e3
  | [v1],[c1],_,_,e4,h0=>
  rw[List.getD_cons_zero,List.getD_cons_zero]at h0
  obtain⟨ys,rfl,hys⟩:=h0.G4
  obtain⟨q,e,dI,i1,i2,i3,i4,i5⟩:=ih u' hu m _ _ _ hΦ' h0
  have hc:c=1:=by rw[e4,ha,i4];rfl
  refine⟨a::q,e,dI,.go hmem (by rw[hab,Int.toNat_natCast];exact hm) i1,i2,by simp only[List.length_cons];omega,hc,fun pre hpl F0 xb pb W₀ hF gl hX hP=>?_⟩
  exact EU ha (by omega) hF gl hX hP (fun xb' pb' W' hF' gl' hx hp=>i5 (pre++[a]) (by simp only[List.length_append,List.length_singleton];omega) F0 xb' pb' W' hF' gl' hx hp)
set_option maxHeartbeats 4000000 in
theorem Et(hL:Lone T tb p0 Φ)(hv:ao T=true)(h12:T.nodes≤12){U:List (Nat×List bY)}(hU:∀ {u n s},Φ u n s→(n,s)∈U)(hUl:U.length≤1000000)(tbs:List dR)(htl:(tbs.length:Int)=T.nodes)(htb:∀n:Nat,(n:Int)<T.nodes→tbs[n]? =some (tb n))
  (hok:∀n:Nat,(n:Int)<T.nodes→(tb n).node=(n:Int)∧dD T (tb n)=true) {u n:Nat} {p:eU} (hΦ:Φ u n p.stack) (hu:u≤1000) (hp:cS p p.stack=cS p0 p.stack):
  Can Tryz.prog 77 [aN T,iw tbs,eS p,num n] (fun r=>∃q e,Br T tb p0 n p.stack q e (-1)∧q.length≤u∧r= .tuple [.slice 1 (ep e (-1) q),num 0]):=by
 refine aG Tryz.func77 rfl Tryz.ntmps77 rfl<|ab (.a 4 rfl<|.k [1,3,4,6] rfl)<|aR<|au 4 rfl<|cQ rfl rfl (bU.mono (bU.Co (ry hL.runs hv h12 hU hUl tbs htl htb hok hΦ hp)) (fun y σ' h=>?_))
 obtain⟨⟨v,c,L,rfl,hg,hLl,hall⟩,rfl⟩:=h
 refine au 7 rfl<|aH [10,12] rfl ?_
 obtain⟨q,e,dI,hbr,rfl,hql,hc1,honce⟩:=EY hL u n p.stack v c hΦ hg
 obtain⟨ys,hys,hyp⟩:=hg.G4
 obtain⟨vs,cs,hvs,_,_,_,_⟩:=hg.parts
 have hon:=honce [] (by simp;omega)
 rw[List.nil_append]at hon
 subst hc1
 have hcol:Can Tryz.prog 127 [.func 165 [.aX [v] 0,.aX [aw []] 0]] (· = .slice 1 (ep e (-1) q)):=by
  haveI:=hg.pure
  exact vX hon
 subst hvs
 cases hys
 refine ak<|ab (.a 2 rfl<|.k [10,12,23] rfl)<|ah rfl (fun hc=>?_) (fun hc=>?_)
 ·cases hc
 ·refine aj<|ak<|ab (.a 3 rfl<|.v (aO rfl (rfl)) rfl<|.a 1 rfl<|.k [10,29] rfl)<|ah rfl (fun hc=>?_) (fun hc=>?_)
  ·cases hc
  ·refine aj<|ab (.a 1 rfl<|.c rfl (rL _) rfl<|.c rfl (hcol) rfl<|.a 2 rfl<|.k [8,9] rfl)<|aq ?_
   haveI:aJ (ep e (-1) q):=by unfold ep;infer_instance
   exact⟨_,_,az.of rfl,aC.pure (p:=.tuple [.slice 1 (ep e (-1) q),num 0]),q,e,hbr,hql,rfl⟩
end
end PW
end Go.Proofs.YtnegbdpggideiaaGreatDoor
namespace Go.Proofs.YtnegbdpggideiaaGreatDoor
namespace PW
open Go.RowKit cE Mem Net fk
section
variable {T:ai} {tb tb':Nat→dR} {p0:eU} {Φ:Nat→Nat→List bY→Prop}
theorem mT(h:∀u n s,Φ u n s→tb' n=tb n){u n:Nat}{s:List bY}(hΦ:Φ u n s):bV T tb' p0 n s=bV T tb p0 n s:=by unfold bV;rw[h u n s hΦ]
theorem ib.congr(h:∀u n s,Φ u n s→tb' n=tb n)(R:ib T tb p0 Φ):ib T tb' p0 Φ where
 node:=R.node
 small:=R.small
 step:=fun hΦ=>by
  rw[mT h hΦ]
  exact R.step hΦ
theorem Lone.congr(h:∀u n s,Φ u n s→tb' n=tb n)(R:Lone T tb p0 Φ):Lone T tb' p0 Φ where
 runs:=R.runs.congr h
 one:=fun hΦ=>by
  rw[mT h hΦ]
  exact R.one hΦ
 del:=fun hΦ ha=>by
  rw[mT h hΦ]at ha ⊢
  exact R.del hΦ ha
theorem Br.congr(h:∀u n s,Φ u n s→tb' n=tb n)(R:ib T tb p0 Φ){n e:Nat}{s:List bY}{q:List Int}{w:Int}(hb:Br T tb' p0 n s q e w):∀ {u},Φ u n s→Br T tb p0 n s q e w:=by
 induction hb with
 | @stop n s h0=>
  intro u hΦ
  rw[h _ _ _ hΦ]at h0 ⊢
  exact .stop h0
 | @go n m e s a p w ha hm hr ih=>
  intro u hΦ
  rw[h _ _ _ hΦ]at ha hr ih
  rcases R.step hΦ with h1|⟨_,_,h3⟩
  ·have h1':(dj T (tb n) (cS p0 s)).aI=[]:=h1
   rw[h1']at ha
   cases ha
  ·obtain⟨b,m',rfl,_,g3,u',_,g5⟩:=h3 a ha
   have:m'=m:=by rw[Int.toNat_natCast]at hm;omega
   subst this
   exact .go ha hm (ih g5)
end
noncomputable def rG(T:ai)(k x:Int)(l:List Int)(n:Nat):dR:=EZ T k x n (eO l n)
theorem D2{T:ai}{k x:Int}{l:List Int}{n:Nat}(h:¬Gn k x n):rG T k x l n=lr T (ay T k x) (fun n=>eO l n) n:=by
 unfold rG EZ lr
 rw[if_neg (by rw[mM.2 h];decide)]
theorem xD{T:ai}(hv:ao T=true){n:Nat}(hn:(n:Int)<T.nodes):dD T (zt T n)=true:=by
 unfold dD zt
 have h1:bn T (n:Int)=true:=aU.2 ⟨by omega,hn⟩
 have hN:=(aK hv).nodes
 have h2:decide (((List.replicate T.nodes.toNat (⟨[],false,[]⟩:iE)).length:Int)=T.nodes)=true:=decide_eq_true (by rw[List.length_replicate];omega)
 have h3:eI T n (bH T n)=true:=qx (lF T n) fun _ ha=>iS.1 ha
 have h4:nd T n (List.replicate T.nodes.toNat (⟨[],false,[]⟩:iE))=true:=iY fun d e he=>by
  have:e=⟨[],false,[]⟩:=(List.mem_replicate.1 (List.mem_of_getElem? he)).2
  subst this
  unfold iU eI
  simp
 rw[hv,h1,h2,h3,h4]
 rfl
theorem DD{T:ai}{k x:Int}{l:List Int}(hv:ao T=true)(h12:T.nodes≤12):∀n:Nat,(n:Int)<T.nodes→(rG T k x l n).node=(n:Int)∧dD T (rG T k x l n)=true:=fun n hn=>by
 unfold rG EZ
 split
 ·exact⟨rfl,xD hv hn⟩
 ·have ht:=nW (D:=ay T k x) (M:=ay T k x) hv h12 hn (da T k x) (fun a h=>h) (eO l n)
  exact⟨ht.node,ht.ok⟩
theorem Fy{T:ai}{k x:Int}{l:List Int}{m n:Nat}(h:n<m):(qt T k x l m)[n]? =some (rG T k x l n):=by
 unfold qt rG
 rw[List.getElem?_map,List.getElem?_range h]
 rfl
def Iw(T:ai)(k x:Int)(l:List Int)(s d:Int):Int:=if Au T k x l=0 then(if(bn T s&&bn T d)=true then 0 else 2) else Au T k x l
noncomputable def IZ(T:ai)(k x:Int)(l:List Int):List dR:=if Au T k x l=0 then qt T k x l l.length else []
theorem A5(T:ai)(k x:Int)(l:List Int)(s d:Int)(hl:l.length≤1000)(h12:T.nodes≤12):Can Tryz.prog 89 [aN T,bS k x,aw l,num s,num d] (· = .tuple [iw (IZ T k x l),eS ⟨0,s,d,0,[],0⟩,num (Iw T k x l s d)]):=by
 obtain⟨e,he⟩:∃e,Au T k x l=e:=⟨_,rfl⟩
 obtain⟨q0,hq0⟩:∃q,decide (e=0)=q:=⟨_,rfl⟩
 obtain⟨q1,hq1⟩:∃q,bn T s=q:=⟨_,rfl⟩
 obtain⟨q2,hq2⟩:∃q,bn T d=q:=⟨_,rfl⟩
 obtain⟨L,hL⟩:∃L,IZ T k x l=L:=⟨_,rfl⟩
 have ht:Can Tryz.prog 20 [aN T,bS k x,aw l] (· = .tuple [iw L,num e]):=by
  have h:=As T k x l hl h12
  unfold Hc at h
  rw[he]at h
  unfold IZ at hL
  rw[he]at hL
  rw[hL]at h
  exact h
 have hE:Iw T k x l s d=if q0=true then(if(q1&&q2)=true then 0 else 2) else e:=by
  unfold Iw
  rw[he,hq1,hq2,←hq0]
  simp
 rw[hE,hL]
 refine aG Tryz.func89 rfl Tryz.ntmps89 rfl<|aR<|au 5 rfl<|aH [2,3,4,5,6,11] rfl ?_
 refine ab (.a 3 rfl<|.c rfl (ht) rfl<|.a 5 rfl<|.k [3,4,5,11,13,14] rfl)<|ak<|bu 35 (.raw (.bool (q0&&(!q1 || !q2)))) [3,4,11,13,14] rfl ?_ ?_
 ·refine .a 1 rfl<|.v (cg rfl (hq0)) rfl<|.a 1 rfl<|?_
  cases q0
  ·exact .a 11 rfl<|.k [35,3,4,11,13,14] rfl
  ·refine .a 2 rfl<|.c rfl (hq1▸df T s) rfl<|.a 2 rfl<|?_
   cases q1
   ·exact .a 6 rfl<|.k [35,3,4,11,13,14] rfl
   ·exact .a 2 rfl<|.c rfl (hq2▸df T d) rfl<|.a 3 rfl<|.k [35,3,4,11,13,14] rfl
 refine ah rfl (fun hc=>?_) (fun hc=>?_)
 ·have hR:(if q0=true then(if(q1&&q2)=true then(0:Int) else 2) else e)=2:=by
   cases q0<;>cases q1<;>cases q2<;>simp_all
  refine aB (.a 1 rfl<|.k [3,4,11,13,14] rfl) ?_
  refine aR<|au 8 rfl<|aH [10,11,12] rfl ?_
  exact aq<|⟨_,_,az.of rfl,aC.bz (an.cons aC.pure<|an.cons (aC.ja (an.cons aC.pure<|an.cons aC.pure<|an.cons aC.pure<|an.cons aC.pure<|an.cons aC.b7<|an.cons aC.pure an.nil))<|an.cons aC.pure an.nil),by rw[hR];rfl⟩
 ·have hR:(if q0=true then(if(q1&&q2)=true then(0:Int) else 2) else e)=e:=by
   cases q0<;>cases q1<;>cases q2<;>simp_all
  refine aj<|aR<|au 8 rfl<|aH [10,11,12] rfl ?_
  exact aq<|⟨_,_,az.of rfl,aC.bz (an.cons aC.pure<|an.cons (aC.ja (an.cons aC.pure<|an.cons aC.pure<|an.cons aC.pure<|an.cons aC.pure<|an.cons aC.b7<|an.cons aC.pure an.nil))<|an.cons aC.pure an.nil),by rw[hR];rfl⟩
section
variable {T:ai} {k x:Int} {l:List Int} {s d:Nat} {Φ:Nat→Nat→List bY→Prop}
theorem Gb(hl:l.length≤1000)(h12:T.nodes≤12)(hE:Au T k x l=0)(hs:(s:Int)<T.nodes)(hd:(d:Int)<T.nodes):Can Tryz.prog 89 [aN T,bS k x,aw l,num s,num d] (· = .tuple [iw (qt T k x l l.length),eS ⟨0,s,d,0,[],0⟩,num 0]):=by
 have h:=A5 T k x l s d hl h12
 have h1:Iw T k x l s d=0:=by
  unfold Iw
  rw[if_pos hE,if_pos (by rw[aU.2 ⟨by omega,hs⟩,aU.2 ⟨by omega,hd⟩];rfl)]
 have h2:IZ T k x l=qt T k x l l.length:=by unfold IZ;rw[if_pos hE]
 rw[h1,h2]at h
 exact h
theorem Di(h:Au T k x l=0):(ao T&&bW T k x)=true∧(l.length:Int)=T.nodes∧fw T k x l=true:=by
 unfold Au at h
 split at h
 ·rename_i h1
  obtain⟨h2,h3⟩:=Bool.and_eq_true_iff.1 h1
  split at h
  ·rename_i h4
   exact⟨h2,of_decide_eq_true h3,h4⟩
  ·cases h
 ·cases h
theorem tm(h12:T.nodes≤12)(hE:Au T k x l=0)(hs:(s:Int)<T.nodes)(hd:(d:Int)<T.nodes)(hL:Lone T (rG T k x l) ⟨0,s,d,0,[],0⟩ Φ){U:List (Nat×List bY)}(hU:∀ {u n s},Φ u n s→(n,s)∈U)(hUl:U.length≤1000000){u:Nat}(hΦ:Φ u s [])(hu:u≤1000):
  Can Tryz.prog 33 [aN T,bS k x,aw l,num s,num d] (fun r=>∃q e,Br T (rG T k x l) ⟨0,s,d,0,[],0⟩ s [] q e (-1)∧q.length≤u∧r= .tuple [aw q,num 0]):=by
 obtain⟨hvc,hln,_⟩:=Di hE
 have hv:=(Bool.and_eq_true_iff.1 hvc).1
 have hl:l.length≤1000:=by omega
 have hpr:=Gb (k:=k) (x:=x) hl h12 hE hs hd
 have htl:((qt T k x l l.length).length:Int)=T.nodes:=by rw[uG];exact hln
 have htb:∀n:Nat,(n:Int)<T.nodes→(qt T k x l l.length)[n]? =some (rG T k x l n):=fun n hn=>Fy (by omega)
 have har:=uu hL.runs hL.del hv h12 hU hUl (qt T k x l l.length) htl htb (DD hv h12) (p:=⟨0,s,d,0,[],0⟩) hΦ rfl
 have hal:=Et hL hv h12 hU hUl (qt T k x l l.length) htl htb (DD hv h12) (p:=⟨0,s,d,0,[],0⟩) hΦ hu rfl
 obtain⟨L,hLL⟩:∃L,qt T k x l l.length=L:=⟨_,rfl⟩
 rw[hLL]at hpr har hal
 refine aG Tryz.func33 rfl Tryz.ntmps33 rfl<|ab (.a 4 rfl<|.k [2,3,4,5,6] rfl)<|aR<|au 5 rfl<|er rfl (hpr) rfl<|au 8 rfl<|aH [3,5,12,13,14] rfl ?_
 refine ak<|ab (.a 2 rfl<|.k [3,5,12,13,14,28] rfl)<|ah rfl (fun hc=>?_) (fun hc=>?_)
 ·cases hc
 ·refine aj<|ab (.a 2 rfl<|.v (iF rfl (rfl) rfl) rfl<|.a 1 rfl<|.c rfl (har) rfl<|.a 5 rfl<|.k [3,5,12,13,14,15] rfl)<|ak<|ab (.a 2 rfl<|.k [3,5,12,13,14,15,39] rfl)<|ah rfl (fun hc=>?_) (fun hc=>?_)
  ·cases hc
  ·refine aj<|ak<|ab (.a 2 rfl<|.k [3,5,12,13,42] rfl)<|ah rfl (fun hc=>?_) (fun hc=>?_)
   ·cases hc
   ·refine aj<|aR<|au 4 rfl<|cQ rfl rfl (bU.mono (bU.Co hal) (fun y σ' h=>?_))
    obtain⟨⟨q,e,hbr,hql,rfl⟩,rfl⟩:=h
    refine au 5 rfl<|aH [14,16] rfl ?_
    refine ak<|ab (.a 7 rfl<|.k [16,57] rfl)<|ah rfl (fun hc=>?_) (fun hc=>?_)
    ·cases hc
    ·exact aj<|ab (.a 1 rfl<|.v (aM _ rfl (hj:=rfl)) rfl<|.a 1 rfl<|.v (aO rfl (rfl)) rfl<|.a 2 rfl<|.k [10,11] rfl)<|aq<|⟨_,_,az.of rfl,aC.pure (p:=.tuple [aw q,num 0]),q,e,hbr,hql,rfl⟩
end
end PW
end Go.Proofs.YtnegbdpggideiaaGreatDoor
