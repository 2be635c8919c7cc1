/- Texts of the proof, part 14. -/
import Derived.RangeFuncNested
import Derived.RangeFuncBound
import Derived.RangeFuncCalls
import Derived.RangeFuncLeaves
import Derived.Shelf.Abstract
import Derived.Shelf.RegionOpen
import Derived.WalkKit
import Derived.OwnWalkIn
import Derived.TacticsInMore
import Derived.LoopNIn
import Derived.LoopIn
import Derived.Test.YtnegbdpggideiaaGreatDoorCardXEB13
set_option linter.unusedVariables false
set_option linter.unusedSimpArgs false
set_option maxRecDepth 10000
set_option maxHeartbeats 1000000
namespace Go.Proofs.YtnegbdpggideiaaGreatDoor
namespace eY
section
open Go.RowKit Go.Shelf cG
structure Rest (a b:Nat) (w w':World):Prop where
 os:w'.os=w.os
 tape:w'.tape=w.tape
 output:w'.output=w.output
 size:w.heap.size≤w'.heap.size
 block:∀k,k<w.heap.size→(k<a∨b≤k)→w'.heap[k]? =w.heap[k]?
 cells:∀(k:Nat) (o:Obj),w.heap[k]? =some o→o.isCells=true→w'.heap[k]? =some o
theorem Rest.refl(a b:Nat)(w:World):Rest a b w w:=⟨rfl,rfl,rfl,Nat.le_refl _,fun _ _ _=>rfl,fun _ _ h _=>h⟩
theorem Rest.trans{a b:Nat}{w w' w'':World}(h:Rest a b w w')(k:Rest a b w' w''):Rest a b w w'':=
 ⟨k.os.trans h.os,k.tape.trans h.tape,k.output.trans h.output,Nat.le_trans h.size k.size,fun j h1 h2=>(k.block j (Nat.lt_of_lt_of_le h1 h.size) h2).trans (h.block j h1 h2),fun j o h1 h2=>k.cells j o (h.cells j o h1 h2) h2⟩
theorem Rest.wide{a b a' b':Nat}{w w':World}(h:Rest a b w w')(h1:a'≤a)(h2:b≤b'):Rest a' b' w w':=
 ⟨h.os,h.tape,h.output,h.size,fun k k1 k2=>h.block k k1 (by omega),h.cells⟩
theorem Rest.put{a b l:Nat}{w:World}{o o0:Obj}(h0:w.heap[l]? =some o0)(hc:o0.isCells=false)(h1:a≤l)(h2:l<b):Rest a b w (w.putObj l o):=
 ⟨rfl,rfl,rfl,by simp,fun k _ k2=>World.putObj_heap_other (by omega),fun k o1 k1 k2=>(World.putObj_heap_other (fun e=>by subst e;rw[h0]at k1;cases k1;rw[hc]at k2;cases k2)).trans k1⟩
theorem GW{w w':World}(h:Ext w w'){l:Nat}{o:Obj}(hl:w.heap.size≤l):Ext w (w'.putObj l o):=
 ⟨h.os,h.tape,h.output,by simp;exact h.size,fun k hk=>(World.putObj_heap_other (by omega)).trans (h.block k hk)⟩
def Calm(G:Value→World→Prop):Prop:=∀v w l r o,G v w→w.heap[l]? =some (Obj.loop r)→G v (w.putObj l o)
def zD(P:Program)(g:Nat)(lb:Array Value)(G:Value→World→Prop)(W₀:World):Prop:=
 ∀(n l:Nat) (W:World) (R:World→World→Prop),Below W₀.heap.size W₀ W→
  (∀W1 W2,R W1 W2→W1.heap.size≤W2.heap.size∧∀k,W.heap.size≤k→k<W1.heap.size→W2.heap[k]? =W1.heap[k]?)→
  (∀m v W1,Ext W W1→G v W1→YieldAt Fence.wide m P l #[v] W1 fun e W2=>e= .returned (.bool true)∧R W1 W2)→
  CallsIn Fence.wide n P g (#[.func (.yield l) #[] #[]]++lb) W fun e W'=>(∃v,e= .returned v)∧∃W1 W2,Ext W W1∧R W1 W2∧Rest W.heap.size W1.heap.size W2 W'
structure Left (s:Nat) (W1 W3:World):Prop where
 size:W1.heap.size≤W3.heap.size
 block:∀k,s≤k→k<W1.heap.size→W3.heap[k]? =W1.heap[k]?
theorem lW{P:Program}{n:Nat}{g:Operand}{ps:Array Tmp}{assign body:Code}{Q:Exit→Act→World→Prop}{a:Act}{w:World}
    {gf:Nat} {lb:Array Value} (hg:a.eval g= .func (.func gf) #[] lb) (eg:∀args w,(callFunc gf args).run P w= .ok (.enter gf args) w)
    {G:Value→World→Prop} (hG:Calm G) (hGx:∀v W W',G v W→Ext W W'→G v W') {W₀:World} (Dg:zD P gf lb G W₀) (hb0:Below W₀.heap.size W₀ w) (hps:ps.size=1) (Rx:World→World→Prop)
    (hround:∀m l v (W1:World),l=w.heap.size+1→(∃r,W1.heap[l]? =some (.loop r))→Ext w W1→G v W1→
      assign.wpIn (Fence.wide.inRound l) m P (Exit.then (fun a₁ Wa=>Ext W1 Wa∧∀Wb,(∃r,Wb.heap[l]? =some (.loop r))→Ext w Wb→Wb.heap.size=Wa.heap.size→(∀k,k≠l→Wb.heap[k]? =Wa.heap[k]?)→G v Wb→
        body.wpIn (Fence.wide.inRound l) m P (Exit.then (fun _ W3=>Left w.heap.size Wb W3∧Rx Wb W3) (fun _ _ _=>False)) a₁ Wb) (fun _ _ _=>False))
        {tmps:=(ps.zip #[v]).foldl (fun t (p,v)=>t.setIfInBounds p v) a.tmps,defers:=[]} W1)
    (hdone:∀(Wb W3 W':World),Ext w Wb→w.heap.size<Wb.heap.size→Wb.heap.size≤W3.heap.size→Rx Wb W3→Rest w.heap.size Wb.heap.size W3 W'→W'.heap[w.heap.size]? =some (.deferred (some []))→Q .normal {a with defers:= {target:=.collected w.heap.size,args:= #[]}::a.defers} W'):
    (Code.rangeFunc g ps assign body).wpIn Fence.wide n P Q a w:=by
  refine wpIn_rangeFunc ?_
  intro fn hfn
  obtain⟨rec,hrec⟩:∃rec:LoopState→Option Code→Loop,rec=fun st pe=> {state:=st,pending:=pe,fn,tmps:=a.tmps,params:=ps,assign,body,defers:=w.heap.size}:=⟨_,rfl⟩
  obtain⟨W1,hW1⟩:∃W1,(w.alloc (.deferred (some []))).alloc (.loop (rec .ready none))=W1:=⟨_,rfl⟩
  have hL1:W1.heap[w.heap.size+1]? =some (.loop (rec .ready none)):=by
    rw[←hW1];have:=World.alloc_heap_new (w.alloc (.deferred (some []))) (.loop (rec .ready none));rwa [World.size_alloc]at this
  have hK1:W1.heap[w.heap.size]? =some (.deferred (some [])):=by
    rw[←hW1];exact(Below.heap_alloc _ _ _ (by simp)).trans (World.alloc_heap_new w _)
  have hz1:W1.heap.size=w.heap.size+2:=by rw[←hW1];simp
  have hE1:Ext w W1:=by rw[←hW1];exact((Ext.refl w).alloc _).alloc _
  have hb1:Below W₀.heap.size W₀ W1:=hb0.trans (Below.mono hE1 hb0.size)
  refine⟨w.heap.size+1,[{target:=.collected w.heap.size,args:= #[]}],W1,{target:=.fn (.func gf) lb,args:= #[.func (.yield (w.heap.size+1)) #[] #[]]},W1,gf,
    #[.func (.yield (w.heap.size+1)) #[] #[]]++lb,W1,?_,?_,?_,?_,fun h=>by simp[Fence.wide]at h,?_⟩
  · rw[←hW1,hrec];exact run_enterLoop_outer _ _ _ _ _
  · simp only[resolve,hg]
    simp[go_sem]
  · intro f' _;trivial
  · simp[invoke,go_sem,eg]
  · refine (Dg (n - 1) (w.heap.size + 1) W1 (fun A B => A.heap.size ≤ B.heap.size ∧ (∀ k, W1.heap.size ≤ k → k < A.heap.size → B.heap[k]? = A.heap[k]?) ∧
        ∃Wb W3,Ext w Wb∧A.heap.size≤Wb.heap.size∧Wb.heap.size≤W3.heap.size∧Rx Wb W3∧Rest w.heap.size W1.heap.size W3 B∧B.heap[w.heap.size+1]? =some (.loop (rec .ready none))∧B.heap[w.heap.size]? =some (.deferred (some []))) hb1 (fun A B h=>⟨h.1,h.2.1⟩) ?_).mono ?_
    ·
      intro m v W2 hE2 hv
      have hl:W2.heap[w.heap.size+1]? =some (.loop (rec .ready none)):=(hE2.block _ (by omega)).trans hL1
      have hk:W2.heap[w.heap.size]? =some (.deferred (some [])):=(hE2.block _ (by omega)).trans hK1
      have hlt:w.heap.size+1<W2.heap.size:=(Array.getElem?_eq_some_iff.1 hl).1
      have hy:=run_yield (P:=P) (args:= #[v]) hl (by rw[hrec];exact hps.symm)
      rw[hrec]at hy
      refine⟨fn,_,assign,body,hy,roundIn_of_wpIn hfn (wpIn_mono (hround m _ v W2 rfl ⟨_,hl⟩ (hE1.trans hE2) hv) ?_)⟩
      rintro e a1 Wa he
      cases e with
      |normal=>
        obtain⟨hEa,hb⟩:=he
        have hla:Wa.heap[w.heap.size+1]? =some (.loop (rec .ready none)):=(hEa.block _ hlt).trans hl
        have hlta:w.heap.size+1<Wa.heap.size:=(Array.getElem?_eq_some_iff.1 hla).1
        have hza:=hEa.size
        refine⟨_,run_beginRound hla (by rw[hrec]),?_⟩
        obtain⟨Wb,hWb⟩:∃Wb,Wb=Wa.putObj (w.heap.size+1) (.loop {rec .ready none with state:=.busy}):=⟨_,rfl⟩
        have hl2:Wb.heap[w.heap.size+1]? =some (.loop {rec .ready none with state:=.busy}):=by rw[hWb];exact World.putObj_heap_same hlta
        have hk2:Wb.heap[w.heap.size]? =some (.deferred (some [])):=by rw[hWb];exact(World.putObj_heap_other (by omega)).trans ((hEa.block _ (by omega)).trans hk)
        have hzb:Wb.heap.size=Wa.heap.size:=by rw[hWb];simp
        have hEb:Ext w Wb:=by rw[hWb];exact GW ((hE1.trans hE2).trans hEa) (by omega)
        have hother:∀k,k≠w.heap.size+1→Wb.heap[k]? =Wa.heap[k]? :=fun k hk=>by rw[hWb];exact World.putObj_heap_other hk
        rw[←hWb]
        refine wpIn_mono (hb Wb ⟨_,hl2⟩ hEb hzb hother (by rw[hWb];exact hG _ _ _ _ _ (hGx _ _ _ hv hEa) hla)) ?_
        rintro e2 a3 W3 hp
        cases e2 with
        |normal=>
          obtain⟨hleft,hrx⟩:=hp
          have hl3:W3.heap[w.heap.size+1]? =some (.loop {rec .ready none with state:=.busy}):=(hleft.block _ (by omega) (by omega)).trans hl2
          have hk3:W3.heap[w.heap.size]? =some (.deferred (some [])):=(hleft.block _ (by omega) (by omega)).trans hk2
          have he:=run_endRound (P:=P) none hl3
          rw[hrec]at he
          have hs3:=hleft.size
          refine⟨_,_,he,rfl,?_,?_,Wb,W3,hEb,by omega,hs3,hrx,?_,?_,?_⟩
          · simp only[World.putObj_size];omega
          · intro k h1 h2
            rw[World.putObj_heap_other (by omega),hleft.block k (by omega) (by omega),hother k (by omega),hEa.block k h2]
          · exact Rest.put hl3 rfl (by omega) (by omega)
          · have:=World.putObj_heap_same (w:=W3) (r:=w.heap.size+1) (o:=.loop (rec .ready none)) (by omega)
            rw[hrec]at this ⊢
            exact this
          · rw[World.putObj_heap_other (by omega)];exact hk3
        |_=>exact hp.elim
      |_=>exact he.elim
    ·
      rintro e W' ⟨⟨v,rfl⟩,A,B,hEA,⟨h1,h2,Wb,W3,k1,k2,k3,k4,k5,k6,k7⟩,hrest⟩
      have hzB:w.heap.size+1<B.heap.size:=(Array.getElem?_eq_some_iff.1 k6).1
      have hzA:=hEA.size
      have hl4:W'.heap[w.heap.size+1]? =some (.loop (rec .ready none)):=(hrest.block _ hzB (by omega)).trans k6
      have hk4:W'.heap[w.heap.size]? =some (.deferred (some [])):=(hrest.block _ (by omega) (by omega)).trans k7
      have he:=run_endLoop (P:=P) hl4 (by rw[hrec];simp)
      rw[hrec]at he
      refine⟨none,_,he,hdone Wb W3 _ k1 (by omega) k3 k4 ?_ ?_⟩
      · refine Rest.trans (k5.wide (Nat.le_refl _) (by omega)) (Rest.trans (hrest.wide (by omega) (by omega)) (Rest.put hl4 rfl (by omega) (by omega)))
      · rw[World.putObj_heap_other (by omega)];exact hk4
end
end eY
end Go.Proofs.YtnegbdpggideiaaGreatDoor
namespace Go.Proofs.YtnegbdpggideiaaGreatDoor
namespace PW
section
open Go.RowKit cG Mem
section
variable {P:Program} {ops:Array Oper} {n:Nat}
theorem Hk{o:Oper}{a:Act}{w:World}{K K':Act→World→Prop}{Q Q':Exit→Act→World→Prop}(hK:∀a w,K a w→K' a w)(hp:∀c a w,Q (.panic c) a w→Q' (.panic c) a w)(hL:¬LetsOut Q)(h:o.wp P a w K Q):o.wpIn Fence.wide n P a w K' Q':=by
 refine⟨fun _ _=>trivial,?_⟩
 rw[show Fence.wide.round=none from rfl,Oper.semAt_none]
 unfold Oper.wp at h
 generalize (execOp a.eval o).run P w=x at*
 cases x with
 |ok x w'=>
  cases x<;>simp only[Oper.uponIn,Oper.upon]at h ⊢
  case value v=>exact hK _ _ h
  case skip=>exact hK _ _ h
  case defer d=>exact hK _ _ h
  case enter f args=>exact⟨fun h=>by simp[Fence.wide]at h,callsIn_wide.2 (h.mono fun e w'' he=>by cases e<;>first|exact hK _ _ he|exact hp _ _ _ he|exact(hL he).elim)⟩
  case row r args=>exact⟨fun h=>by simp[Fence.wide]at h,fun c cs _=>by
   obtain⟨v,w',r,s⟩:=h c cs
   exact⟨v,w',hK _ _ r,stepsIn_wide.2 s⟩⟩
  all_goals exact h.elim
 |halt x w'=>cases x<;>simp only[Oper.uponIn,Oper.upon]at h ⊢ <;>first|exact hp _ _ _ h|exact h
section
variable {f m:Nat} (hB:xe ops f m=true)
include hB
theorem oM{Q:Exit→Act→World→Prop}:∀(r k:Nat) (a:Act) (w:World),k+r=ops.size→m≤k→wpOpsIn Fence.wide n P ops Q (List.range' k r) a w→wpAnyIn Fence.wide n P .any ops Q r (upto ops.size k) a w
 |0,k,a,w,hk,_,h=>by
  obtain rfl:k=ops.size:=by omega
  exact⟨tw,h⟩
 |r+1,k,a,w,hk,hm,h=>by
  have hr:=sC hB k (by omega) hm
  refine⟨fun h0=>absurd (hr.symm.trans h0) (by simp),fun i hi=>?_⟩
  rw[hr]at hi
  simp at hi
  subst hi
  rw[List.range'_succ,wpOpsIn_cons]at h
  rw[xf]
  exact wpOpIn_mono (fun a w h=>oM r (i+1) a w (by omega) (by omega) h) h
end
def qG(n:Nat)(P:Program)(ops:Array Oper)(Q:Exit→Act→World→Prop)(m r:Nat):Exit→Act→World→Prop
 | .normal,a,w=>wpOpsIn Fence.wide n P ops Q (List.range' m r) a w
 |_,_,_=>False
theorem uj{Q:Exit→Act→World→Prop}{m r:Nat}:¬LetsOut (qG n P ops Q m r):=fun⟨_,_,h⟩=>h
theorem sU{f m:Nat}(hB:xe ops f m=true)(hm:m≤ops.size){Q:Exit→Act→World→Prop}:∀(fuel:Nat) (l₁ ls:Array Bool) (a:Act) (w:World),l₁.size=m→ls.size=ops.size→(∀i,i<m→ls.getD i true=l₁.getD i true)→(∀i,m≤i→i<ops.size→ls.getD i true=false)→Down ops ls→bO ls m=fuel→
  wpAny P .any (ops.extract 0 m) (qG n P ops Q m (ops.size - m)) fuel l₁ a w→wpAnyIn Fence.wide n P .any ops Q (fuel+(ops.size - m)) ls a w:=by
 have hsz:(ops.extract 0 m).size=m:=by simp;omega
 have hget:∀i,i<m→(ops.extract 0 m)[i]? =ops[i]? :=fun i hi=>by rw[Array.getElem?_extract];simp;omega
 have haft:∀i,i<m→lT (ops.extract 0 m) i=lT ops i:=fun i hi=>by unfold lT;rw[hget i hi]
 intro fuel
 induction fuel with
 |zero=>
  intro l₁ ls a w hs1 hs2 hsame hrest hd hu h
  have:ls=upto ops.size m:=by
   apply Array.ext
   ·simp[upto,hs2]
   ·intro i h1 h2
    have hi:i<ops.size:=by omega
    have e:ls.getD i true=(upto ops.size m).getD i true:=by
     rw[gQ _ _ _ hi]
     by_cases him:i<m
     ·rw[dq hu i him];simp[him]
     ·rw[hrest i (by omega) hi];simp[him]
    simpa[h1,h2]using e
  rw[this]
  simpa using oM hB (ops.size - m) m a w (by omega) (Nat.le_refl _) h.2
 |succ fuel ih=>
  intro l₁ ls a w hs1 hs2 hsame hrest hd hu h
  have hf:∀b c (i:Nat),i<ops.size→ls.getD i b=ls.getD i c:=fun b c i hi=>by simp[show i<ls.size by omega]
  obtain⟨i0,hi0,hi1,hi2⟩:=fQ (ls:=ls) (m:=m) (by omega)
  have hrd:∀i,i∈Region.ready .any ops ls→i<m:=fun i hi=>by
   obtain⟨h1,h2,h3⟩:=cH.1 hi
   rcases Nat.lt_or_ge i m with h'|h'
   ·exact h'
   ·have:=ez hs2 hd (gU hB) f i i0 h1 (oZ hB i h1 h' i0 (by omega)) h3
    rw[hf false true i0 (by omega),hi1]at this
    cases this
  have hin:∀i,i∈Region.ready .any ops ls→i∈Region.ready .any (ops.extract 0 m) l₁:=fun i hi=>by
   have him:=hrd i hi
   obtain⟨h1,h2,h3⟩:=cH.1 hi
   refine cH.2 ⟨by omega,by rw[←hsame i him];exact h2,fun k hk=>?_⟩
   rw[haft i him]at hk
   have hki:=gU hB i h1 k hk
   have:=h3 k hk
   rw[hf false true k (by omega),hsame k (by omega)]at this
   simpa[show k<l₁.size by omega]using this
  have hi0r:i0∈Region.ready .any ops ls:=cH.2 ⟨by omega,hi1,fun k hk=>by
   have:=gU hB i0 (by omega) k hk
   rw[hf false true k (by omega)];exact hi2 k this⟩
  rw[show fuel+1+(ops.size - m)=(fuel+(ops.size - m))+1 by omega]
  refine⟨fun h0=>absurd hi0r (by rw[h0];simp),fun i hi=>?_⟩
  have him:=hrd i hi
  obtain⟨h1,h2,h3⟩:=cH.1 hi
  have hstep:=h.2 i (hin i hi)
  have next:∀a w,wpAny P .any (ops.extract 0 m) (qG n P ops Q m (ops.size - m)) fuel (l₁.setIfInBounds i true) a w→wpAnyIn Fence.wide n P .any ops Q (fuel+(ops.size - m)) (ls.setIfInBounds i true) a w:=fun a w hh=>by
   refine ih _ _ a w (by simpa using hs1) (by simpa using hs2) (fun j hj=>?_) (fun j hj hj'=>?_) (fun j hj hj' k hk=>?_) (by have:=fO h2 him (by omega);omega) hh
   ·by_cases e:i=j
    ·subst e;simp[show i<ls.size by omega,show i<l₁.size by omega]
    ·have:=hsame j hj
     simp only[Array.getD_eq_getD_getElem?,Array.getElem?_setIfInBounds_ne e]at this ⊢
     exact this
   ·have:=hrest j hj hj'
    simp only[Array.getD_eq_getD_getElem?,Array.getElem?_setIfInBounds_ne (show i≠j by omega)]at this ⊢
    exact this
   ·by_cases e:i=j
    ·subst e
     have hki:=gU hB i h1 k hk
     have:=h3 k hk
     simp only[Array.getD_eq_getD_getElem?,Array.getElem?_setIfInBounds_ne (show i≠k by omega)]at this ⊢
     exact this
    ·have hj2:ls.getD j true=true:=by
      simp only[Array.getD_eq_getD_getElem?,Array.getElem?_setIfInBounds_ne e]at hj ⊢
      exact hj
     have:=hd j hj2 hj' k hk
     by_cases e2:i=k
     ·subst e2;simp[show i<ls.size by omega]
     ·simp only[Array.getD_eq_getD_getElem?,Array.getElem?_setIfInBounds_ne e2]at this ⊢
      exact this
  unfold wpOp at hstep
  unfold wpOpIn
  rw[hget i him]at hstep
  have ho:ops[i]? =some ops[i]:=by simp[h1]
  rw[ho]at hstep ⊢
  simp only at hstep ⊢
  have hy:Region.wanted ops[i] (yielded (ops.extract 0 m) a.tmps)=Region.wanted ops[i] (yielded ops a.tmps):=by
   unfold Region.wanted
   cases hg:(ops[i]).guard with
   |none=>rfl
   |some g=>
    obtain⟨j,wt⟩:=g
    have:=tm hB i ops[i] j wt ho hg
    simp only[yielded]
    rw[hget j (by omega)]
  rw[hy]at hstep
  split
  ·rename_i hw
   rw[if_pos hw]at hstep
   rcases hstep with hh|⟨hh,hl⟩
   ·exact Hk next (fun _ _ _ h=>h.elim) uj hh
   ·exact absurd hl uj
  ·rename_i hw
   rw[if_neg hw]at hstep
   exact⟨fun _ _=>trivial,next _ _ hstep⟩
theorem sS{N:Nat}{id:Nat}{l:List Oper}{t t':cn}{σ:cg}{F:Nat→Prop}{base:Nat}{E:Env}{a:Act}{w:World}{Q:Exit→Act→World→Prop}(m f:Nat)(D:List Nat)(hm:P.follows .mixedOrders=true)(hB:Region.lexB .any (l.take m).toArray=true)
    (hn:((l.take m).all fun o=>o.dst.all fun e=>decide (e<N)&&D.contains e)=true) (hbar:xe l.toArray f m=true) (hml:Nat.ble m l.length=true) (hs:eh F base N ⟨t,σ⟩ E a w)
    (h:ee P N (l.take m).toArray σ (l.take m) t t') (hw:∀a' w',Ext w w'→eh F base N ⟨t',σ⟩ E a' w'→wpOpsIn Fence.wide n P l.toArray Q (List.range' m (l.toArray.size - m)) a' w'):(Code.region id l.toArray true).wpIn Fence.wide n P Q a w:=by
  obtain⟨arr,ds⟩:=a
  have hds:ds=[]:=hs.j9
  have hmle:m≤l.length:=Nat.ble_eq.mp hml
  have hlt:(l.take m).length=m:=by simp;omega
  refine wpIn_region_any hm ?_
  have hfr:=uh (Q:=qG n P l.toArray Q m (l.toArray.size - m)) hs D hB hn h (fun b w' hE hs'=>hw _ _ hE hs')
  have he:l.toArray.extract 0 m=(l.take m).toArray:=by simp
  have := sU (P := P) (n := n) hbar (by simpa using hmle) (Q := Q) m (Array.replicate m false) (Array.replicate l.toArray.size false) ⟨arr, ds⟩ { w with drawn := w.drawn + 1 } (by simp) (by simp) (fun i hi => by rw [dV _ _ hi, dV _ _ (by simp; omega)]) (fun i _ hi => dV _ _ hi _) (fun i hi hi' => by
      have:(Array.replicate l.toArray.size false).getD i true=false:=dV _ _ hi' _
      rw[this]at hi;cases hi) (by
      have:∀k,k≤l.length→bO (Array.replicate l.toArray.size false) k=k:=by
        intro k
        induction k with
        |zero=>intro _;rfl
        |succ k ih=>
          intro hk
          simp only[bO]
          rw[ih (by omega)]
          have:(Array.replicate l.toArray.size false).getD k true=false:=dV _ _ (by simp;omega) _
          rw[this];simp
      exact this m hmle) (by rw[he];rw[hlt]at hfr;exact hfr)
  rw[show m+(l.toArray.size - m)=l.toArray.size by simp;omega]at this
  exact this
end
theorem qf{w w':World}{l:Nat}{r:Loop}(hl:w.heap[l]? =some (.loop r))(ho:∀k,k≠l→w'.heap[k]? =w.heap[k]?){a:Addr}{x:Value}(h:w.cell? a=some x):w'.cell? a=some x:=by
 have hne:a.block≠l:=fun e=>by
  unfold World.cell? at h
  rw[e,hl]at h
  simp at h
 rw[kq (ho _ hne)]
 exact h
theorem cM.other{E:Env}{w w':World}{l:Nat}{r:Loop}(hl:w.heap[l]? =some (.loop r))(hz:w'.heap.size=w.heap.size)(ho:∀k,k≠l→w'.heap[k]? =w.heap[k]?){v:Value}{p:PV}(h:cM E w v p):cM E w' v p:=by
 induction h with
 |any v=>exact .any v
 |raw v=>exact .raw v
 |bM=>exact .bM
 |empty a c h=>exact .empty a c h
 |slice b off n c cs xs h0 h1 h2 hb hM hc hl2 _ ih=>exact .slice b off n c cs xs h0 h1 h2 (by omega) hM (fun i x hx=>qf hl ho (hc i x hx)) hl2 ih
 |bb b o' off cs xs hb hM hc hl2 _ ih=>exact .bb b o' off cs xs (by omega) hM (fun i x hx=>qf hl ho (hc i x hx)) hl2 ih
 |agg cs xs hl2 _ ih=>exact .agg cs xs hl2 ih
 |tuple cs xs hl2 _ ih=>exact .tuple cs xs hl2 ih
 |func f cs xs hl2 _ ih=>exact .func f cs xs hl2 ih
 |ptr i off b hi h=>exact .ptr i off b hi h
 |own i hi v h hs=>exact .own i hi v h hs
theorem iA.other{F:Nat→Prop}{w w':World}{l:Nat}{r:Loop}(hl:w.heap[l]? =some (.loop r))(ho:∀k,k≠l→w'.heap[k]? =w.heap[k]?)(h:iA F w):iA F w':=fun g cs hg=>by
 obtain⟨h1,t,fz,h2⟩:=h g cs hg
 have hne:g≠l:=fun e=>by rw[e,hl]at h2;cases h2
 exact⟨h1,t,fz,by rw[ho g hne];exact h2⟩
section
variable {P:Program} {ops:Array Oper} {n:Nat}
theorem Fh{lp:Nat}{o:Oper}{a:Act}{w:World}{K K':Act→World→Prop}{Q Q':Exit→Act→World→Prop}(hnd:∀c,o.op≠ .defer c)(hK:∀a w,K a w→K' a w)(hp:∀c a w,Q (.panic c) a w→Q' (.panic c) a w)(hL:¬LetsOut Q)(h:o.wp P a w K Q):o.wpIn (Fence.wide.inRound lp) n P a w K' Q':=by
 refine⟨fun _ _=>trivial,?_⟩
 rw[Fence.inRound_round,Oper.semAt_eq _ _ _ hnd]
 unfold Oper.wp at h
 generalize (execOp a.eval o).run P w=x at*
 cases x with
 |ok x w'=>
  cases x<;>simp only[Oper.uponIn,Oper.upon]at h ⊢
  case value v=>exact hK _ _ h
  case skip=>exact hK _ _ h
  case defer d=>exact hK _ _ h
  case enter f args=>exact⟨fun h=>by simp[Fence.wide]at h,CallsIn.inRound lp (callsIn_wide.2 (h.mono fun e w'' he=>by cases e<;>first|exact hK _ _ he|exact hp _ _ _ he|exact(hL he).elim))⟩
  case row r args=>exact⟨fun h=>by simp[Fence.wide]at h,fun c cs _=>by
   obtain⟨v,w',r,s⟩:=h c cs
   exact⟨v,w',hK _ _ r,stepsIn_wide.2 s⟩⟩
  all_goals exact h.elim
 |halt x w'=>cases x<;>simp only[Oper.uponIn,Oper.upon]at h ⊢ <;>first|exact hp _ _ _ h|exact h
def Fo(lp n:Nat)(P:Program)(ops:Array Oper)(Q:Exit→Act→World→Prop)(js:List Nat):Exit→Act→World→Prop
 | .normal,a,w=>wpOpsIn (Fence.wide.inRound lp) n P ops Q js a w
 |_,_,_=>False
theorem tM{lp:Nat}{Q:Exit→Act→World→Prop}{js:List Nat}:¬LetsOut (Fo lp n P ops Q js):=fun⟨_,_,h⟩=>h
theorem Ar{lp m:Nat}{Q:Exit→Act→World→Prop}{js:List Nat}(hm:m≤ops.size)(hg:∀(i:Nat) o,i<m→ops[i]? =some o→o.guard=none∧∀c,o.op≠ .defer c):∀(is:List Nat) (a:Act) (w:World),(∀i∈is,i<m)→wpOps P (ops.extract 0 m) (Fo lp n P ops Q js) is a w→wpOpsIn (Fence.wide.inRound lp) n P ops Q (is++js) a w
 | [],a,w,_,h=>h
 |i::is,a,w,hi,h=>by
  have him:=hi i (by simp)
  have hget:(ops.extract 0 m)[i]? =ops[i]? :=by rw[Array.getElem?_extract];simp;omega
  rw[wpOps_cons]at h
  rw[List.cons_append,wpOpsIn_cons]
  unfold wpOp at h
  unfold wpOpIn
  rw[hget]at h
  have ho:ops[i]? =some ops[i]:=Array.getElem?_eq_getElem (by omega)
  rw[ho]at h ⊢
  simp only at h ⊢
  obtain⟨h1,h2⟩:=hg i _ him ho
  have hw:∀x,Region.wanted ops[i] x=true:=fun x=>by unfold Region.wanted;rw[h1]
  rw[if_pos (hw _)]at h ⊢
  rcases h with h|⟨_,h⟩
  ·exact Fh h2 (fun a' w' h=>Ar hm hg is a' w' (fun j hj=>hi j (by simp[hj])) h) (fun _ _ _ h=>h.elim) tM h
  ·exact absurd h tM
theorem mK{lp m id N L:Nat}{l:List Oper}{st:St}{F:Nat→Prop}{base:Nat}{E:Env}{a:Act}{w:World}{Q:Exit→Act→World→Prop}(hm:Nat.ble m l.length=true)(hg:((l.take m).all fun o=>o.guard.isNone&& !uY o.op)=true){K:St→Prop}(hs:eh F base N st E a w)(hL:E.L=L)
  (h:WR P N L (l.take m).toArray (l.take m) st K) (hk:∀s E' a' w',K s→eh F base N s E' a' w'→di E w E' w'→Below base w w'→wpOpsIn (Fence.wide.inRound lp) n P l.toArray Q (List.range' m (l.length - m)) a' w'):(Code.region id l.toArray false).wpIn (Fence.wide.inRound lp) n P Q a w:=by
 have hmle:m≤l.length:=Nat.ble_eq.mp hm
 have hlt:(l.take m).length=m:=by simp;omega
 refine wpIn_region ?_
 have hr:List.range l.toArray.size=List.range' 0 m++List.range' m (l.length - m):=by
  have h:= @List.range'_append_1 0 m (l.length - m)
  rw[Nat.zero_add,show m+(l.length - m)=l.length by omega]at h
  rw[List.range_eq_range',List.size_toArray]
  exact h.symm
 rw[hr]
 refine Ar (m:=m) (by simpa using hmle) (fun i o hi ho=>?_) _ a w (fun i hi=>by simp at hi;omega) ?_
 ·have hmem:o∈l.take m:=by
   have:(l.take m)[i]? =some o:=by rw[List.getElem?_take,if_pos hi];simpa using ho
   exact List.mem_of_getElem? this
  have:=List.all_eq_true.1 hg o hmem
  simp only[Bool.and_eq_true,Option.isNone_iff_eq_none,Bool.not_eq_true']at this
  exact⟨this.1,fun c e=>by rw[e]at this;exact absurd this.2 (by simp[uY])⟩
 ·have he:l.toArray.extract 0 m=(l.take m).toArray:=by simp
  rw[he]
  have:=h F base E w E a w ⟨hL,di.refl _ _,Below.refl _ _⟩ hs (Fo lp n P l.toArray Q (List.range' m (l.length - m))) 0 (fun a' w' ⟨s,E',h1,h2,h3,h4⟩=>hk s E' a' w' h1 h2 h3 h4) (fun j=>by simp)
  rw[hlt]at this
  exact this
theorem mE{F:Fence}(hF:F=Fence.wide∨∃lp,F=Fence.wide.inRound lp){i:Nat}{is:List Nat}{o:Oper}{a:Act}{w:World}{v:Value}{Q:Exit→Act→World→Prop}(ho:ops[i]? =some o)(hg:o.guard=none)(hnd:∀c,o.op≠ .defer c)(hr:(execOp a.eval o).run P w= .ok (.value v) w)(h:wpOpsIn F n P ops Q is (a.put o.dst v) w):wpOpsIn F n P ops Q (i::is) a w:=by
 rw[wpOpsIn_cons]
 unfold wpOpIn
 rw[ho]
 simp only
 rw[if_pos (by unfold Region.wanted;rw[hg])]
 have hsem:o.semAt F.round a.eval=execOp a.eval o:=by
  rcases hF with rfl|⟨lp,rfl⟩
  ·exact Oper.semAt_none _ _
  ·rw[Fence.inRound_round,Oper.semAt_eq _ _ _ hnd]
 refine⟨fun _ _=>?_,?_⟩
 ·rcases hF with rfl|⟨lp,rfl⟩<;>trivial
 ·rw[hsem,hr]
  exact h
theorem CM{lp:Nat}{i l:Nat}{is:List Nat}{o:Oper}{a:Act}{w:World}{Q:Exit→Act→World→Prop}{x y:Operand}{ats:Array TypeId}{R:Ending→World→Prop}(ho:ops[i]? =some o)(hg:o.guard=none)(hop:o.op= .call {callee:=.value x,args:= #[y],argTypes:=ats})
  (hx:a.eval x= .func (.yield l) #[] #[]) (hy:YieldAt Fence.wide (n - 1) P l #[a.eval y] w R) (hR:∀e w',R e w'→∃v,e= .returned v∧wpOpsIn (Fence.wide.inRound lp) n P ops Q is (a.put o.dst v) w'):wpOpsIn (Fence.wide.inRound lp) n P ops Q (i::is) a w:=by
 obtain⟨fn,tmps,assign,body,h1,h2⟩:=hy
 rw[wpOpsIn_cons]
 unfold wpOpIn
 rw[ho]
 simp only
 rw[if_pos (by unfold Region.wanted;rw[hg])]
 refine⟨fun _ _=>trivial,?_⟩
 rw[Fence.inRound_round,Oper.semAt_eq _ _ _ (fun c e=>by rw[hop]at e;cases e)]
 have hr:(execOp a.eval o).run P w= .ok (.round l fn tmps assign body) w:=by
  simp[execOp,hop,resolve,hx,Deferred.ofValue,invoke,h1]
 rw[hr]
 refine⟨fun h=>by simp[Fence.wide]at h,RoundIn.mono h2 fun e w' he=>?_⟩
 obtain⟨v,rfl,hq⟩:=hR e w' he
 exact hq
theorem Dy{o:Oper}{a:Act}{w:World}{x:Operand}{ty:TypeId}{q:Bool}(ho:o.op= .unOp .not ty x)(hx:a.eval x= .bool q):(execOp a.eval o).run P w= .ok (.value (.bool (!q))) w:=by
 simp only[execOp,ho,hx,Op.unary,Sem.run_bind,Sem.run_pure,Result.andThen_ok]
theorem CW{o:Oper}{a:Act}{w:World}{x:Operand}{ty:TypeId}{b:Nat}{c:Value}(ho:o.op= .load ty x)(hk:s5 P ty=some none)(hx:a.eval x= .pointer (some ⟨b,0,none⟩))(hc:w.cell? ⟨b,0,none⟩=some c):(execOp a.eval o).run P w= .ok (.value c) w:=by
 have h:=jP (P:=P) hk hc
 simp only[execOp,ho,hx,Sem.run_bind,h,Result.andThen_ok,Sem.run_pure]
theorem xY{o:Oper}{a:Act}{w:World}{x:Operand}(ho:o.op= .assign x):(execOp a.eval o).run P w= .ok (.value (a.eval x)) w:=by
 simp only[execOp,ho,Sem.run_pure]
theorem Sat.other{F:Nat→Prop}{base:Nat}{σ:cg}{E:Env}{w w':World}{l:Nat}{r:Loop}(hl:w.heap[l]? =some (.loop r))(hz:w'.heap.size=w.heap.size)(ho:∀k,k≠l→w'.heap[k]? =w.heap[k]?)(h:Sat F base σ E w):Sat F base σ E w':=by
 have hne:∀ {k:Nat} {o:Obj},w.heap[k]? =some o→(∀r,o≠ .loop r)→k≠l:=fun {k o} hk hr e=>by subst e;rw[hl]at hk;cases hk;exact hr _ rfl
 have hL:∀ {cs:List Value} {xs:List PV},bf E w cs xs→bf E w' cs xs:=fun hr=>⟨hr.1,fun i x u k1 k2=>(hr.2 i x u k1 k2).other hl hz ho⟩
 refine⟨by rw[hz];exact h.bl,fun b hb=>⟨by rw[hz];exact(h.fb b hb).1,(h.fb b hb).2⟩,h.len,h.mm,fun i blk hi=>?_,h.inj,h.gl.other hl ho⟩
 have hb:=h.blk i blk hi
 generalize E.at_ i=v at hb
 cases blk with
 |cells t xs=>
  obtain⟨b',cs,rfl,h1,h2,h3⟩:=hb
  exact⟨b',cs,rfl,h1,(ho b' (hne h2 (fun r e=>by cases e))).trans h2,hL h3⟩
 |row e size n xs=>
  obtain⟨cs,h1,h2⟩:=hb
  refine⟨cs,⟨h1.1,?_⟩,hL h2⟩
  rcases h1.2 with h|⟨g',cap,cur,rfl,k1,k2,k3⟩
  ·exact .inl h
  ·exact .inr ⟨g',cap,cur,rfl,k1,(ho g' (hne k2 (fun r e=>by cases e))).trans k2,k3⟩
 |mp kv=>
  obtain⟨r',es,ck,rfl,h1,h2,h3,h4⟩:=hb
  exact⟨r',es,ck,rfl,h1,(ho r' (hne h2 (fun r e=>by cases e))).trans h2,h3,hL h4⟩
theorem eB.other{E:Env}{w w':World}{l:Nat}{r:Loop}(hl:w.heap[l]? =some (.loop r))(hz:w'.heap.size=w.heap.size)(ho:∀k,k≠l→w'.heap[k]? =w.heap[k]?){ρ:Operand→Value}{t:cn}(h:eB E w ρ t):eB E w' ρ t:=fun k p hk=>(h k p hk).other hl hz ho
theorem Bx{o:Oper}{a:Act}{w:World}{x:Operand}(ho:o.op= .move x):(execOp a.eval o).run P w= .ok (.value (a.eval x)) w:=by
 simp only[execOp,ho,Sem.run_pure]
theorem v8{o:Oper}{a:Act}{w:World}{op:BinOp}{x y:Operand}{ty tz:TypeId}{c b:Int}{v:Value}(ho:o.op= .binOp op ty x y tz)(hx:a.eval x= .int .i64 c)(hy:a.eval y= .int .i64 b)(hv:(binOp op ty (.int .i64 c) (.int .i64 b)).run P w= .ok v w):(execOp a.eval o).run P w= .ok (.value v) w:=by
 have hg:(eqGuard op ty x y (.int .i64 c) (.int .i64 b)).run P w= .ok () w:=by unfold eqGuard;split<;>rfl
 simp only[execOp,ho,hx,hy,Sem.run_bind,Sem.run_pure,Result.andThen_ok,hg,hv]
end
open Go.Shelf Net eY
theorem wZ(l:List Int)(hl:l.length≤1000):bU Tryz.prog 144 [av l] [] (fun r σ'=>r= .own 0∧σ'=[some (.row 3 1 l.length (aK l))]):=by
 refine ct Tryz.func144 I Tryz.ntmps144 I<|ab (.a 1 I<|.k [0] I)<|aj<|aO (WR.mono (K:=fun s=>∃b:Bool,s=⟨[(0,av l),(4,.raw (.bool b))],[]⟩∧(b=true→l=[])) ?_ ?_)
 ·cases l with
  |nil=>exact aw 1 rfl<|vo rfl Kw rfl rfl rfl rfl rfl fun b=>aE [0,4] rfl ⟨b,rfl,fun _=>rfl⟩
  |cons a l=>exact aw 1 rfl<|bJ (oe rfl Kw rfl rfl (Nat.succ_pos _)) rfl rfl rfl<|aE [0,4] rfl ⟨_,rfl,fun h=>by cases h⟩
 rintro _ ⟨b,rfl,hb⟩
 refine ag I (fun hc=>?_) (fun hc=>?_)
 ·have:l=[]:=hb hc
  subst this
  refine ab (.a 1 I<|.k [2] I)<|gH 2 3 1 I ?_
  exact ao<|⟨_,az.of I,rfl,rfl⟩
 ·refine ai<|aO<|b7 (cJ I (ba.sl.get I)) I<|aw 1 I<|b7 (bh I (ba.rk.get I) I I I (show(aK l).length=l.length*1 by simp[aK]) (by unfold maxLen;omega)) I<|aw 1 I<|aE [2] I ?_
  refine dI [1] (.cons 2 I (Ren.own (i:=0) I) .nil) (.kept rfl (.row aI.pure) .nil) I I ?_
  exact ao<|⟨_,az.of I,rfl,by rw[Nat.zero_add];rfl⟩
theorem yn(l:List Int)(hl:l.length≤1000)(σ:cg):bU Tryz.prog 144 [av l] σ (fun r σ'=>r= .own σ.length∧σ'=σ++[some (.row 3 1 l.length (aK l))]):=by
 refine bU.frame (bU.mono (wZ l hl) ?_)
 rintro r σ' ⟨rfl,rfl⟩
 exact⟨[.row 3 1 l.length (aK l)],rfl,_,_,Up.own rfl,nK.cons (.row lJ.pure) nK.nil,by simp,rfl⟩
theorem u5(ys:List PV)(L:List Int):bU Tryz.prog 128 [.bb ys 0,.own 1] [none,some (.row 3 1 L.length (aK L))] (fun r σ'=>r= .func 165 [.ptr 2 0,.ptr 3 0]∧σ'=[none,some (.row 3 1 L.length (aK L)),some (.cells 147 [.bb ys 0]),some (.cells 37 [.own 1])]):=by
 refine ct Tryz.func128 I Tryz.ntmps128 I<|aO<|b7 (fD (xs:=[_]) I I I) I<|b7 (fD (xs:=[_]) I I I) I<|aw 1 I<|aE [2,3] I ?_
 exact ab (.a 2 I<|.k [4] I)<|ao<|⟨_,az.of I,rfl,rfl⟩
noncomputable def zO(k:Nat):Code→Option Code
 | .region i ops d=>if i=k then some (.region i ops d) else none
 | .seq x y=>(zO k x).orElse fun _=>zO k y
 | .cond _ x y=>(zO k x).orElse fun _=>zO k y
 | .block _ x=>zO k x
 | .loop x=>zO k x
 |_=>none
noncomputable def KA(f:Func):Code:=f.body.getD .skip
def J8(ys:List PV)(pre:List Int)(a:Int)(l:Nat)(s:St):Prop:=
 s.σ=[none,some (.row 3 1 (pre++[a]).length (aK (pre++[a]))),some (.cells 147 [.bb ys 0]),some (.cells 37 [.own 1])]∧Sub s.t [(3,.bb [.raw (.func (.yield l) #[] #[])] 0),(30,num ([a]:List Int).length),(31,num 0),(48,.func 165 [.ptr 2 0,.ptr 3 0])]
noncomputable def Lf:Code:=(zO 6 (KA Tryz.f165)).getD .skip
set_option maxRecDepth 100000 in
set_option maxHeartbeats 8000000 in
theorem Gg(ys:List PV)[aL ys](pre:List Int)(a:Int)(l n:Nat)(o:Out)(c:Int)(hpl:pre.length+1≤1000):
  W Tryz.prog 55 0 Lf ⟨[(1,.bb [.bb (dP n o [.bb ys 0] c) 0] 0),(2,.bb [av pre] 0),(3,.bb [.raw (.func (.yield l) #[] #[])] 0),(4,num 0),(5,num a),(30,num ([a]:List Int).length),(31,num 0)],[]⟩ (IF (J8 ys pre a l)):=by
 have hic:=yn pre (by omega) []
 have hbr:=u5 ys (pre++[a])
 refine yg mixed ?_
 ·refine vV [[(1,.bb [.bb (dP n o [.bb ys 0] c) 0] 0),(2,.bb [av pre] 0),(3,.bb [.raw (.func (.yield l) #[] #[])] 0),(4,num 0),(5,num a),(30,num ([a]:List Int).length),(31,num 0),(36,.bb (dP n o [.bb ys 0] c) 0),(37,.bb (dP n o [.bb ys 0] c) 0),(38,.bb (dP n o [.bb ys 0] c) 3),(39,.slice 1 [.bb ys 0]),(40,num 0),(41,.bb [.bb ys 0] 0),(42,.bb ys 0),(43,av pre),(44,.own 0),(45,num a),(46,.slice 1 [num a]),(47,.own 1),(48,.func 165 [.ptr 2 0,.ptr 3 0])]] [[],[some (.row 3 1 pre.length (aK pre))],[none,some (.row 3 1 (pre++[a]).length (aK (pre++[a])))],[none,some (.row 3 1 (pre++[a]).length (aK (pre++[a]))),some (.cells 147 [.bb ys 0]),some (.cells 37 [.own 1])]] [1,2,3,4,5,30,31] I (by kernel_rfl) (fun M hi ho=>?_)
  have μ0:M 0 8191 0 [3,30,31,48] 3:=hi<|se I (by kernel_rfl) (⟨rfl,aY (ks:=[3,30,31,48]) I⟩)
  have μ1:M 1 4095 0 [3,30,31,42,47] 2:=hi<|aa [(12,8191)] I<|fp I I I I hbr (ho μ0) I I af
  have μ2:M 2 2047 0 [3,30,31,42,44,46] 1:=hi<|aa [(11,4095)] I<|cm I I (cq.to (σ:=[some (.row 3 1 pre.length (aK pre))]) (p':=.own 1) (σ'':=[none,some (.row 3 1 (pre++[a]).length (aK (pre++[a])))]) (bh (e:=3) (s:=1) (by':=8) (i:=0) (m:=1) (n:=pre.length) (xs:=aK pre) (ys:=[num a]) I (ba.rk.get I) I I I I ⟨by unfold maxLen;omega,by omega⟩) I (by rw[List.length_append,←cZ];rfl)) I (ho μ1) I I af
  have μ3:M 3 1023 0 [3,30,31,42,44,45] 1:=hi<|aa [(10,2047)] I<|bx I I (aV (xs:=[num a]) I (ba.sl.get I) ⟨Nat.le_of_ble_eq_true rfl,Nat.le_of_ble_eq_true rfl⟩ rfl rfl) I (ho μ2) I I af
  have μ4:M 4 511 0 [3,5,30,31,42,44] 1:=hi<|aa [(9,1023)] I<|an (ho μ3) I I af
  have μ5:M 3 1791 0 [3,30,31,42,43,46] 0:=hi<|aa [(8,2047)] I<|fp I I I I hic (ho μ2) I I af
  have μ6:M 4 767 0 [3,30,31,42,43,45] 0:=hi<|aa [(8,1023),(10,1791)] I<|fp I I I I hic (ho μ3) I I<|bx I I (aV (xs:=[num a]) I (ba.sl.get I) ⟨Nat.le_of_ble_eq_true rfl,Nat.le_of_ble_eq_true rfl⟩ rfl rfl) I (ho μ5) I I af
  have μ7:M 5 255 0 [3,5,30,31,42,43] 0:=hi<|aa [(8,511),(9,767)] I<|fp I I I I hic (ho μ4) I I<|an (ho μ6) I I af
  have μ8:M 4 1663 0 [2,3,30,31,42,46] 0:=hi<|aa [(7,1791)] I<|an (ho μ5) I I af
  have μ9:M 5 639 0 [2,3,30,31,42,45] 0:=hi<|aa [(7,767),(10,1663)] I<|an (ho μ6) I I<|bx I I (aV (xs:=[num a]) I (ba.sl.get I) ⟨Nat.le_of_ble_eq_true rfl,Nat.le_of_ble_eq_true rfl⟩ rfl rfl) I (ho μ8) I I af
  have μ10:M 6 127 0 [2,3,5,30,31,42] 0:=hi<|aa [(7,255),(9,639)] I<|an (ho μ7) I I<|an (ho μ9) I I af
  have μ11:M 2 4031 0 [3,30,31,41,47] 2:=hi<|aa [(6,4095)] I<|bx I I (aJ I ((rfl:([PV.bb ys 0]:List PV)[0]? =some (.bb ys 0)))) I (ho μ1) I I af
  have μ12:M 3 1983 0 [3,30,31,41,44,46] 1:=hi<|aa [(6,2047),(11,4031)] I<|bx I I (aJ I ((rfl:([PV.bb ys 0]:List PV)[0]? =some (.bb ys 0)))) I (ho μ2) I I<|cm I I (cq.to (σ:=[some (.row 3 1 pre.length (aK pre))]) (p':=.own 1) (σ'':=[none,some (.row 3 1 (pre++[a]).length (aK (pre++[a])))]) (bh (e:=3) (s:=1) (by':=8) (i:=0) (m:=1) (n:=pre.length) (xs:=aK pre) (ys:=[num a]) I (ba.rk.get I) I I I I ⟨by unfold maxLen;omega,by omega⟩) I (by rw[List.length_append,←cZ];rfl)) I (ho μ11) I I af
  have μ13:M 4 959 0 [3,30,31,41,44,45] 1:=hi<|aa [(6,1023),(10,1983)] I<|bx I I (aJ I ((rfl:([PV.bb ys 0]:List PV)[0]? =some (.bb ys 0)))) I (ho μ3) I I<|bx I I (aV (xs:=[num a]) I (ba.sl.get I) ⟨Nat.le_of_ble_eq_true rfl,Nat.le_of_ble_eq_true rfl⟩ rfl rfl) I (ho μ12) I I af
  have μ14:M 5 447 0 [3,5,30,31,41,44] 1:=hi<|aa [(6,511),(9,959)] I<|bx I I (aJ I ((rfl:([PV.bb ys 0]:List PV)[0]? =some (.bb ys 0)))) I (ho μ4) I I<|an (ho μ13) I I af
  have μ15:M 4 1727 0 [3,30,31,41,43,46] 0:=hi<|aa [(6,1791),(8,1983)] I<|bx I I (aJ I ((rfl:([PV.bb ys 0]:List PV)[0]? =some (.bb ys 0)))) I (ho μ5) I I<|fp I I I I hic (ho μ12) I I af
  have μ16:M 5 703 0 [3,30,31,41,43,45] 0:=hi<|aa [(6,767),(8,959),(10,1727)] I<|bx I I (aJ I ((rfl:([PV.bb ys 0]:List PV)[0]? =some (.bb ys 0)))) I (ho μ6) I I<|fp I I I I hic (ho μ13) I I<|bx I I (aV (xs:=[num a]) I (ba.sl.get I) ⟨Nat.le_of_ble_eq_true rfl,Nat.le_of_ble_eq_true rfl⟩ rfl rfl) I (ho μ15) I I af
  have μ17:M 6 191 0 [3,5,30,31,41,43] 0:=hi<|aa [(6,255),(8,447),(9,703)] I<|bx I I (aJ I ((rfl:([PV.bb ys 0]:List PV)[0]? =some (.bb ys 0)))) I (ho μ7) I I<|fp I I I I hic (ho μ14) I I<|an (ho μ16) I I af
  have μ18:M 5 1599 0 [2,3,30,31,41,46] 0:=hi<|aa [(6,1663),(7,1727)] I<|bx I I (aJ I ((rfl:([PV.bb ys 0]:List PV)[0]? =some (.bb ys 0)))) I (ho μ8) I I<|an (ho μ15) I I af
  have μ19:M 6 575 0 [2,3,30,31,41,45] 0:=hi<|aa [(6,639),(7,703),(10,1599)] I<|bx I I (aJ I ((rfl:([PV.bb ys 0]:List PV)[0]? =some (.bb ys 0)))) I (ho μ9) I I<|an (ho μ16) I I<|bx I I (aV (xs:=[num a]) I (ba.sl.get I) ⟨Nat.le_of_ble_eq_true rfl,Nat.le_of_ble_eq_true rfl⟩ rfl rfl) I (ho μ18) I I af
  have μ20:M 7 63 0 [2,3,5,30,31,41] 0:=hi<|aa [(6,127),(7,191),(9,575)] I<|bx I I (aJ I ((rfl:([PV.bb ys 0]:List PV)[0]? =some (.bb ys 0)))) I (ho μ10) I I<|an (ho μ17) I I<|an (ho μ19) I I af
  have μ21:M 3 3999 0 [3,30,31,39,40,47] 2:=hi<|aa [(5,4031)] I<|bx I I (aN (0) I (by simp) (by simp)) I (ho μ11) I I af
  have μ22:M 4 1951 0 [3,30,31,39,40,44,46] 1:=hi<|aa [(5,1983),(11,3999)] I<|bx I I (aN (0) I (by simp) (by simp)) I (ho μ12) I I<|cm I I (cq.to (σ:=[some (.row 3 1 pre.length (aK pre))]) (p':=.own 1) (σ'':=[none,some (.row 3 1 (pre++[a]).length (aK (pre++[a])))]) (bh (e:=3) (s:=1) (by':=8) (i:=0) (m:=1) (n:=pre.length) (xs:=aK pre) (ys:=[num a]) I (ba.rk.get I) I I I I ⟨by unfold maxLen;omega,by omega⟩) I (by rw[List.length_append,←cZ];rfl)) I (ho μ21) I I af
  have μ23:M 5 927 0 [3,30,31,39,40,44,45] 1:=hi<|aa [(5,959),(10,1951)] I<|bx I I (aN (0) I (by simp) (by simp)) I (ho μ13) I I<|bx I I (aV (xs:=[num a]) I (ba.sl.get I) ⟨Nat.le_of_ble_eq_true rfl,Nat.le_of_ble_eq_true rfl⟩ rfl rfl) I (ho μ22) I I af
  have μ24:M 6 415 0 [3,5,30,31,39,40,44] 1:=hi<|aa [(5,447),(9,927)] I<|bx I I (aN (0) I (by simp) (by simp)) I (ho μ14) I I<|an (ho μ23) I I af
  have μ25:M 5 1695 0 [3,30,31,39,40,43,46] 0:=hi<|aa [(5,1727),(8,1951)] I<|bx I I (aN (0) I (by simp) (by simp)) I (ho μ15) I I<|fp I I I I hic (ho μ22) I I af
  have μ26:M 6 671 0 [3,30,31,39,40,43,45] 0:=hi<|aa [(5,703),(8,927),(10,1695)] I<|bx I I (aN (0) I (by simp) (by simp)) I (ho μ16) I I<|fp I I I I hic (ho μ23) I I<|bx I I (aV (xs:=[num a]) I (ba.sl.get I) ⟨Nat.le_of_ble_eq_true rfl,Nat.le_of_ble_eq_true rfl⟩ rfl rfl) I (ho μ25) I I af
  have μ27:M 7 159 0 [3,5,30,31,39,40,43] 0:=hi<|aa [(5,191),(8,415),(9,671)] I<|bx I I (aN (0) I (by simp) (by simp)) I (ho μ17) I I<|fp I I I I hic (ho μ24) I I<|an (ho μ26) I I af
  have μ28:M 6 1567 0 [2,3,30,31,39,40,46] 0:=hi<|aa [(5,1599),(7,1695)] I<|bx I I (aN (0) I (by simp) (by simp)) I (ho μ18) I I<|an (ho μ25) I I af
  have μ29:M 7 543 0 [2,3,30,31,39,40,45] 0:=hi<|aa [(5,575),(7,671),(10,1567)] I<|bx I I (aN (0) I (by simp) (by simp)) I (ho μ19) I I<|an (ho μ26) I I<|bx I I (aV (xs:=[num a]) I (ba.sl.get I) ⟨Nat.le_of_ble_eq_true rfl,Nat.le_of_ble_eq_true rfl⟩ rfl rfl) I (ho μ28) I I af
  have μ30:M 8 31 0 [2,3,5,30,31,39,40] 0:=hi<|aa [(5,63),(7,159),(9,543)] I<|bx I I (aN (0) I (by simp) (by simp)) I (ho μ20) I I<|an (ho μ27) I I<|an (ho μ29) I I af
  have μ31:M 4 3983 0 [3,4,30,31,39,47] 2:=hi<|aa [(4,3999)] I<|an (ho μ21) I I af
  have μ32:M 5 1935 0 [3,4,30,31,39,44,46] 1:=hi<|aa [(4,1951),(11,3983)] I<|an (ho μ22) I I<|cm I I (cq.to (σ:=[some (.row 3 1 pre.length (aK pre))]) (p':=.own 1) (σ'':=[none,some (.row 3 1 (pre++[a]).length (aK (pre++[a])))]) (bh (e:=3) (s:=1) (by':=8) (i:=0) (m:=1) (n:=pre.length) (xs:=aK pre) (ys:=[num a]) I (ba.rk.get I) I I I I ⟨by unfold maxLen;omega,by omega⟩) I (by rw[List.length_append,←cZ];rfl)) I (ho μ31) I I af
  have μ33:M 6 911 0 [3,4,30,31,39,44,45] 1:=hi<|aa [(4,927),(10,1935)] I<|an (ho μ23) I I<|bx I I (aV (xs:=[num a]) I (ba.sl.get I) ⟨Nat.le_of_ble_eq_true rfl,Nat.le_of_ble_eq_true rfl⟩ rfl rfl) I (ho μ32) I I af
  have μ34:M 7 399 0 [3,4,5,30,31,39,44] 1:=hi<|aa [(4,415),(9,911)] I<|an (ho μ24) I I<|an (ho μ33) I I af
  have μ35:M 6 1679 0 [3,4,30,31,39,43,46] 0:=hi<|aa [(4,1695),(8,1935)] I<|an (ho μ25) I I<|fp I I I I hic (ho μ32) I I af
  have μ36:M 7 655 0 [3,4,30,31,39,43,45] 0:=hi<|aa [(4,671),(8,911),(10,1679)] I<|an (ho μ26) I I<|fp I I I I hic (ho μ33) I I<|bx I I (aV (xs:=[num a]) I (ba.sl.get I) ⟨Nat.le_of_ble_eq_true rfl,Nat.le_of_ble_eq_true rfl⟩ rfl rfl) I (ho μ35) I I af
  have μ37:M 8 143 0 [3,4,5,30,31,39,43] 0:=hi<|aa [(4,159),(8,399),(9,655)] I<|an (ho μ27) I I<|fp I I I I hic (ho μ34) I I<|an (ho μ36) I I af
  have μ38:M 7 1551 0 [2,3,4,30,31,39,46] 0:=hi<|aa [(4,1567),(7,1679)] I<|an (ho μ28) I I<|an (ho μ35) I I af
  have μ39:M 8 527 0 [2,3,4,30,31,39,45] 0:=hi<|aa [(4,543),(7,655),(10,1551)] I<|an (ho μ29) I I<|an (ho μ36) I I<|bx I I (aV (xs:=[num a]) I (ba.sl.get I) ⟨Nat.le_of_ble_eq_true rfl,Nat.le_of_ble_eq_true rfl⟩ rfl rfl) I (ho μ38) I I af
  have μ40:M 9 15 0 [2,3,4,5,30,31,39] 0:=hi<|aa [(4,31),(7,143),(9,527)] I<|an (ho μ30) I I<|an (ho μ37) I I<|an (ho μ39) I I af
  have μ41:M 4 3991 0 [3,30,31,38,40,47] 2:=hi<|aa [(3,3999)] I<|an (ho μ21) I I af
  have μ42:M 5 1943 0 [3,30,31,38,40,44,46] 1:=hi<|aa [(3,1951),(11,3991)] I<|an (ho μ22) I I<|cm I I (cq.to (σ:=[some (.row 3 1 pre.length (aK pre))]) (p':=.own 1) (σ'':=[none,some (.row 3 1 (pre++[a]).length (aK (pre++[a])))]) (bh (e:=3) (s:=1) (by':=8) (i:=0) (m:=1) (n:=pre.length) (xs:=aK pre) (ys:=[num a]) I (ba.rk.get I) I I I I ⟨by unfold maxLen;omega,by omega⟩) I (by rw[List.length_append,←cZ];rfl)) I (ho μ41) I I af
  have μ43:M 6 919 0 [3,30,31,38,40,44,45] 1:=hi<|aa [(3,927),(10,1943)] I<|an (ho μ23) I I<|bx I I (aV (xs:=[num a]) I (ba.sl.get I) ⟨Nat.le_of_ble_eq_true rfl,Nat.le_of_ble_eq_true rfl⟩ rfl rfl) I (ho μ42) I I af
  have μ44:M 7 407 0 [3,5,30,31,38,40,44] 1:=hi<|aa [(3,415),(9,919)] I<|an (ho μ24) I I<|an (ho μ43) I I af
  have μ45:M 6 1687 0 [3,30,31,38,40,43,46] 0:=hi<|aa [(3,1695),(8,1943)] I<|an (ho μ25) I I<|fp I I I I hic (ho μ42) I I af
  have μ46:M 7 663 0 [3,30,31,38,40,43,45] 0:=hi<|aa [(3,671),(8,919),(10,1687)] I<|an (ho μ26) I I<|fp I I I I hic (ho μ43) I I<|bx I I (aV (xs:=[num a]) I (ba.sl.get I) ⟨Nat.le_of_ble_eq_true rfl,Nat.le_of_ble_eq_true rfl⟩ rfl rfl) I (ho μ45) I I af
  have μ47:M 8 151 0 [3,5,30,31,38,40,43] 0:=hi<|aa [(3,159),(8,407),(9,663)] I<|an (ho μ27) I I<|fp I I I I hic (ho μ44) I I<|an (ho μ46) I I af
  have μ48:M 7 1559 0 [2,3,30,31,38,40,46] 0:=hi<|aa [(3,1567),(7,1687)] I<|an (ho μ28) I I<|an (ho μ45) I I af
  have μ49:M 8 535 0 [2,3,30,31,38,40,45] 0:=hi<|aa [(3,543),(7,663),(10,1559)] I<|an (ho μ29) I I<|an (ho μ46) I I<|bx I I (aV (xs:=[num a]) I (ba.sl.get I) ⟨Nat.le_of_ble_eq_true rfl,Nat.le_of_ble_eq_true rfl⟩ rfl rfl) I (ho μ48) I I af
  have μ50:M 9 23 0 [2,3,5,30,31,38,40] 0:=hi<|aa [(3,31),(7,151),(9,535)] I<|an (ho μ30) I I<|an (ho μ47) I I<|an (ho μ49) I I af
  have μ51:M 5 3975 0 [3,4,30,31,38,47] 2:=hi<|aa [(3,3983),(4,3991)] I<|an (ho μ31) I I<|an (ho μ41) I I af
  have μ52:M 6 1927 0 [3,4,30,31,38,44,46] 1:=hi<|aa [(3,1935),(4,1943),(11,3975)] I<|an (ho μ32) I I<|an (ho μ42) I I<|cm I I (cq.to (σ:=[some (.row 3 1 pre.length (aK pre))]) (p':=.own 1) (σ'':=[none,some (.row 3 1 (pre++[a]).length (aK (pre++[a])))]) (bh (e:=3) (s:=1) (by':=8) (i:=0) (m:=1) (n:=pre.length) (xs:=aK pre) (ys:=[num a]) I (ba.rk.get I) I I I I ⟨by unfold maxLen;omega,by omega⟩) I (by rw[List.length_append,←cZ];rfl)) I (ho μ51) I I af
  have μ53:M 7 903 0 [3,4,30,31,38,44,45] 1:=hi<|aa [(3,911),(4,919),(10,1927)] I<|an (ho μ33) I I<|an (ho μ43) I I<|bx I I (aV (xs:=[num a]) I (ba.sl.get I) ⟨Nat.le_of_ble_eq_true rfl,Nat.le_of_ble_eq_true rfl⟩ rfl rfl) I (ho μ52) I I af
  have μ54:M 8 391 0 [3,4,5,30,31,38,44] 1:=hi<|aa [(3,399),(4,407),(9,903)] I<|an (ho μ34) I I<|an (ho μ44) I I<|an (ho μ53) I I af
  have μ55:M 7 1671 0 [3,4,30,31,38,43,46] 0:=hi<|aa [(3,1679),(4,1687),(8,1927)] I<|an (ho μ35) I I<|an (ho μ45) I I<|fp I I I I hic (ho μ52) I I af
  have μ56:M 8 647 0 [3,4,30,31,38,43,45] 0:=hi<|aa [(3,655),(4,663),(8,903),(10,1671)] I<|an (ho μ36) I I<|an (ho μ46) I I<|fp I I I I hic (ho μ53) I I<|bx I I (aV (xs:=[num a]) I (ba.sl.get I) ⟨Nat.le_of_ble_eq_true rfl,Nat.le_of_ble_eq_true rfl⟩ rfl rfl) I (ho μ55) I I af
  have μ57:M 9 135 0 [3,4,5,30,31,38,43] 0:=hi<|aa [(3,143),(4,151),(8,391),(9,647)] I<|an (ho μ37) I I<|an (ho μ47) I I<|fp I I I I hic (ho μ54) I I<|an (ho μ56) I I af
  have μ58:M 8 1543 0 [2,3,4,30,31,38,46] 0:=hi<|aa [(3,1551),(4,1559),(7,1671)] I<|an (ho μ38) I I<|an (ho μ48) I I<|an (ho μ55) I I af
  have μ59:M 9 519 0 [2,3,4,30,31,38,45] 0:=hi<|aa [(3,527),(4,535),(7,647),(10,1543)] I<|an (ho μ39) I I<|an (ho μ49) I I<|an (ho μ56) I I<|bx I I (aV (xs:=[num a]) I (ba.sl.get I) ⟨Nat.le_of_ble_eq_true rfl,Nat.le_of_ble_eq_true rfl⟩ rfl rfl) I (ho μ58) I I af
  have μ60:M 10 7 0 [2,3,4,5,30,31,38] 0:=hi<|aa [(3,15),(4,23),(7,135),(9,519)] I<|an (ho μ40) I I<|an (ho μ50) I I<|an (ho μ57) I I<|an (ho μ59) I I af
  have μ61:M 5 3987 0 [3,30,31,37,40,47] 2:=hi<|aa [(2,3991)] I<|an (ho μ41) I I af
  have μ62:M 6 1939 0 [3,30,31,37,40,44,46] 1:=hi<|aa [(2,1943),(11,3987)] I<|an (ho μ42) I I<|cm I I (cq.to (σ:=[some (.row 3 1 pre.length (aK pre))]) (p':=.own 1) (σ'':=[none,some (.row 3 1 (pre++[a]).length (aK (pre++[a])))]) (bh (e:=3) (s:=1) (by':=8) (i:=0) (m:=1) (n:=pre.length) (xs:=aK pre) (ys:=[num a]) I (ba.rk.get I) I I I I ⟨by unfold maxLen;omega,by omega⟩) I (by rw[List.length_append,←cZ];rfl)) I (ho μ61) I I af
  have μ63:M 7 915 0 [3,30,31,37,40,44,45] 1:=hi<|aa [(2,919),(10,1939)] I<|an (ho μ43) I I<|bx I I (aV (xs:=[num a]) I (ba.sl.get I) ⟨Nat.le_of_ble_eq_true rfl,Nat.le_of_ble_eq_true rfl⟩ rfl rfl) I (ho μ62) I I af
  have μ64:M 8 403 0 [3,5,30,31,37,40,44] 1:=hi<|aa [(2,407),(9,915)] I<|an (ho μ44) I I<|an (ho μ63) I I af
  have μ65:M 7 1683 0 [3,30,31,37,40,43,46] 0:=hi<|aa [(2,1687),(8,1939)] I<|an (ho μ45) I I<|fp I I I I hic (ho μ62) I I af
  have μ66:M 8 659 0 [3,30,31,37,40,43,45] 0:=hi<|aa [(2,663),(8,915),(10,1683)] I<|an (ho μ46) I I<|fp I I I I hic (ho μ63) I I<|bx I I (aV (xs:=[num a]) I (ba.sl.get I) ⟨Nat.le_of_ble_eq_true rfl,Nat.le_of_ble_eq_true rfl⟩ rfl rfl) I (ho μ65) I I af
  have μ67:M 9 147 0 [3,5,30,31,37,40,43] 0:=hi<|aa [(2,151),(8,403),(9,659)] I<|an (ho μ47) I I<|fp I I I I hic (ho μ64) I I<|an (ho μ66) I I af
  have μ68:M 8 1555 0 [2,3,30,31,37,40,46] 0:=hi<|aa [(2,1559),(7,1683)] I<|an (ho μ48) I I<|an (ho μ65) I I af
  have μ69:M 9 531 0 [2,3,30,31,37,40,45] 0:=hi<|aa [(2,535),(7,659),(10,1555)] I<|an (ho μ49) I I<|an (ho μ66) I I<|bx I I (aV (xs:=[num a]) I (ba.sl.get I) ⟨Nat.le_of_ble_eq_true rfl,Nat.le_of_ble_eq_true rfl⟩ rfl rfl) I (ho μ68) I I af
  have μ70:M 10 19 0 [2,3,5,30,31,37,40] 0:=hi<|aa [(2,23),(7,147),(9,531)] I<|an (ho μ50) I I<|an (ho μ67) I I<|an (ho μ69) I I af
  have μ71:M 6 3971 0 [3,4,30,31,37,47] 2:=hi<|aa [(2,3975),(4,3987)] I<|an (ho μ51) I I<|an (ho μ61) I I af
  have μ72:M 7 1923 0 [3,4,30,31,37,44,46] 1:=hi<|aa [(2,1927),(4,1939),(11,3971)] I<|an (ho μ52) I I<|an (ho μ62) I I<|cm I I (cq.to (σ:=[some (.row 3 1 pre.length (aK pre))]) (p':=.own 1) (σ'':=[none,some (.row 3 1 (pre++[a]).length (aK (pre++[a])))]) (bh (e:=3) (s:=1) (by':=8) (i:=0) (m:=1) (n:=pre.length) (xs:=aK pre) (ys:=[num a]) I (ba.rk.get I) I I I I ⟨by unfold maxLen;omega,by omega⟩) I (by rw[List.length_append,←cZ];rfl)) I (ho μ71) I I af
  have μ73:M 8 899 0 [3,4,30,31,37,44,45] 1:=hi<|aa [(2,903),(4,915),(10,1923)] I<|an (ho μ53) I I<|an (ho μ63) I I<|bx I I (aV (xs:=[num a]) I (ba.sl.get I) ⟨Nat.le_of_ble_eq_true rfl,Nat.le_of_ble_eq_true rfl⟩ rfl rfl) I (ho μ72) I I af
  have μ74:M 9 387 0 [3,4,5,30,31,37,44] 1:=hi<|aa [(2,391),(4,403),(9,899)] I<|an (ho μ54) I I<|an (ho μ64) I I<|an (ho μ73) I I af
  have μ75:M 8 1667 0 [3,4,30,31,37,43,46] 0:=hi<|aa [(2,1671),(4,1683),(8,1923)] I<|an (ho μ55) I I<|an (ho μ65) I I<|fp I I I I hic (ho μ72) I I af
  have μ76:M 9 643 0 [3,4,30,31,37,43,45] 0:=hi<|aa [(2,647),(4,659),(8,899),(10,1667)] I<|an (ho μ56) I I<|an (ho μ66) I I<|fp I I I I hic (ho μ73) I I<|bx I I (aV (xs:=[num a]) I (ba.sl.get I) ⟨Nat.le_of_ble_eq_true rfl,Nat.le_of_ble_eq_true rfl⟩ rfl rfl) I (ho μ75) I I af
  have μ77:M 10 131 0 [3,4,5,30,31,37,43] 0:=hi<|aa [(2,135),(4,147),(8,387),(9,643)] I<|an (ho μ57) I I<|an (ho μ67) I I<|fp I I I I hic (ho μ74) I I<|an (ho μ76) I I af
  have μ78:M 9 1539 0 [2,3,4,30,31,37,46] 0:=hi<|aa [(2,1543),(4,1555),(7,1667)] I<|an (ho μ58) I I<|an (ho μ68) I I<|an (ho μ75) I I af
  have μ79:M 10 515 0 [2,3,4,30,31,37,45] 0:=hi<|aa [(2,519),(4,531),(7,643),(10,1539)] I<|an (ho μ59) I I<|an (ho μ69) I I<|an (ho μ76) I I<|bx I I (aV (xs:=[num a]) I (ba.sl.get I) ⟨Nat.le_of_ble_eq_true rfl,Nat.le_of_ble_eq_true rfl⟩ rfl rfl) I (ho μ78) I I af
  have μ80:M 11 3 0 [2,3,4,5,30,31,37] 0:=hi<|aa [(2,7),(4,19),(7,131),(9,515)] I<|an (ho μ60) I I<|an (ho μ70) I I<|an (ho μ77) I I<|an (ho μ79) I I af
  have μ81:M 6 3985 0 [3,30,31,36,40,47] 2:=hi<|aa [(1,3987)] I<|an (ho μ61) I I af
  have μ82:M 7 1937 0 [3,30,31,36,40,44,46] 1:=hi<|aa [(1,1939),(11,3985)] I<|an (ho μ62) I I<|cm I I (cq.to (σ:=[some (.row 3 1 pre.length (aK pre))]) (p':=.own 1) (σ'':=[none,some (.row 3 1 (pre++[a]).length (aK (pre++[a])))]) (bh (e:=3) (s:=1) (by':=8) (i:=0) (m:=1) (n:=pre.length) (xs:=aK pre) (ys:=[num a]) I (ba.rk.get I) I I I I ⟨by unfold maxLen;omega,by omega⟩) I (by rw[List.length_append,←cZ];rfl)) I (ho μ81) I I af
  have μ83:M 8 913 0 [3,30,31,36,40,44,45] 1:=hi<|aa [(1,915),(10,1937)] I<|an (ho μ63) I I<|bx I I (aV (xs:=[num a]) I (ba.sl.get I) ⟨Nat.le_of_ble_eq_true rfl,Nat.le_of_ble_eq_true rfl⟩ rfl rfl) I (ho μ82) I I af
  have μ84:M 9 401 0 [3,5,30,31,36,40,44] 1:=hi<|aa [(1,403),(9,913)] I<|an (ho μ64) I I<|an (ho μ83) I I af
  have μ85:M 8 1681 0 [3,30,31,36,40,43,46] 0:=hi<|aa [(1,1683),(8,1937)] I<|an (ho μ65) I I<|fp I I I I hic (ho μ82) I I af
  have μ86:M 9 657 0 [3,30,31,36,40,43,45] 0:=hi<|aa [(1,659),(8,913),(10,1681)] I<|an (ho μ66) I I<|fp I I I I hic (ho μ83) I I<|bx I I (aV (xs:=[num a]) I (ba.sl.get I) ⟨Nat.le_of_ble_eq_true rfl,Nat.le_of_ble_eq_true rfl⟩ rfl rfl) I (ho μ85) I I af
  have μ87:M 10 145 0 [3,5,30,31,36,40,43] 0:=hi<|aa [(1,147),(8,401),(9,657)] I<|an (ho μ67) I I<|fp I I I I hic (ho μ84) I I<|an (ho μ86) I I af
  have μ88:M 9 1553 0 [2,3,30,31,36,40,46] 0:=hi<|aa [(1,1555),(7,1681)] I<|an (ho μ68) I I<|an (ho μ85) I I af
  have μ89:M 10 529 0 [2,3,30,31,36,40,45] 0:=hi<|aa [(1,531),(7,657),(10,1553)] I<|an (ho μ69) I I<|an (ho μ86) I I<|bx I I (aV (xs:=[num a]) I (ba.sl.get I) ⟨Nat.le_of_ble_eq_true rfl,Nat.le_of_ble_eq_true rfl⟩ rfl rfl) I (ho μ88) I I af
  have μ90:M 11 17 0 [2,3,5,30,31,36,40] 0:=hi<|aa [(1,19),(7,145),(9,529)] I<|an (ho μ70) I I<|an (ho μ87) I I<|an (ho μ89) I I af
  have μ91:M 7 3969 0 [3,4,30,31,36,47] 2:=hi<|aa [(1,3971),(4,3985)] I<|an (ho μ71) I I<|an (ho μ81) I I af
  have μ92:M 8 1921 0 [3,4,30,31,36,44,46] 1:=hi<|aa [(1,1923),(4,1937),(11,3969)] I<|an (ho μ72) I I<|an (ho μ82) I I<|cm I I (cq.to (σ:=[some (.row 3 1 pre.length (aK pre))]) (p':=.own 1) (σ'':=[none,some (.row 3 1 (pre++[a]).length (aK (pre++[a])))]) (bh (e:=3) (s:=1) (by':=8) (i:=0) (m:=1) (n:=pre.length) (xs:=aK pre) (ys:=[num a]) I (ba.rk.get I) I I I I ⟨by unfold maxLen;omega,by omega⟩) I (by rw[List.length_append,←cZ];rfl)) I (ho μ91) I I af
  have μ93:M 9 897 0 [3,4,30,31,36,44,45] 1:=hi<|aa [(1,899),(4,913),(10,1921)] I<|an (ho μ73) I I<|an (ho μ83) I I<|bx I I (aV (xs:=[num a]) I (ba.sl.get I) ⟨Nat.le_of_ble_eq_true rfl,Nat.le_of_ble_eq_true rfl⟩ rfl rfl) I (ho μ92) I I af
  have μ94:M 10 385 0 [3,4,5,30,31,36,44] 1:=hi<|aa [(1,387),(4,401),(9,897)] I<|an (ho μ74) I I<|an (ho μ84) I I<|an (ho μ93) I I af
  have μ95:M 9 1665 0 [3,4,30,31,36,43,46] 0:=hi<|aa [(1,1667),(4,1681),(8,1921)] I<|an (ho μ75) I I<|an (ho μ85) I I<|fp I I I I hic (ho μ92) I I af
  have μ96:M 10 641 0 [3,4,30,31,36,43,45] 0:=hi<|aa [(1,643),(4,657),(8,897),(10,1665)] I<|an (ho μ76) I I<|an (ho μ86) I I<|fp I I I I hic (ho μ93) I I<|bx I I (aV (xs:=[num a]) I (ba.sl.get I) ⟨Nat.le_of_ble_eq_true rfl,Nat.le_of_ble_eq_true rfl⟩ rfl rfl) I (ho μ95) I I af
  have μ97:M 11 129 0 [3,4,5,30,31,36,43] 0:=hi<|aa [(1,131),(4,145),(8,385),(9,641)] I<|an (ho μ77) I I<|an (ho μ87) I I<|fp I I I I hic (ho μ94) I I<|an (ho μ96) I I af
  have μ98:M 10 1537 0 [2,3,4,30,31,36,46] 0:=hi<|aa [(1,1539),(4,1553),(7,1665)] I<|an (ho μ78) I I<|an (ho μ88) I I<|an (ho μ95) I I af
  have μ99:M 11 513 0 [2,3,4,30,31,36,45] 0:=hi<|aa [(1,515),(4,529),(7,641),(10,1537)] I<|an (ho μ79) I I<|an (ho μ89) I I<|an (ho μ96) I I<|bx I I (aV (xs:=[num a]) I (ba.sl.get I) ⟨Nat.le_of_ble_eq_true rfl,Nat.le_of_ble_eq_true rfl⟩ rfl rfl) I (ho μ98) I I af
  have μ100:M 12 1 0 [2,3,4,5,30,31,36] 0:=hi<|aa [(1,3),(4,17),(7,129),(9,513)] I<|an (ho μ80) I I<|an (ho μ90) I I<|an (ho μ97) I I<|an (ho μ99) I I af
  have μ101:M 7 3984 0 [1,3,30,31,40,47] 2:=hi<|aa [(0,3985)] I<|an (ho μ81) I I af
  have μ102:M 8 1936 0 [1,3,30,31,40,44,46] 1:=hi<|aa [(0,1937),(11,3984)] I<|an (ho μ82) I I<|cm I I (cq.to (σ:=[some (.row 3 1 pre.length (aK pre))]) (p':=.own 1) (σ'':=[none,some (.row 3 1 (pre++[a]).length (aK (pre++[a])))]) (bh (e:=3) (s:=1) (by':=8) (i:=0) (m:=1) (n:=pre.length) (xs:=aK pre) (ys:=[num a]) I (ba.rk.get I) I I I I ⟨by unfold maxLen;omega,by omega⟩) I (by rw[List.length_append,←cZ];rfl)) I (ho μ101) I I af
  have μ103:M 9 912 0 [1,3,30,31,40,44,45] 1:=hi<|aa [(0,913),(10,1936)] I<|an (ho μ83) I I<|bx I I (aV (xs:=[num a]) I (ba.sl.get I) ⟨Nat.le_of_ble_eq_true rfl,Nat.le_of_ble_eq_true rfl⟩ rfl rfl) I (ho μ102) I I af
  have μ104:M 10 400 0 [1,3,5,30,31,40,44] 1:=hi<|aa [(0,401),(9,912)] I<|an (ho μ84) I I<|an (ho μ103) I I af
  have μ105:M 9 1680 0 [1,3,30,31,40,43,46] 0:=hi<|aa [(0,1681),(8,1936)] I<|an (ho μ85) I I<|fp I I I I hic (ho μ102) I I af
  have μ106:M 10 656 0 [1,3,30,31,40,43,45] 0:=hi<|aa [(0,657),(8,912),(10,1680)] I<|an (ho μ86) I I<|fp I I I I hic (ho μ103) I I<|bx I I (aV (xs:=[num a]) I (ba.sl.get I) ⟨Nat.le_of_ble_eq_true rfl,Nat.le_of_ble_eq_true rfl⟩ rfl rfl) I (ho μ105) I I af
  have μ107:M 11 144 0 [1,3,5,30,31,40,43] 0:=hi<|aa [(0,145),(8,400),(9,656)] I<|an (ho μ87) I I<|fp I I I I hic (ho μ104) I I<|an (ho μ106) I I af
  have μ108:M 10 1552 0 [1,2,3,30,31,40,46] 0:=hi<|aa [(0,1553),(7,1680)] I<|an (ho μ88) I I<|an (ho μ105) I I af
  have μ109:M 11 528 0 [1,2,3,30,31,40,45] 0:=hi<|aa [(0,529),(7,656),(10,1552)] I<|an (ho μ89) I I<|an (ho μ106) I I<|bx I I (aV (xs:=[num a]) I (ba.sl.get I) ⟨Nat.le_of_ble_eq_true rfl,Nat.le_of_ble_eq_true rfl⟩ rfl rfl) I (ho μ108) I I af
  have μ110:M 12 16 0 [1,2,3,5,30,31,40] 0:=hi<|aa [(0,17),(7,144),(9,528)] I<|an (ho μ90) I I<|an (ho μ107) I I<|an (ho μ109) I I af
  have μ111:M 8 3968 0 [1,3,4,30,31,47] 2:=hi<|aa [(0,3969),(4,3984)] I<|an (ho μ91) I I<|an (ho μ101) I I af
  have μ112:M 9 1920 0 [1,3,4,30,31,44,46] 1:=hi<|aa [(0,1921),(4,1936),(11,3968)] I<|an (ho μ92) I I<|an (ho μ102) I I<|cm I I (cq.to (σ:=[some (.row 3 1 pre.length (aK pre))]) (p':=.own 1) (σ'':=[none,some (.row 3 1 (pre++[a]).length (aK (pre++[a])))]) (bh (e:=3) (s:=1) (by':=8) (i:=0) (m:=1) (n:=pre.length) (xs:=aK pre) (ys:=[num a]) I (ba.rk.get I) I I I I ⟨by unfold maxLen;omega,by omega⟩) I (by rw[List.length_append,←cZ];rfl)) I (ho μ111) I I af
  have μ113:M 10 896 0 [1,3,4,30,31,44,45] 1:=hi<|aa [(0,897),(4,912),(10,1920)] I<|an (ho μ93) I I<|an (ho μ103) I I<|bx I I (aV (xs:=[num a]) I (ba.sl.get I) ⟨Nat.le_of_ble_eq_true rfl,Nat.le_of_ble_eq_true rfl⟩ rfl rfl) I (ho μ112) I I af
  have μ114:M 11 384 0 [1,3,4,5,30,31,44] 1:=hi<|aa [(0,385),(4,400),(9,896)] I<|an (ho μ94) I I<|an (ho μ104) I I<|an (ho μ113) I I af
  have μ115:M 10 1664 0 [1,3,4,30,31,43,46] 0:=hi<|aa [(0,1665),(4,1680),(8,1920)] I<|an (ho μ95) I I<|an (ho μ105) I I<|fp I I I I hic (ho μ112) I I af
  have μ116:M 11 640 0 [1,3,4,30,31,43,45] 0:=hi<|aa [(0,641),(4,656),(8,896),(10,1664)] I<|an (ho μ96) I I<|an (ho μ106) I I<|fp I I I I hic (ho μ113) I I<|bx I I (aV (xs:=[num a]) I (ba.sl.get I) ⟨Nat.le_of_ble_eq_true rfl,Nat.le_of_ble_eq_true rfl⟩ rfl rfl) I (ho μ115) I I af
  have μ117:M 12 128 0 [1,3,4,5,30,31,43] 0:=hi<|aa [(0,129),(4,144),(8,384),(9,640)] I<|an (ho μ97) I I<|an (ho μ107) I I<|fp I I I I hic (ho μ114) I I<|an (ho μ116) I I af
  have μ118:M 11 1536 0 [1,2,3,4,30,31,46] 0:=hi<|aa [(0,1537),(4,1552),(7,1664)] I<|an (ho μ98) I I<|an (ho μ108) I I<|an (ho μ115) I I af
  have μ119:M 12 512 0 [1,2,3,4,30,31,45] 0:=hi<|aa [(0,513),(4,528),(7,640),(10,1536)] I<|an (ho μ99) I I<|an (ho μ109) I I<|an (ho μ116) I I<|bx I I (aV (xs:=[num a]) I (ba.sl.get I) ⟨Nat.le_of_ble_eq_true rfl,Nat.le_of_ble_eq_true rfl⟩ rfl rfl) I (ho μ118) I I af
  have μ120:M 13 0 0 [1,2,3,4,5,30,31] 0:=hi<|aa [(0,1),(4,16),(7,128),(9,512)] I<|an (ho μ100) I I<|an (ho μ110) I I<|an (ho μ117) I I<|an (ho μ119) I I af
  exact μ120
attribute [local go_sem] Oper.semAt_some
theorem tE{w:World}{l:Nat}{r:Loop}{o:Obj}(hl:w.heap[l]? =some (.loop r)){a:Addr}{x:Value}(h:w.cell? a=some x):(w.putObj l o).cell? a=some x:=by
 have hne:a.block≠l:=fun e=>by
  unfold World.cell? at h
  rw[e,hl]at h
  simp at h
 rw[kq (World.putObj_heap_other hne)]
 exact h
theorem cM.loop{E:Env}{w:World}{l:Nat}{r:Loop}{o:Obj}(hl:w.heap[l]? =some (.loop r)){v:Value}{p:PV}(h:cM E w v p):cM E (w.putObj l o) v p:=by
 induction h with
 |any v=>exact .any v
 |raw v=>exact .raw v
 |bM=>exact .bM
 |empty a c h=>exact .empty a c h
 |slice b off n c cs xs h0 h1 h2 hb hM hc hl2 _ ih=>exact .slice b off n c cs xs h0 h1 h2 (by simpa using hb) hM (fun i x hx=>tE hl (hc i x hx)) hl2 ih
 |bb b o' off cs xs hb hM hc hl2 _ ih=>exact .bb b o' off cs xs (by simpa using hb) hM (fun i x hx=>tE hl (hc i x hx)) hl2 ih
 |agg cs xs hl2 _ ih=>exact .agg cs xs hl2 ih
 |tuple cs xs hl2 _ ih=>exact .tuple cs xs hl2 ih
 |func f cs xs hl2 _ ih=>exact .func f cs xs hl2 ih
 |ptr i off b hi h=>exact .ptr i off b hi h
 |own i hi v h hs=>exact .own i hi v h hs
def eZ(e:Nat)(cS:Int)(path:List Int):List PV:=[num e,num cS,av path]
theorem uu(e:Nat)(cS:Int)(path:List Int):IsPure (.agg (eZ e cS path)):=by unfold eZ;infer_instance
def GR(F0:Nat→Prop)(e:Nat)(cS:Int)(path:List Int)(x:Value)(W:World):Prop:=cM (EF F0) W x (.agg (eZ e cS path))
theorem GR.calm(F0:Nat→Prop)(e:Nat)(cS:Int)(path:List Int):eY.Calm (GR F0 e cS path):=fun _ _ _ _ _ h hl=>cM.loop hl h
theorem BJ{P:Program}{ops:Array Oper}{n i l:Nat}{o:Oper}{a:Act}{w:World}{Q:Exit→Act→World→Prop}{x y:Operand}{ats:Array TypeId}{R:Ending→World→Prop}(ho:ops[i]? =some o)(hg:o.guard=none)(hop:o.op= .call {callee:=.value x,args:= #[y],argTypes:=ats})
  (hx:a.eval x= .func (.yield l) #[] #[]) (hy:YieldAt Fence.wide (n - 1) P l #[a.eval y] w R) (hR:∀e w',R e w'→∃v,e= .returned v∧Q .normal (a.put o.dst v) w'):wpOpsIn Fence.wide n P ops Q [i] a w:=by
 obtain⟨fn,tmps,assign,body,h1,h2⟩:=hy
 rw[wpOpsIn_cons]
 unfold wpOpIn
 rw[ho]
 simp only
 rw[if_pos (by unfold Region.wanted;rw[hg])]
 refine⟨fun _ _=>trivial,?_⟩
 rw[show Fence.wide.round=none from rfl,Oper.semAt_none]
 have hr:(execOp a.eval o).run P w= .ok (.round l fn tmps assign body) w:=by
  simp[execOp,hop,resolve,hx,Deferred.ofValue,invoke,h1]
 rw[hr]
 refine⟨fun h=>by simp[Fence.wide]at h,h2.mono fun e w' he=>?_⟩
 obtain⟨v,rfl,hq⟩:=hR e w' he
 exact hq
section
variable {T:ak} {tb:Nat→de} {p0:dx} {Φ:Nat→Nat→List bV→Prop}
set_option maxRecDepth 100000 in
set_option maxHeartbeats 4000000 in
theorem Ho{n:Nat}{o:Out}{vs:List PV}{c:Int}{pre:List Int}(ha:o.ax=[])(hpl:pre.length≤1000)[hvs:aL vs]{xb pb:Value}{W₀:World}{F0:Nat→Prop}(hF:∀b,F0 b→b<W₀.heap.size)(gl:iA F0 W₀)(hX:cM (EF F0) W₀ xb (.bb [.bb (dP n o vs c) 0] 0))(hP:cM (EF F0) W₀ pb (.bb [av pre] 0)):
  zD Tryz.prog 165 #[xb,pb] (GR F0 n o.cS pre) W₀:=by
 intro n' l W R hW hkeep hY
 have hargs:bf (EF F0) W (#[Value.func (.yield l) #[] #[]]++ #[xb,pb]).toList [.raw (.func (.yield l) #[] #[]),.bb [.bb (dP n o vs c) 0] 0,.bb [av pre] 0]:=
  bf.cons (.raw _) (bf.cons (hX.ext hW) (bf.cons (hP.ext hW) (bf.nil _ _)))
 have hF':∀b,F0 b→b<W.heap.size:=fun b hb=>Nat.lt_of_lt_of_le (hF b hb) hW.size
 have gl':iA F0 W:=gl.goes (E:=EF F0) (E':=EF F0) (.ext hW)
 refine callsIn_of_wp_marks Tryz.func165 I trivial ?_ rfl
 have hs0:=jh (N:=55) (Sat.start F0 W hF' gl') hargs (by simp)
 have hc0:pa W.heap.size 0 (EF F0) W (EF F0) W:=⟨rfl,di.refl _ _,Below.refl _ _⟩
 refine wpIn_seq (piece (K:=fun s=>s=⟨[(1,.bb [.bb (dP n o vs c) 0] 0),(2,.bb [av pre] 0),(3,.bb [.raw (.func (.yield l) #[] #[])] 0)],[]⟩) hc0 hs0 ?_ ?_)
 ·skip
  refine aC (.a 1 I<|.k [1,2,3] I) ?_
  exact rfl
 rintro _ E1 a1 w1 rfl hs1 g1 b1
 refine wpIn_seq (wpIn_seq (piece (K:=fun s=>s=⟨[(1,.bb [.bb (dP n o vs c) 0] 0),(2,.bb [av pre] 0),(3,.bb [.raw (.func (.yield l) #[] #[])] 0),(12,flag true)],[]⟩) ⟨rfl,g1,b1⟩ hs1 ?_ ?_))
 ·skip
  refine aC (.a 5 I<|.v (D8 I I I (decide_eq_true (by rw[ha];rfl))) I<|.k [1,2,3,12] I) ?_
  exact rfl
 rintro _ E2 a2 w2 rfl hs2 g2 b2
 refine wpIn_cond_true (ek (hs2.tmp 12 _ rfl)) ?_
 refine wpIn_seq ?_
 skip
 refine sS 12 20 [13,14,15,16,17,18,19,20,21,22,23,24] mixed (by kernel_rfl) (by kernel_rfl) (by kernel_rfl) I (hs2) (.a 4 I<|.v [16] (aJ I (rfl)) I I<|.a 3 I<|.v [20] (aJ I (rfl)) I I<|.a 1 I<|.v [22] (dU I (rQ pre hpl)) I I<|.a 1 I<|.k [13,24] I) ?_
 intro a3 w3 hE3 hs3
 have hEW:Ext W w3:=Ext.trans b2 hE3
 have h24:=hs3.tmp 24 (.agg (eZ n o.cS pre)) I
 have hv:GR F0 n o.cS pre (a3.eval (.tmp 24)) w3:=(uu n o.cS pre).out _ F0 _ _ (fun b hb=>(hs3.sat.mm b).2 (.inl hb)) h24
 refine BJ (x:=.tmp 13) (y:=.tmp 24) I I I (ek (hs3.tmp 13 _ rfl)) (hY _ _ w3 hEW hv) ?_
 rintro e w4 ⟨rfl,hr⟩
 refine⟨_,rfl,wpIn_ret ?_⟩
 show LeavesInM _ _ _ _ _ _ (a3.put (some 25) (.bool true)).defers _ _
 rw[show(a3.put (some 25) (.bool true)).defers=[] from hs3.j9]
 exact⟨_,results_none rfl _ _ _,⟨_,rfl⟩,w3,w4,hEW,hr,Rest.refl _ _ _⟩
end
attribute [local go_sem] Oper.semAt_some
theorem eB.one{E:Env}{w:World}{ρ:Operand→Value}{k:Nat}{p:PV}{t:cn}(h:cM E w (ρ (.tmp k)) p)(ht:eB E w ρ t):eB E w ρ ((k,p)::t):=ht.Fj h
theorem eB.Kn{E:Env}{w:World}{ρ:Operand→Value}:eB E w ρ []:=fun k p h=>by cases h
theorem mS{a:Act}{k:Nat}{v:Value}(h:k<a.tmps.size):(a.put (some k) v).eval (.tmp k)=v:=by
 show(a.tmps.setIfInBounds k v).getD k undef=v
 simp[h]
theorem sg{a:Act}{k j:Nat}{v:Value}(h:j≠k):(a.put (some k) v).eval (.tmp j)=a.eval (.tmp j):=by
 show(a.tmps.setIfInBounds k v).getD j undef=a.tmps.getD j undef
 simp[Array.getD_eq_getD_getElem?,Array.getElem?_setIfInBounds_ne (Ne.symm h)]
set_option maxRecDepth 100000 in
set_option maxHeartbeats 8000000 in
theorem HW{n:Nat}{o:Out}{ys:List PV}{c:Int}{pre q:List Int}{a:Int}{e:Nat}{cS:Int}(ha:o.ax=[a])(hpl:pre.length+1≤1000)[hv1:aL ys]{xb pb:Value}{W₀:World}{F0:Nat→Prop}(hF:∀b,F0 b→b<W₀.heap.size)(gl:iA F0 W₀)(hX:cM (EF F0) W₀ xb (.bb [.bb (dP n o [.bb ys 0] c) 0] 0))(hP:cM (EF F0) W₀ pb (.bb [av pre] 0))
  (hin:∀(xb' pb':Value) (W':World),(∀b,F0 b→b<W'.heap.size)→iA F0 W'→cM (EF F0) W' xb' (.bb [.bb ys 0] 0)→cM (EF F0) W' pb' (.bb [av (pre++[a])] 0)→zD Tryz.prog 165 #[xb',pb'] (GR F0 e cS ((pre++[a])++q)) W'):
  zD Tryz.prog 165 #[xb,pb] (GR F0 e cS (pre++a::q)) W₀:=by
 intro n' l W R hW hkeep hY
 have hargs:bf (EF F0) W (#[Value.func (.yield l) #[] #[]]++ #[xb,pb]).toList [.raw (.func (.yield l) #[] #[]),.bb [.bb (dP n o [.bb ys 0] c) 0] 0,.bb [av pre] 0]:=
  bf.cons (.raw _) (bf.cons (hX.ext hW) (bf.cons (hP.ext hW) (bf.nil _ _)))
 have hF':∀b,F0 b→b<W.heap.size:=fun b hb=>Nat.lt_of_lt_of_le (hF b hb) hW.size
 have gl':iA F0 W:=gl.goes (E:=EF F0) (E':=EF F0) (.ext hW)
 refine callsIn_of_wp_marks Tryz.func165 I trivial ?_ rfl
 have hs0:=jh (N:=55) (Sat.start F0 W hF' gl') hargs (by simp)
 have hc0:pa W.heap.size 0 (EF F0) W (EF F0) W:=⟨rfl,di.refl _ _,Below.refl _ _⟩
 refine wpIn_seq (piece (K:=fun s=>s=⟨[(1,.bb [.bb (dP n o [.bb ys 0] c) 0] 0),(2,.bb [av pre] 0),(3,.bb [.raw (.func (.yield l) #[] #[])] 0)],[]⟩) hc0 hs0 ?_ ?_)
 ·skip
  refine aC (.a 1 I<|.k [1,2,3] I) ?_
  exact rfl
 rintro _ E1 a1 w1 rfl hs1 g1 b1
 refine wpIn_seq (wpIn_seq (piece (K:=fun s=>s=⟨[(1,.bb [.bb (dP n o [.bb ys 0] c) 0] 0),(2,.bb [av pre] 0),(3,.bb [.raw (.func (.yield l) #[] #[])] 0),(12,flag false)],[]⟩) ⟨rfl,g1,b1⟩ hs1 ?_ ?_))
 ·skip
  refine aC (.a 5 I<|.v (D8 I I I (decide_eq_false (by rw[ha];simp))) I<|.k [1,2,3,12] I) ?_
  exact rfl
 rintro _ E2 a2 w2 rfl hs2 g2 b2
 refine wpIn_cond_false (ek (hs2.tmp 12 _ rfl)) (wpIn_skip ?_)
 refine wpIn_seq (piece (K:=fun s=>s=⟨[(1,.bb [.bb (dP n o [.bb ys 0] c) 0] 0),(2,.bb [av pre] 0),(3,.bb [.raw (.func (.yield l) #[] #[])] 0),(29,av o.ax),(30,num o.ax.length),(31,num 0)],[]⟩) ⟨rfl,g2,b2⟩ hs2 ?_ ?_)
 ·skip
  refine aC (.a 6 I<|.k [1,2,3,29,30,31] I) ?_
  exact rfl
 rintro _ E3 a3 w3 rfl hs3 g3 b3
 rw[ha]at hs3
 refine wpIn_block ?_
 refine wR (fun a' w'=>∃D W1 W2,a'.defers=[{target:=.collected D,args:= #[]}]∧a'.tmps.size=55∧a'.eval (.tmp 31)= .int .i64 1∧a'.eval (.tmp 30)= .int .i64 1∧w'.heap[D]? =some (.deferred (some []))∧Ext W W1∧R W1 W2∧eY.Rest W.heap.size W1.heap.size W2 w'∧W.heap.size≤D∧D<W1.heap.size) ?_ ?_
 ·
  refine wpIn_seq (piece (K:=fun s=>s=⟨[(1,.bb [.bb (dP n o [.bb ys 0] c) 0] 0),(2,.bb [av pre] 0),(3,.bb [.raw (.func (.yield l) #[] #[])] 0),(29,av [a]),(30,num ([a]:List Int).length),(31,num 0),(32,flag true)],[]⟩) ⟨rfl,g3,b3⟩ hs3 ?_ ?_)
  ·skip
   refine aC (.a 1 I<|.k [1,2,3,29,30,31,32] I) ?_
   exact rfl
  rintro _ E4 a4 w4 rfl hs4 g4 b4
  refine wpIn_seq (wpIn_cond_true (ek (hs4.tmp 32 _ rfl)) (wpIn_skip ?_))
  refine wpIn_seq (wpIn_block ?_)
  refine wpIn_seq (piece (K:=fun s=>s=⟨[(1,.bb [.bb (dP n o [.bb ys 0] c) 0] 0),(2,.bb [av pre] 0),(3,.bb [.raw (.func (.yield l) #[] #[])] 0),(4,num 0),(5,num a),(30,num ([a]:List Int).length),(31,num 0)],[]⟩) ⟨rfl,g4,b4⟩ hs4 ?_ ?_)
  ·skip
   refine aC (.a 1 I<|.v (aN (0) I (by simp) (by simp)) I<|.v (aJ I ((rfl:(aK [a])[0]? =some (num a)))) I<|.a 2 I<|.k [1,2,3,4,5,30,31] I) ?_
   exact rfl
  rintro _ E5 a5 w5 rfl hs5 g5 b5
  refine wpIn_seq (piece (L:=0) (K:=J8 ys pre a l) ⟨rfl,g5,b5⟩ hs5 (Gg ys pre a l n o c hpl) ?_)
  rintro⟨t6,σ6⟩ E6 a6 w6 ⟨hσ6,hsub6⟩ hs6 g6 b6
  simp only at hσ6 hsub6
  subst hσ6
  have ht6:=hs6.tmp.sub hsub6
  have hpl2:aL (aK (pre++[a])):=inferInstance
  have h48:=(ay.iY (f:=165) (ah.cons (ay.jI (i:=2) (k:=0) (blk:=.cells 147 [.bb ys 0]) (ys:=[.bb ys 0]) I (show ah _ [.bb ys 0] [.bb ys 0] from ah.pure))<|ah.cons (ay.jI (i:=3) (k:=0) (blk:=.cells 37 [.own 1]) (ys:=[av (pre++[a])]) I (ah.cons (ay.fy (i:=1) I ah.pure) ah.nil)) ah.nil)).rep hs6.sat (G:=F0) (fun b hb=>(hs6.sat.mm b).2 (.inl hb)) (fun b hb=>(hs6.sat.fb b hb).2) _ (ht6 48 _ rfl)
  have h3:cM (EF F0) w6 (a6.eval (.tmp 3)) (.bb [.raw (.func (.yield l) #[] #[])] 0):=(inferInstance:IsPure (.bb [.raw (.func (.yield l) #[] #[])] 0)).out _ F0 _ _ (fun b hb=>(hs6.sat.mm b).2 (.inl hb)) (ht6 3 _ rfl)
  have h30:a6.eval (.tmp 30)= .int .i64 1:=ek (ht6 30 _ rfl)
  have h31:a6.eval (.tmp 31)= .int .i64 0:=ek (ht6 31 _ rfl)
  have hd6:a6.defers=[]:=hs6.j9
  have hz6:a6.tmps.size=55:=hs6.size
  have hE6:Ext W w6:=b6
  have hF6:∀b,F0 b→b<w6.heap.size:=fun b hb=>Nat.lt_of_lt_of_le (hF' b hb) hE6.size
  have gl6:iA F0 w6:=gl'.goes (E:=EF F0) (E':=EF F0) (.ext hE6)
  clear ht6 hs6 g6 b6 hsub6
  generalize hz48:a6.eval (.tmp 48)=z48 at h48
  cases h48 with
  |func _ cs _ hcl hcr=>
  obtain⟨cs⟩:=cs
  match cs,hcl,hcr with
  | [xb',pb'],_,hcr=>
  have hxb:=hcr 0 xb' _ rfl rfl
  have hpb:=hcr 1 pb' _ rfl rfl
  refine wpIn_block ?_
  refine lW hz48 (enters_of Tryz.func165 (by kernel_rfl) I) (GR.calm F0 e cS ((pre++[a])++q)) (fun v A B h hE=>cM.ext hE h) (hin xb' pb' w6 hF6 gl6 hxb hpb) (Below.refl _ _) I (fun Wb W3=>∃Wc,Ext Wb Wc∧R Wc W3) ?_ ?_
  ·intro m l2 v W1 hl2 hloop hE1 hv
   obtain⟨rl,hrl⟩:=hloop
   obtain⟨arr6,ds6⟩:=a6
   simp only at hd6 hz6
   subst hd6
   have hF1:∀b,F0 b→b<W1.heap.size:=fun b hb=>Nat.lt_of_lt_of_le (hF6 b hb) hE1.size
   have gl1:iA F0 W1:=gl6.goes (E:=EF F0) (E':=EF F0) (.ext hE1)
   have hsA:eh F0 W1.heap.size 55 ⟨[(49,.agg (eZ e cS ((pre++[a])++q))),(3,.bb [.raw (.func (.yield l) #[] #[])] 0)],[]⟩ (EF F0) ((⟨arr6,[]⟩:Act).put (some 49) v) W1:=
    ⟨Sat.start F0 W1 hF1 gl1,eB.put (eB.one (h3.ext hE1) eB.Kn) hv (by simp[hz6]),rfl,by simp[Act.put,hz6]⟩
   rw[show({tmps:=(#[49].zip #[v]).foldl (fun t (p,v)=>t.setIfInBounds p v) arr6,defers:=[]}:Act)=(⟨arr6,[]⟩:Act).put (some 49) v from by simp[Act.put]]
   refine mK (m:=2) (K:=fun s=>s=⟨[(3,.bb [.raw (.func (.yield l) #[] #[])] 0),(6,.ptr 0 0)],[some (.cells 107 (eZ e cS ((pre++[a])++q)))]⟩) I I hsA rfl (by refine aw 2 I ?_;refine aE [3,6] I ?_;rfl) ?_
   rintro _ Ea a7 Wa rfl hsB gB bB
   refine⟨bB,fun Wb hlb hEb hzb hoth hvb=>?_⟩
   have hla:Wa.heap[l2]? =some (.loop rl):=(bB.block _ (Array.getElem?_eq_some_iff.1 hrl).1).trans hrl
   have hpr:aL (eZ e cS ((pre++[a])++q)):=by unfold eZ;infer_instance
   have r6:=((ay.jI (i:=0) (k:=0) (blk:=.cells 107 (eZ e cS ((pre++[a])++q))) (ys:=eZ e cS ((pre++[a])++q)) I (show ah _ (eZ e cS ((pre++[a])++q)) (eZ e cS ((pre++[a])++q)) from ah.pure)).rep hsB.sat (G:=F0) (fun b hb=>(hsB.sat.mm b).2 (.inl hb)) (fun b hb=>(hsB.sat.fb b hb).2) _ (hsB.tmp 6 _ rfl)).other hla hzb hoth
   have r3:=((inferInstance:IsPure (.bb [.raw (.func (.yield l) #[] #[])] 0)).out _ F0 _ _ (fun b hb=>(hsB.sat.mm b).2 (.inl hb)) (hsB.tmp 3 _ rfl)).other hla hzb hoth
   have hFb:∀b,F0 b→b<Wb.heap.size:=fun b hb=>Nat.lt_of_lt_of_le (hF6 b hb) hEb.size
   have glb:iA F0 Wb:=(gl1.goes (E:=EF F0) (E':=EF F0) (.ext (w':=Wa) bB)).other hla hoth
   have hsC:eh F0 Wb.heap.size 55 ⟨[(3,.bb [.raw (.func (.yield l) #[] #[])] 0),(6,.bb (eZ e cS ((pre++[a])++q)) 0)],[]⟩ (EF F0) a7 Wb:=
    ⟨Sat.start F0 Wb hFb glb,eB.one r3 (eB.one r6 eB.Kn),hsB.j9,hsB.size⟩
   refine wpIn_block (wpIn_seq ?_)
   refine mK (m:=2) (K:=fun s=>s=⟨[(50,.raw (.func (.yield l) #[] #[])),(51,.agg (eZ e cS ((pre++[a])++q)))],[]⟩) I I hsC rfl (by refine aw 2 I ?_;refine aE [50,51] I ?_;rfl) ?_
   rintro _ Ed a8 Wc rfl hsD gD bD
   have hEbc:Ext Wb Wc:=bD
   have hEWc:Ext W Wc:=(hE6.trans hEb).trans hEbc
   have h51:=(uu e cS ((pre++[a])++q)).out _ F0 _ _ (fun b hb=>(hsD.sat.mm b).2 (.inl hb)) (hsD.tmp 51 _ rfl)
   rw[show(pre++[a])++q=pre++a::q by simp]at h51
   have hz8:a8.tmps.size=55:=hsD.size
   show wpOpsIn _ _ _ _ _ [2,3] a8 Wc
   refine CM (x:=.tmp 50) (y:=.tmp 51) I I I (ek (hsD.tmp 50 _ rfl)) (hY _ _ Wc hEWc h51) ?_
   rintro e4 W4 ⟨rfl,hr4⟩
   refine⟨_,rfl,?_⟩
   refine mE (.inr ⟨_,rfl⟩) I I (fun c e=>by cases e) (Dy rfl (mS (by omega))) ?_
   refine wpIn_cond_false (mS (by simp[Act.put,hz8])) (wpIn_skip ?_)
   obtain⟨k1,k2⟩:=hkeep _ _ hr4
   have hs1:=hE6.size
   have hs2:=hEbc.size
   exact⟨⟨by omega,fun k h1 h2=>(k2 k (by omega) (by omega)).trans (hEbc.block k h2)⟩,Wc,hEbc,hr4⟩
  ·intro Wb W3 W' hEb hlt hle hrx hrest hD
   obtain⟨Wc,hEbc,hr⟩:=hrx
   have hs1:=hE6.size
   have hs2:=hEbc.size
   refine wpIn_region ?_
   refine mE (.inl rfl) I I (fun c e=>by cases e) (v8 rfl (show Act.eval {a6 with defers:=_} (.tmp 31)=_ from h31) I (v:=.int .i64 1) (by simp[binOp,Op.intArith,jR (show In64 1 by unfold In64;omega)])) ?_
   refine mE (.inl rfl) I I (fun c e=>by cases e) (Bx rfl) ?_
   refine⟨w6.heap.size,Wc,W3,by show _::a6.defers=_;rw[hd6],by show((a6.tmps.setIfInBounds 54 _).setIfInBounds 31 _).size=55;simp[hz6],?_,?_,hD,(hE6.trans hEb).trans hEbc,hr,hrest.wide hs1 hs2,hs1,by omega⟩
   ·refine(mS (k:=31) (by show 31<(a6.tmps.setIfInBounds 54 _).size;simp[hz6])).trans ?_
    exact mS (k:=54) (by show 54<a6.tmps.size;omega)
   ·refine(sg (k:=31) (j:=30) (by decide)).trans ?_
    refine(sg (k:=54) (j:=30) (by decide)).trans ?_
    exact h30
 ·rintro a' w' ⟨D,W1,W2,hd,hz,h31,h30,hD,hE,hR,hrest,hD1,hD2⟩
  refine wpIn_seq (wpIn_region ?_)
  refine mE (.inl rfl) I I (fun c e=>by cases e) (v8 rfl h31 h30 (v:=.bool false) (by simp[binOp,Op.intCmp])) ?_
  have h32:(a'.put (some 32) (.bool false)).eval (.tmp 32)= .bool false:=by
   show(a'.tmps.setIfInBounds 32 _).getD 32 _=_
   simp[hz]
  refine wpIn_seq (wpIn_cond_false h32 (wpIn_exit ?_))
  show LeavesInM _ _ _ _ _ _ (a'.put (some 32) (.bool false)).defers _ _
  rw[show(a'.put (some 32) (.bool false)).defers=[{target:=.collected D,args:= #[]}] from hd]
  refine⟨by simp,.inl ⟨_,_,rfl,run_takeDeferred hD,?_⟩⟩
  exact⟨_,results_none rfl _ _ _,⟨_,rfl⟩,W1,W2,hE,hR,hrest.trans (Rest.put hD rfl hD1 hD2)⟩
attribute [local go_sem] Oper.semAt_some
theorem zU{w:World}{a:Addr}{x:Value}(h:w.cell? a=some x):∃o,w.heap[a.block]? =some o∧o.isCells=true:=by
 unfold World.cell? at h
 cases ho:w.heap[a.block]? with
 |none=>rw[ho]at h;simp at h
 |some o=>exact⟨o,rfl,by rw[ho]at h;cases o<;>simp_all[Obj.isCells]⟩
theorem cM.cells{E:Env}{w w':World}(hz:w.heap.size≤w'.heap.size)(hc:∀(k:Nat) (o:Obj),w.heap[k]? =some o→o.isCells=true→w'.heap[k]? =some o){v:Value}{p:PV}(h:cM E w v p):cM E w' v p:=by
 have key:∀ {a:Addr} {x:Value},w.cell? a=some x→w'.cell? a=some x:=fun {a x} h=>by
  obtain⟨o,h1,h2⟩:=zU h
  rw[kq ((hc _ _ h1 h2).trans h1.symm)]
  exact h
 induction h with
 |any v=>exact .any v
 |raw v=>exact .raw v
 |bM=>exact .bM
 |empty a c h=>exact .empty a c h
 |slice b off n c cs xs h0 h1 h2 hb hM hcc hl2 _ ih=>exact .slice b off n c cs xs h0 h1 h2 (by omega) hM (fun i x hx=>key (hcc i x hx)) hl2 ih
 |bb b o' off cs xs hb hM hcc hl2 _ ih=>exact .bb b o' off cs xs (by omega) hM (fun i x hx=>key (hcc i x hx)) hl2 ih
 |agg cs xs hl2 _ ih=>exact .agg cs xs hl2 ih
 |tuple cs xs hl2 _ ih=>exact .tuple cs xs hl2 ih
 |func f cs xs hl2 _ ih=>exact .func f cs xs hl2 ih
 |ptr i off b hi h=>exact .ptr i off b hi h
 |own i hi v h hs=>exact .own i hi v h hs
set_option maxRecDepth 100000 in
set_option maxHeartbeats 8000000 in
theorem CB{xv pv:PV}[IsPure xv][IsPure pv]{e:Nat}{cS:Int}{p:List Int}
    (hin:∀(F0:Nat→Prop) (xb pb:Value) (W':World),(∀b,F0 b→b<W'.heap.size)→iA F0 W'→cM (EF F0) W' xb xv→cM (EF F0) W' pb pv→zD Tryz.prog 165 #[xb,pb] (GR F0 e cS p) W'):
    Can Tryz.prog 164 [.raw (.slice none 0 0),.func 165 [xv,pv]] (· = .slice 1 (eZ e cS p)):=by
  intro F0 w vs hF gl hR
  refine(callsIn_wide (n:=4)).1 ?_
  refine callsIn_of_wp_marks Tryz.func164 I trivial ?_ rfl
  have hs0:=jh (N:=13) (Sat.start F0 w hF gl) hR (by have:=hR.1;simp at this;omega)
  have hc0:pa w.heap.size 0 (EF F0) w (EF F0) w:=⟨rfl,di.refl _ _,Below.refl _ _⟩
  refine wpIn_seq (piece (L:=0) (K:=fun s=>s=⟨[(1,.func 165 [xv,pv]),(2,.ptr 0 0)],[some (.cells 104 [.raw (.slice none 0 0)])]⟩) hc0 hs0 ?_ ?_)
  · skip
    refine bI<|b7 (fD (xs:=[_]) I I I) I<|aw 1 I<|aE [1,2] I ?_
    exact rfl
  rintro _ E1 a1 w1 rfl hs1 g1 b1
  refine wpIn_seq (wpIn_seq (piece (L:=0) (K:=fun s=>s=⟨[(2,.ptr 0 0),(6,.func 165 [xv,pv])],[some (.cells 104 [.raw (.slice none 0 0)])]⟩) ⟨rfl,g1,b1⟩ hs1 ?_ ?_))
  · skip
    refine aC (.a 1 I<|.k [2,6] I) ?_
    exact rfl
  rintro _ E2 a2 w2 rfl hs2 g2 b2
  have hE2:Ext w w2:=b2
  have hF2:∀b,F0 b→b<w2.heap.size:=fun b hb=>Nat.lt_of_lt_of_le (hF b hb) hE2.size
  have hM2:∀b,E2.M b→b<w2.heap.size:=fun b hb=>hs2.sat.lt hb
  obtain⟨B,cs0,hB,hBb,hBh,hBr⟩:=hs2.sat.blk 0 _ rfl
  have h6:=(inferInstance:IsPure (.func 165 [xv,pv])).out _ E2.M _ _ (fun b hb=>hb) (hs2.tmp 6 _ rfl)
  have h2:a2.eval (.tmp 2)= .pointer (some ⟨B,0,none⟩):=by
    have:=hs2.tmp 2 _ rfl
    generalize a2.eval (.tmp 2)=z at this
    cases this with
    |ptr _ _ b' _ h=>
      rcases h with h|⟨n',c',h⟩<;>rw[hB]at h<;>cases h
      rfl
  have hBl:B<w2.heap.size:=(Array.getElem?_eq_some_iff.1 hBh).1
  obtain⟨c0,rfl⟩:∃c0,cs0= #[c0]:=by
    obtain⟨cl⟩:=cs0
    match cl,hBr.1 with
    | [c0],_=>exact⟨c0,rfl⟩
  have hd2:=hs2.j9
  have hz2:=hs2.size
  generalize hz48:a2.eval (.tmp 6)=z48 at h6
  cases h6 with
  |func _ cs _ hcl hcr=>
  obtain⟨cs⟩:=cs
  match cs,hcl,hcr with
  | [xb',pb'],_,hcr=>
  have hxb:=hcr 0 xb' _ rfl rfl
  have hpb:=hcr 1 pb' _ rfl rfl
  refine wpIn_block ?_
  refine lW hz48 (enters_of Tryz.func165 (by kernel_rfl) I) (GR.calm E2.M e cS p) (fun v A B h hE=>cM.ext hE h) (hin E2.M xb' pb' w2 hM2 hs2.sat.gl hxb hpb) (Below.refl _ _) I (fun Wb W3=>∃c,W3.heap[B]? =some (.cells #[c] 104 (0,0))∧cM (EF F0) W3 c (.slice 1 (eZ e cS p))∧Below w.heap.size Wb W3) ?_ ?_
  · intro m l2 v W1 hl2 hloop hE1 hv
    obtain⟨rl,hrl⟩:=hloop
    have hpr:aL (eZ e cS p):=by unfold eZ;infer_instance
    have hor:dD (eZ e cS p):=by unfold eZ;infer_instance
    have h2t:=hs2.tmp.sub (t':=[(2,.ptr 0 0)]) (aY (ks:=[2]) I)
    obtain⟨arr2,ds2⟩:=a2
    simp only at hd2 hz2
    subst hd2
    have hvE:cM E2 W1 v (.agg (eZ e cS p)):=cM.back hv
    have hsA:eh F0 w.heap.size 13 ⟨[(7,.agg (eZ e cS p)),(2,.ptr 0 0)],[some (.cells 104 [.raw (.slice none 0 0)])]⟩ E2 ((⟨arr2,[]⟩:Act).put (some 7) v) W1:=
      ⟨hs2.sat.ext hE1,eB.put (fun k q hk=>(h2t k q hk).ext hE1) hvE (by simp[hz2]),rfl,by simp[Act.put,hz2]⟩
    rw[show({tmps:=(#[7].zip #[v]).foldl (fun t (p,v)=>t.setIfInBounds p v) arr2,defers:=[]}:Act)=(⟨arr2,[]⟩:Act).put (some 7) v from by simp[Act.put]]
    refine mK (m:=2) (L:=E2.L) (K:=fun s=>s=⟨[(2,.ptr 0 0),(5,.bb (eZ e cS p) 0)],[some (.cells 104 [.raw (.slice none 0 0)]),none]⟩) I I hsA rfl (by
      refine aw 2 I ?_
      refine Jc 1 (σ':=[some (.cells 104 [.raw (.slice none 0 0)]),none]) (t':=[(2,.ptr 0 0),(5,.bb (eZ e cS p) 0)]) (blk:=.cells 107 (eZ e cS p)) I ⟨rfl,rfl,fun j hj=>.inl (by match j,hj with|0,_=>rfl|1,h=>exact absurd rfl h|_+2,_=>rfl)⟩ (.cons 2 I (.same _)<|.cons 5 I (.ptr 0) .nil) ?_
      exact bp I) ?_
    rintro _ Ea a7 Wa rfl hsB gB bB
    have hEa:Ext W1 Wa:=by
      refine⟨bB.os,bB.tape,bB.output,bB.size,fun k hk=>?_⟩
      rcases Nat.lt_or_ge k w.heap.size with h|h
      · exact bB.block k h
      · by_cases hm:E2.M k
        · rcases (hsA.sat.mm k).1 hm with hf | ⟨i, blk, hi, hbk⟩
          · exact absurd (hF k hf) (by omega)
          · match i,hi with
            |0,hi=>
              cases hi
              rw[hB]at hbk
              cases hbk
              obtain⟨B1,c1,q1,_,q2,q3⟩:=hsA.sat.blk 0 _ rfl
              obtain⟨B2,c2,q4,_,q5,q6⟩:=hsB.sat.blk 0 _ rfl
              have e0:Ea.at_ 0=E2.at_ 0:=gB.at_ 0 (by rw[hsA.sat.len];simp)
              rw[hB]at q1
              rw[e0,hB]at q4
              cases q1
              cases q4
              rw[q2,q5]
              have:c1=c2:=by
                obtain⟨c1⟩:=c1
                obtain⟨c2⟩:=c2
                match c1,c2,q3,q6 with
                | [x1],[x2],q3,q6=>
                  have r1:=ek (q3.2 0 x1 _ rfl rfl)
                  have r2:=ek (q6.2 0 x2 _ rfl rfl)
                  rw[r1,r2]
              rw[this]
        · exact gB.heap k hk hm
    refine⟨hEa,fun Wb hlb hEb hzb hoth hvb=>?_⟩
    have hla:Wa.heap[l2]? =some (.loop rl):=(hEa.block _ (Array.getElem?_eq_some_iff.1 hrl).1).trans hrl
    have hsC:eh F0 w.heap.size 13 ⟨[(2,.ptr 0 0),(5,.bb (eZ e cS p) 0)],[some (.cells 104 [.raw (.slice none 0 0)]),none]⟩ Ea a7 Wb:=
      ⟨hsB.sat.other hla hzb hoth,hsB.tmp.other hla hzb hoth,hsB.j9,hsB.size⟩
    refine wpIn_block ?_
    refine mK (m:=5) (L:=Ea.L) (K:=fun s=>s.σ=[some (.cells 104 [.own 3]),none,none,some (.row 107 3 1 (eZ e cS p))]) I I hsC rfl (by
      refine aw 2 I ?_
      refine bw (aV (xs:=eZ e cS p) I (ba.sl.get I) ⟨Nat.le_of_ble_eq_true rfl,Nat.le_of_ble_eq_true rfl⟩ rfl rfl) I ?_
      refine ED 8 107 3 I ?_
      refine b7 (bh (e:=107) (s:=3) (by':=40) (i:=2) (m:=1) (n:=0) (xs:=[]) (ys:=eZ e cS p) I (ba.rk.get I) I I I I ⟨by unfold maxLen;omega,by omega⟩) I ?_
      refine bc (cd I (ba.tk.get I) I I I (Nat.le_of_ble_eq_true rfl)) I I ?_
      exact bp I) ?_
    rintro⟨t8,σ8⟩ E8 a8 W3 hσ8 hs8 g8 b8
    simp only at hσ8
    subst hσ8
    have e0:E8.at_ 0= .pointer (some ⟨B,0,none⟩):=by
      rw[g8.at_ 0 (by rw[hsC.sat.len];simp),gB.at_ 0 (by rw[hsA.sat.len];simp),hB]
    obtain⟨B',cs8,q1,_,q2,q3⟩:=hs8.sat.blk 0 _ rfl
    rw[e0]at q1
    cases q1
    obtain⟨cl8⟩:=cs8
    match cl8,q3 with
    | [c8],q3=>
    have hown:=q3.2 0 c8 _ rfl rfl
    have hrep:cM (EF F0) W3 c8 (.slice 1 (eZ e cS p)):=(ay.fy (i:=3) I (show ah _ (eZ e cS p) (eZ e cS p) from ah.pure)).rep hs8.sat (G:=F0) (fun b hb=>(hs8.sat.mm b).2 (.inl hb)) (fun b hb=>(hs8.sat.fb b hb).2) _ hown
    refine⟨⟨b8.size,fun k h1 h2=>g8.heap k h2 (fun hm=>?_)⟩,c8,q2,hrep,b8⟩
    rcases(hsC.sat.mm k).1 hm with hf|⟨i,blk,hi,hbk⟩
    · exact absurd (hF2 k hf) (by omega)
    · match i,hi with
      |0,hi=>
        rw[gB.at_ 0 (by rw[hsA.sat.len];simp),hB]at hbk
        cases hbk
        exact absurd (show w2.heap.size≤B from h1) (by omega)
      |1,hi=>cases hi
  · intro Wb W3 W' hEb hlt hle hrx hrest hD
    obtain⟨c,hc1,hc2,hc3⟩:=hrx
    have hcW:W'.heap[B]? =some (.cells #[c] 104 (0,0)):=hrest.cells _ _ hc1 rfl
    have hcell:W'.cell? ⟨B,0,none⟩=some c:=by simp[World.cell?,hcW]
    have hz2':a2.tmps.size=13:=hz2
    refine wpIn_seq (wpIn_region ?_)
    refine mE (.inl rfl) I I (fun c e=>by cases e) (CW rfl (ba.tk.get I) (show Act.eval {a2 with defers:=_} (.tmp 2)=_ from h2) hcell) ?_
    refine mE (.inl rfl) I I (fun c e=>by cases e) (xY rfl) ?_
    refine wpIn_ret ?_
    show LeavesInM _ _ _ _ _ _ (_::a2.defers) _ _
    rw[hd2]
    refine⟨by simp,.inl ⟨_,_,rfl,run_takeDeferred hD,?_⟩⟩
    refine⟨c,?_,c,rfl,?_,_,rfl,?_⟩
    · refine(results_tmp rfl _ _ _).trans ?_
      congr 1
      refine(mS (k:=4) (a:=Act.put {a2 with defers:=_} (some 12) c) (v:=_) (by show 4<(a2.tmps.setIfInBounds 12 c).size;simp[hz2'])).trans ?_
      exact mS (k:=12) (a:= {a2 with defers:=_}) (by show 12<a2.tmps.size;omega)
    · have h1:=hEb
      have hs1:=hE2.size
      refine⟨hrest.os.trans (hc3.os.trans (hEb.os.trans hE2.os)),hrest.tape.trans (hc3.tape.trans (hEb.tape.trans hE2.tape)),hrest.output.trans (hc3.output.trans (hEb.output.trans hE2.output)),?_,fun k hk=>?_⟩
      · have:=hrest.size;simp only[World.putObj_size];omega
      · rw[World.putObj_heap_other (by omega),hrest.block k (by omega) (.inl (by omega)),hc3.block k hk,hEb.block k (by omega),hE2.block k hk]
    · have hr1:=cM.cells hrest.size hrest.cells hc2
      have hrp:eY.Rest 0 (w2.heap.size+1) W' (W'.putObj w2.heap.size (.deferred none)):=Rest.put hD rfl (Nat.zero_le _) (Nat.lt_succ_self _)
      exact cM.cells hrp.size hrp.cells hr1
theorem xE{xv pv:PV}[IsPure xv][IsPure pv]{e:Nat}{cS:Int}{p:List Int}
  (hin:∀(F0:Nat→Prop) (xb pb:Value) (W':World),(∀b,F0 b→b<W'.heap.size)→iA F0 W'→cM (EF F0) W' xb xv→cM (EF F0) W' pb pv→zD Tryz.prog 165 #[xb,pb] (GR F0 e cS p) W'):
  Can Tryz.prog 127 [.func 165 [xv,pv]] (· = .slice 1 (eZ e cS p)):=by
 refine aH Tryz.func127 I Tryz.ntmps127 I ?_
 haveI:aL (eZ e cS p):=by unfold eZ;infer_instance
 exact ab (.a 1 I<|.k [0] I)<|ab (.a 1 I<|.c rfl (CB hin) I<|.a 1 I<|.k [2] I)<|ao<|⟨_,_,az.of I,ay.pure,rfl⟩
theorem sW(ys:List PV)[aL ys]:Can Tryz.prog 128 [.bb ys 0,.raw (.slice none 0 0)] (· = .func 165 [.bb [.bb ys 0] 0,.bb [av []] 0]):=by
 refine aH Tryz.func128 I Tryz.ntmps128 I<|aO<|b7 (fD (xs:=[_]) I I I) I<|b7 (fD (xs:=[_]) I I I) I<|aw 1 I<|aE [2,3] I ?_
 exact ab (.a 2 I<|.k [4] I)<|ao<|⟨_,_,az.of I,ay.iY (ah.cons (ay.jI (i:=0) (ys:=[.bb ys 0]) I (show ah _ [.bb ys 0] [.bb ys 0] from ah.pure))<|ah.cons (ay.jI (i:=1) I (ah.cons ay.bM ah.nil)) ah.nil),rfl⟩
section
variable {T:ak} {tb:Nat→de} {p0:dx} {Φ:Nat→Nat→List bV→Prop}
theorem Good.IC{v:PV}{n:Nat}{s:List bV}{c:Int}(h:Good T tb p0 Φ v n s c):∃ys,v= .bb ys 0∧aL ys:=by
 obtain⟨vs,cs,e1,e2,e3,e4,e5⟩:=h.parts
 haveI:aL vs:=⟨fun i x hx=>by
  have hlt:=(List.getElem?_eq_some_iff.1 hx).1
  have:=(e5 i (by rw[←e2];exact hlt)).pure
  rw[List.getD_eq_getElem?_getD,hx]at this
  exact this⟩
 exact⟨_,e1,by unfold dP;infer_instance⟩
theorem HZ(hL:Lone T tb p0 Φ):∀(u n:Nat) (s:List bV) (v:PV) (c:Int),Φ u n s→Good T tb p0 Φ v n s c→∃(p:List Int) (e:Nat) (cS:Int),Br T tb p0 n s p e cS∧cS= -1∧p.length≤u∧c=1∧
  ∀pre:List Int,pre.length+u≤1000→∀(F0:Nat→Prop) (xb pb:Value) (W₀:World),(∀b,F0 b→b<W₀.heap.size)→iA F0 W₀→cM (EF F0) W₀ xb (.bb [v] 0)→cM (EF F0) W₀ pb (.bb [av pre] 0)→zD Tryz.prog 165 #[xb,pb] (GR F0 e cS (pre++p)) W₀:=by
 intro u
 induction u using Nat.strongRecOn with
 |_ u ih=>
 intro n s v c hΦ hg
 obtain⟨vs,cs,rfl,e2,e3,e4,e5⟩:=hg.parts
 have hone:=hL.one hΦ
 cases ha:(bL T tb p0 n s).ax with
 |nil=>
  have hvs:vs=[]:=List.eq_nil_of_length_eq_zero (by rw[e2,ha];rfl)
  subst hvs
  have hc:c=1:=by rw[e4,ha];rfl
  refine⟨[],n,(bL T tb p0 n s).cS,.stop ha,hL.del hΦ ha,Nat.zero_le _,hc,fun pre hpl F0 xb pb W₀ hF gl hX hP=>?_⟩
  rw[List.append_nil]
  exact Ho ha (by omega) hF gl hX hP
 |cons a l=>
  have hl:l=[]:=by
   rw[ha]at hone
   exact List.eq_nil_of_length_eq_zero (by simp only[List.length_cons]at hone;omega)
  subst hl
  have hmem:a∈(bL T tb p0 n s).ax:=by rw[ha];exact List.mem_singleton.2 rfl
  have hstep:∃b m:Nat,a=(b:Int)∧b<2*T.ae.length∧aS T b=(m:Int)∧∃u',u'<u∧Φ u' m (bL T tb p0 n s).eo.stack:=by
   rcases hL.runs.step hΦ with h|⟨_,_,h⟩
   ·rw[ha]at h;cases h
   ·exact h a hmem
  obtain⟨b,m,hab,hb,hm,u',hu,hΦ'⟩:=hstep
  have h0:=e5 0 (by rw[ha];exact Nat.one_pos)
  rw[ha,List.getD_cons_zero,hab,Int.toNat_natCast,hm,Int.toNat_natCast]at h0
  match vs,cs,e2,e3,e4,h0 with
  | [],_,e2,_,_,_=>rw[ha]at e2;cases e2
  |_::_::_,_,e2,_,_,_=>rw[ha]at e2;simp at e2
  | [v1],[],_,e3,_,_=>rw[ha]at e3;cases e3
  | [v1],_::_::_,_,e3,_,_=>rw[ha]at e3;simp at e3
  | [v1],[c1],_,_,e4,h0=>
  rw[List.getD_cons_zero,List.getD_cons_zero]at h0
  obtain⟨ys,rfl,hys⟩:=h0.IC
  obtain⟨q,e,cS,i1,i2,i3,i4,i5⟩:=ih u' hu m _ _ _ hΦ' h0
  have hc:c=1:=by rw[e4,ha,i4];rfl
  refine⟨a::q,e,cS,.go hmem (by rw[hab,Int.toNat_natCast];exact hm) i1,i2,by simp only[List.length_cons];omega,hc,fun pre hpl F0 xb pb W₀ hF gl hX hP=>?_⟩
  exact HW ha (by omega) hF gl hX hP (fun xb' pb' W' hF' gl' hx hp=>i5 (pre++[a]) (by simp only[List.length_append,List.length_singleton];omega) F0 xb' pb' W' hF' gl' hx hp)
set_option maxHeartbeats 4000000 in
theorem Dp(hL:Lone T tb p0 Φ)(hv:aq T=true)(h12:T.nodes≤12){U:List (Nat×List bV)}(hU:∀ {u n s},Φ u n s→(n,s)∈U)(hUl:U.length≤1000000)(tbs:List de)(htl:(tbs.length:Int)=T.nodes)(htb:∀n:Nat,(n:Int)<T.nodes→tbs[n]? =some (tb n))
  (hok:∀n:Nat,(n:Int)<T.nodes→(tb n).node=(n:Int)∧cT T (tb n)=true) {u n:Nat} {p:dx} (hΦ:Φ u n p.stack) (hu:u≤1000) (hp:cV p p.stack=cV p0 p.stack):
  Can Tryz.prog 77 [aP T,eE tbs,dB p,num n] (fun r=>∃q e,Br T tb p0 n p.stack q e (-1)∧q.length≤u∧r= .tuple [.slice 1 (eZ e (-1) q),num 0]):=by
 refine aH Tryz.func77 I Tryz.ntmps77 I<|ab (.a 4 I<|.k [1,3,4,6] I)<|aO<|aw 4 I<|cN I I (bU.mono (bU.yl (qM hL.runs hv h12 hU hUl tbs htl htb hok hΦ hp)) (fun y σ' h=>?_))
 obtain⟨⟨v,c,L,rfl,hg,hLl,hall⟩,rfl⟩:=h
 refine aw 7 I<|aE [10,12] I ?_
 obtain⟨q,e,cS,hbr,rfl,hql,hc1,honce⟩:=HZ hL u n p.stack v c hΦ hg
 obtain⟨ys,hys,hyp⟩:=hg.IC
 obtain⟨vs,cs,hvs,_,_,_,_⟩:=hg.parts
 have hon:=honce [] (by simp;omega)
 rw[List.nil_append]at hon
 subst hc1
 have hcol:Can Tryz.prog 127 [.func 165 [.bb [v] 0,.bb [av []] 0]] (· = .slice 1 (eZ e (-1) q)):=by
  haveI:=hg.pure
  exact xE hon
 subst hvs
 cases hys
 refine aj<|ab (.a 2 I<|.k [10,12,23] I)<|ag I (fun hc=>?_) (fun hc=>?_)
 ·cases hc
 ·refine ai<|aj<|ab (.a 3 I<|.v (aJ I (rfl)) I<|.a 1 I<|.k [10,29] I)<|ag I (fun hc=>?_) (fun hc=>?_)
  ·cases hc
  ·refine ai<|ab (.a 1 I<|.c rfl (sW _) I<|.c rfl (hcol) I<|.a 2 I<|.k [8,9] I)<|ao ?_
   haveI:aL (eZ e (-1) q):=by unfold eZ;infer_instance
   exact⟨_,_,az.of I,ay.pure (p:=.tuple [.slice 1 (eZ e (-1) q),num 0]),q,e,hbr,hql,rfl⟩
end
end
section
open Go.RowKit cG Mem Net eY
section
variable {T:ak} {tb tb':Nat→de} {p0:dx} {Φ:Nat→Nat→List bV→Prop}
theorem yP(h:∀u n s,Φ u n s→tb' n=tb n){u n:Nat}{s:List bV}(hΦ:Φ u n s):bL T tb' p0 n s=bL T tb p0 n s:=by unfold bL;rw[h u n s hΦ]
theorem iK.congr(h:∀u n s,Φ u n s→tb' n=tb n)(R:iK T tb p0 Φ):iK T tb' p0 Φ where
 node:=R.node
 small:=R.small
 step:=fun hΦ=>by
  rw[yP h hΦ]
  exact R.step hΦ
theorem Br.congr(h:∀u n s,Φ u n s→tb' n=tb n)(R:iK T tb p0 Φ){n e:Nat}{s:List bV}{q:List Int}{w:Int}(hb:Br T tb' p0 n s q e w):∀ {u},Φ u n s→Br T tb p0 n s q e w:=by
 induction hb with
 | @stop n s h0=>
  intro u hΦ
  rw[h _ _ _ hΦ]at h0 ⊢
  exact .stop h0
 | @go n m e s a p w ha hm hr ih=>
  intro u hΦ
  rw[h _ _ _ hΦ]at ha hr ih
  rcases R.step hΦ with h1|⟨_,_,h3⟩
  ·have h1':(dj T (tb n) (cV p0 s)).ax=[]:=h1
   rw[h1']at ha
   cases ha
  ·obtain⟨b,m',rfl,_,g3,u',_,g5⟩:=h3 a ha
   have:m'=m:=by rw[Int.toNat_natCast]at hm;omega
   subst this
   exact .go ha hm (ih g5)
end
noncomputable def sL(T:ak)(k x:Int)(l:List Int)(n:Nat):de:=Gb T k x n (fq l n)
theorem ER{T:ak}{k x:Int}{l:List Int}{n:Nat}(h:¬Gn k x n):sL T k x l n=s7 T (aF T k x) (fun n=>fq l n) n:=by
 unfold sL Gb s7
 rw[if_neg (by rw[nv.2 h];decide)]
theorem zv{T:ak}(hv:aq T=true){n:Nat}(hn:(n:Int)<T.nodes):cT T (Ax T n)=true:=by
 unfold cT Ax
 have h1:bu T (n:Int)=true:=aT.2 ⟨by omega,hn⟩
 have hN:=(aM hv).nodes
 have h2:decide (((List.replicate T.nodes.toNat (⟨[],false,[]⟩:i6)).length:Int)=T.nodes)=true:=decide_eq_true (by rw[List.length_replicate];omega)
 have h3:eC T n (bP T n)=true:=sG (lP T n) fun _ ha=>jB.1 ha
 have h4:nG T n (List.replicate T.nodes.toNat (⟨[],false,[]⟩:i6))=true:=ib fun d e he=>by
  have:e=⟨[],false,[]⟩:=(List.mem_replicate.1 (List.mem_of_getElem? he)).2
  subst this
  unfold gA eC
  simp
 rw[hv,h1,h2,h3,h4]
 rfl
theorem zL{T:ak}{k x:Int}{l:List Int}(hv:aq T=true)(h12:T.nodes≤12):∀n:Nat,(n:Int)<T.nodes→(sL T k x l n).node=(n:Int)∧cT T (sL T k x l n)=true:=fun n hn=>by
 unfold sL Gb
 split
 ·exact⟨rfl,zv hv hn⟩
 ·have ht:=og (D:=aF T k x) (M:=aF T k x) hv h12 hn (du T k x) (fun a h=>h) (fq l n)
  exact⟨ht.node,ht.ok⟩
theorem A6{T:ak}{k x:Int}{l:List Int}{m n:Nat}(h:n<m):(oS T k x l m)[n]? =some (sL T k x l n):=by
 unfold oS sL
 rw[List.getElem?_map,List.getElem?_range h]
 rfl
def Kx(T:ak)(k x:Int)(l:List Int)(s d:Int):Int:=if B4 T k x l=0 then(if(bu T s&&bu T d)=true then 0 else 2) else B4 T k x l
noncomputable def Kf(T:ak)(k x:Int)(l:List Int):List de:=if B4 T k x l=0 then oS T k x l l.length else []
theorem Cb(T:ak)(k x:Int)(l:List Int)(s d:Int)(hl:l.length≤1000)(h12:T.nodes≤12):Can Tryz.prog 89 [aP T,ca k x,av l,num s,num d] (· = .tuple [eE (Kf T k x l),dB ⟨0,s,d,0,[],0⟩,num (Kx T k x l s d)]):=by
 obtain⟨e,he⟩:∃e,B4 T k x l=e:=⟨_,rfl⟩
 obtain⟨q0,hq0⟩:∃q,decide (e=0)=q:=⟨_,rfl⟩
 obtain⟨q1,hq1⟩:∃q,bu T s=q:=⟨_,rfl⟩
 obtain⟨q2,hq2⟩:∃q,bu T d=q:=⟨_,rfl⟩
 obtain⟨L,hL⟩:∃L,Kf T k x l=L:=⟨_,rfl⟩
 have ht:Can Tryz.prog 20 [aP T,ca k x,av l] (· = .tuple [eE L,num e]):=by
  have h:=tV T k x l hl h12
  unfold D0 at h
  rw[he]at h
  unfold Kf at hL
  rw[he]at hL
  rw[hL]at h
  exact h
 have hE:Kx T k x l s d=if q0=true then(if(q1&&q2)=true then 0 else 2) else e:=by
  unfold Kx
  rw[he,hq1,hq2,←hq0]
  simp
 rw[hE,hL]
 refine aH Tryz.func89 I Tryz.ntmps89 I<|aO<|aw 5 I<|aE [2,3,4,5,6,11] I ?_
 refine ab (.a 3 I<|.c rfl (ht) I<|.a 5 I<|.k [3,4,5,11,13,14] I)<|aj<|bz 35 (.raw (.bool (q0&&(!q1 || !q2)))) [3,4,11,13,14] I ?_ ?_
 ·refine .a 1 I<|.v (cf I (hq0)) I<|.a 1 I<|?_
  cases q0
  ·exact .a 11 I<|.k [35,3,4,11,13,14] I
  ·refine .a 2 I<|.c rfl (hq1▸dJ T s) I<|.a 2 I<|?_
   cases q1
   ·exact .a 6 I<|.k [35,3,4,11,13,14] I
   ·exact .a 2 I<|.c rfl (hq2▸dJ T d) I<|.a 3 I<|.k [35,3,4,11,13,14] I
 refine ag I (fun hc=>?_) (fun hc=>?_)
 ·have hR:(if q0=true then(if(q1&&q2)=true then(0:Int) else 2) else e)=2:=by
   cases q0<;>cases q1<;>cases q2<;>simp_all
  refine aC (.a 1 I<|.k [3,4,11,13,14] I) ?_
  refine aO<|aw 8 I<|aE [10,11,12] I ?_
  exact ao<|⟨_,_,az.of I,ay.aX (ah.cons ay.pure<|ah.cons (ay.gY (ah.cons ay.pure<|ah.cons ay.pure<|ah.cons ay.pure<|ah.cons ay.pure<|ah.cons ay.bM<|ah.cons ay.pure ah.nil))<|ah.cons ay.pure ah.nil),by rw[hR];rfl⟩
 ·have hR:(if q0=true then(if(q1&&q2)=true then(0:Int) else 2) else e)=e:=by
   cases q0<;>cases q1<;>cases q2<;>simp_all
  refine ai<|aO<|aw 8 I<|aE [10,11,12] I ?_
  exact ao<|⟨_,_,az.of I,ay.aX (ah.cons ay.pure<|ah.cons (ay.gY (ah.cons ay.pure<|ah.cons ay.pure<|ah.cons ay.pure<|ah.cons ay.pure<|ah.cons ay.bM<|ah.cons ay.pure ah.nil))<|ah.cons ay.pure ah.nil),by rw[hR];rfl⟩
section
variable {T:ak} {k x:Int} {l:List Int} {s d:Nat} {Φ:Nat→Nat→List bV→Prop}
theorem G9(hl:l.length≤1000)(h12:T.nodes≤12)(hE:B4 T k x l=0)(hs:(s:Int)<T.nodes)(hd:(d:Int)<T.nodes):Can Tryz.prog 89 [aP T,ca k x,av l,num s,num d] (· = .tuple [eE (oS T k x l l.length),dB ⟨0,s,d,0,[],0⟩,num 0]):=by
 have h:=Cb T k x l s d hl h12
 have h1:Kx T k x l s d=0:=by
  unfold Kx
  rw[if_pos hE,if_pos (by rw[aT.2 ⟨by omega,hs⟩,aT.2 ⟨by omega,hd⟩];rfl)]
 have h2:Kf T k x l=oS T k x l l.length:=by unfold Kf;rw[if_pos hE]
 rw[h1,h2]at h
 exact h
theorem DK(h:B4 T k x l=0):(aq T&&cj T k x)=true∧(l.length:Int)=T.nodes∧fS T k x l=true:=by
 unfold B4 at h
 split at h
 ·rename_i h1
  obtain⟨h2,h3⟩:=Bool.and_eq_true_iff.1 h1
  split at h
  ·rename_i h4
   exact⟨h2,of_decide_eq_true h3,h4⟩
  ·cases h
 ·cases h
theorem CH(h12:T.nodes≤12)(hE:B4 T k x l=0)(hs:(s:Int)<T.nodes)(hd:(d:Int)<T.nodes)(hL:Lone T (sL T k x l) ⟨0,s,d,0,[],0⟩ Φ){U:List (Nat×List bV)}(hU:∀ {u n s},Φ u n s→(n,s)∈U)(hUl:U.length≤1000000){u:Nat}(hΦ:Φ u s [])(hu:u≤1000):
  Can Tryz.prog 33 [aP T,ca k x,av l,num s,num d] (fun r=>∃q e,Br T (sL T k x l) ⟨0,s,d,0,[],0⟩ s [] q e (-1)∧q.length≤u∧r= .tuple [av q,num 0]):=by
 obtain⟨hvc,hln,_⟩:=DK hE
 have hv:=(Bool.and_eq_true_iff.1 hvc).1
 have hl:l.length≤1000:=by omega
 have hpr:=G9 (k:=k) (x:=x) hl h12 hE hs hd
 have htl:((oS T k x l l.length).length:Int)=T.nodes:=by rw[qC];exact hln
 have htb:∀n:Nat,(n:Int)<T.nodes→(oS T k x l l.length)[n]? =some (sL T k x l n):=fun n hn=>A6 (by omega)
 have har:=vF hL.runs hL.del hv h12 hU hUl (oS T k x l l.length) htl htb (zL hv h12) (p:=⟨0,s,d,0,[],0⟩) hΦ rfl
 have hal:=Dp hL hv h12 hU hUl (oS T k x l l.length) htl htb (zL hv h12) (p:=⟨0,s,d,0,[],0⟩) hΦ hu rfl
 obtain⟨L,hLL⟩:∃L,oS T k x l l.length=L:=⟨_,rfl⟩
 rw[hLL]at hpr har hal
 refine aH Tryz.func33 I Tryz.ntmps33 I<|ab (.a 4 I<|.k [2,3,4,5,6] I)<|aO<|aw 5 I<|eW I (hpr) I<|aw 8 I<|aE [3,5,12,13,14] I ?_
 refine aj<|ab (.a 2 I<|.k [3,5,12,13,14,28] I)<|ag I (fun hc=>?_) (fun hc=>?_)
 ·cases hc
 ·refine ai<|ab (.a 2 I<|.v (eU I (rfl) I) I<|.a 1 I<|.c rfl (har) I<|.a 5 I<|.k [3,5,12,13,14,15] I)<|aj<|ab (.a 2 I<|.k [3,5,12,13,14,15,39] I)<|ag I (fun hc=>?_) (fun hc=>?_)
  ·cases hc
  ·refine ai<|aj<|ab (.a 2 I<|.k [3,5,12,13,42] I)<|ag I (fun hc=>?_) (fun hc=>?_)
   ·cases hc
   ·refine ai<|aO<|aw 4 I<|cN I I (bU.mono (bU.yl hal) (fun y σ' h=>?_))
    obtain⟨⟨q,e,hbr,hql,rfl⟩,rfl⟩:=h
    refine aw 5 I<|aE [14,16] I ?_
    refine aj<|ab (.a 7 I<|.k [16,57] I)<|ag I (fun hc=>?_) (fun hc=>?_)
    ·cases hc
    ·exact ai<|ab (.a 1 I<|.v (aN _ rfl (hj:=rfl)) I<|.a 1 I<|.v (aJ I (rfl)) I<|.a 2 I<|.k [10,11] I)<|ao<|⟨_,_,az.of I,ay.pure (p:=.tuple [av q,num 0]),q,e,hbr,hql,rfl⟩
end
end
end PW
end Go.Proofs.YtnegbdpggideiaaGreatDoor
