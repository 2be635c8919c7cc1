/- Texts of the proof, part 13. -/
import Derived.RangeFuncNested
import Derived.RangeFuncBound
import Derived.RangeFuncCalls
import Derived.RangeFuncLeaves
import Derived.Shelf.Abstract
import Derived.Shelf.RegionOpen
import Derived.WalkKit
import Derived.OwnWalkIn
import Derived.TacticsInMore
import Derived.LoopNIn
import Derived.LoopIn
import Derived.Test.YtnegbdpggideiaaGreatDoorCardMPB12
namespace Go.Proofs.YtnegbdpggideiaaGreatDoor
set_option linter.unusedVariables false
set_option linter.unusedSimpArgs false
namespace PW
open Go.RowKit Reg Mem Net Rng
section
variable {T:Topo} {tb:Nat→Tab} {p0:Pkt} {Φ:Nat→Nat→List Seg→Prop}
def SchR (T:Topo) (tb:Nat→Tab) (p0:Pkt) (Φ:Nat→Nat→List Seg→Prop) (n:Nat) (s:List Seg) (r:PV):Prop:=
 ∃v c L,r= .tuple [v,.slice L.length L,num 0]∧Good T tb p0 Φ v n s c∧L.length≤1000000∧∀x∈L,∃n s c,Good T tb p0 Φ x n s c
instance:IsOne visV:=by unfold visV;infer_instance
theorem zeroF:zeroK Tryz.prog 189=some [.nilFunc]:=by kernel_rfl
set_option maxRecDepth 10000 in
set_option maxHeartbeats 4000000 in
theorem search_can (R:Runs T tb p0 Φ) (hv:validB T=true) (h12:T.nodes≤12) {U:List (Nat×List Seg)} (hU:∀ {u n s},Φ u n s→(n,s)∈U) (hUl:U.length≤1000000) (tbs:List Tab) (htl:(tbs.length:Int)=T.nodes) (htb:∀n:Nat,(n:Int)<T.nodes→tbs[n]? =some (tb n))
  (hok:∀n:Nat,(n:Int)<T.nodes→(tb n).node=(n:Int)∧tabOK T (tb n)=true) {u n:Nat} {p:Pkt} (hΦ:Φ u n p.stack) (hp:pkt0 p p.stack=pkt0 p0 p.stack):
  Can Tryz.prog 115 [topoV T,tabsV tbs,pktV p,num n] (SchR T tb p0 Φ n p.stack):=by
 have hn:=R.node hΦ
 have hck:=wcheck_can T tbs n hv htl (fun i x hx=>by
  have hil:=(List.getElem?_eq_some_iff.1 hx).1
  have:=htb i (by omega)
  rw[this]at hx
  cases hx
  exact hok i (by omega)) (nodeB_iff.2 ⟨by omega,hn⟩)
 refine can_of Tryz.func115 rfl Tryz.ntmps115 rfl ?_
 refine W_rs ?_
 refine WR_l (l_box rfl rfl rfl) rfl<|WR_l (l_box (xs:=[_]) rfl rfl rfl) rfl<|WR_l (l_box rfl rfl rfl) rfl<|WR_a 3 rfl<|WR_k [3,4,5,6,9] rfl ?_
 refine W_seq ?_
 refine W_cs (.a 3 rfl<|.c rfl (hck) rfl<|.a 1 rfl<|.k [3,4,5,6,9,11] rfl) ?_
 refine W_cs (.a 2 rfl<|.k [3,4,5,6,9,11,20] rfl) ?_
 refine W_cond rfl (fun hc=>?_) (fun hc=>?_)
 ·cases hc
 ·refine W_skip ?_
  refine W_rs ?_
  refine WR_l (l_makeMap strE rfl) rfl<|WR_a 2 rfl<|WR_k [3,4,5,6,9,12] rfl ?_
  refine W_rs ?_
  refine WR_a 2 rfl<|WR_k [3,4,5,6,9,12,13] rfl ?_
  refine W_rs ?_
  refine WR_l (l_alloc (z:=[.nilFunc]) rfl zeroF) rfl<|WR_k [3,4,5,6,9,12,13,14] rfl ?_
  refine W_rs ?_
  refine WR_a 1 rfl ?_
  refine WR_loud0 (l_store1 (p:=visV) rfl (fok.tk.get rfl) rfl rfl rfl (Nat.le_of_ble_eq_true rfl)) rfl rfl ?_
  refine WR_k [3,6,9,13,14] rfl ?_
  refine W_adoptCell 3 0 147 1 rfl rfl ?_
  refine W_sto (σ':=P8 T tbs p 0 [] [rowW []]) rfl ?_
  refine W_rs ?_
  refine WR_a 3 rfl<|WR_cS rfl rfl (CanS.mono (visit_can R hv h12 hU hUl tbs htb p u n p hΦ hp [] [] [] 0 [rowW []] rfl ⟨fun e he=>(by cases he),List.nodup_nil,fun e he=>(by cases he),rfl⟩ (fun x hx=>(by cases hx))) (fun y σ' h=>?_))
  obtain⟨c,kv,L,j,rest,hg,rfl,hj,_,_,hkv⟩:=h
  refine WR_a 1 rfl<|WR_k [8,9,13] rfl ?_
  haveI:=hg.pure
  refine W_seq ?_
  refine W_cs (.a 1 rfl<|.k [8,9,28] rfl) ?_
  refine W_cond rfl (fun hc=>?_) (fun hc=>?_)
  ·cases hc
  ·refine W_skip ?_
   refine W_ordersTo ([(8,y),(9,.ptr 3 0),(10,num 0)]) (P8 T tbs p j kv rest) mixed ?_ ?_
   ·refine WA_step 0 [1] (by kernel_rfl) ?_
    refine WAs_cons rfl rfl (WR_v (y_a rfl) rfl (WR_nil ?_)) ?_
    ·refine WA_step 1 [2] (by kernel_rfl) ?_
     refine WAs_cons rfl rfl (WR_v (y_a rfl) rfl (WR_nil ?_)) ?_
     ·refine WA_step 2 [] (by kernel_rfl) ?_
      refine WAs_cons rfl rfl (WR_v (y_a rfl) rfl (WR_nil ?_)) WAs_nil
      refine WA_step 3 [] (by kernel_rfl) ?_
      refine WAs_cons rfl rfl (WR_loud0 (Loud.to (σ:=P8 T tbs p j kv rest) (l_store1 rfl (fok.tk.get rfl) rfl rfl rfl (Nat.le_of_ble_eq_true rfl)) (σ'':=P8 T tbs p j kv rest) rfl rfl) rfl rfl (WR_nil ?_)) WAs_nil
      refine WA_step 4 [] (by kernel_rfl) ?_
      refine WAs_cons rfl rfl (WR_v (y_a rfl) rfl (WR_nil ?_)) WAs_nil
      exact WA_nil (by kernel_rfl) ⟨rfl,keepT_sub (ks:=[8,9,10]) rfl⟩
     refine WAs_cons rfl rfl (WR_v (y_a rfl) rfl (WR_nil ?_)) WAs_nil
     refine WA_step 1 [] (by kernel_rfl) ?_
     refine WAs_cons rfl rfl (WR_v (y_a rfl) rfl (WR_nil ?_)) WAs_nil
     refine WA_step 3 [] (by kernel_rfl) ?_
     refine WAs_cons rfl rfl (WR_loud0 (Loud.to (σ:=P8 T tbs p j kv rest) (l_store1 rfl (fok.tk.get rfl) rfl rfl rfl (Nat.le_of_ble_eq_true rfl)) (σ'':=P8 T tbs p j kv rest) rfl rfl) rfl rfl (WR_nil ?_)) WAs_nil
     refine WA_step 4 [] (by kernel_rfl) ?_
     refine WAs_cons rfl rfl (WR_v (y_a rfl) rfl (WR_nil ?_)) WAs_nil
     exact WA_nil (by kernel_rfl) ⟨rfl,keepT_sub (ks:=[8,9,10]) rfl⟩
    refine WAs_cons rfl rfl (WR_v (y_a rfl) rfl (WR_nil ?_)) WAs_nil
    refine WA_step 0 [] (by kernel_rfl) ?_
    refine WAs_cons rfl rfl (WR_v (y_a rfl) rfl (WR_nil ?_)) WAs_nil
    refine WA_step 2 [] (by kernel_rfl) ?_
    refine WAs_cons rfl rfl (WR_v (y_a rfl) rfl (WR_nil ?_)) WAs_nil
    refine WA_step 3 [] (by kernel_rfl) ?_
    refine WAs_cons rfl rfl (WR_loud0 (Loud.to (σ:=P8 T tbs p j kv rest) (l_store1 rfl (fok.tk.get rfl) rfl rfl rfl (Nat.le_of_ble_eq_true rfl)) (σ'':=P8 T tbs p j kv rest) rfl rfl) rfl rfl (WR_nil ?_)) WAs_nil
    refine WA_step 4 [] (by kernel_rfl) ?_
    refine WAs_cons rfl rfl (WR_v (y_a rfl) rfl (WR_nil ?_)) WAs_nil
    exact WA_nil (by kernel_rfl) ⟨rfl,keepT_sub (ks:=[8,9,10]) rfl⟩
   refine W_ret ?_
   have hall:∀x∈L,∃n s c,Good T tb p0 Φ x n s c:=fun x hx=>by
    obtain⟨n1,s1,h1⟩:=hkv.all x hx
    rcases h1 with⟨c1,h1⟩|⟨_,h1,_⟩
    ·exact⟨n1,s1,c1,h1⟩
    ·cases h1
   haveI:IsPureL L:=⟨fun i x hx=>by
    obtain⟨_,_,_,h⟩:=hall x (List.mem_of_getElem? hx)
    exact h.pure⟩
   have hfew:=hkv.few R h12 hU
   have hlen:=hkv.len
   exact⟨_,_,ResL.of rfl,Pur.tupleL (PurL.cons Pur.pure<|PurL.cons (Pur.ownL (i:=j+8) (show(P8 T tbs p j kv rest)[j+8]? =_ from hj) PurL.pure)<|PurL.cons Pur.pure PurL.nil),y,c,L,rfl,hg,by omega,hall⟩
set_option maxRecDepth 10000 in
set_option maxHeartbeats 4000000 in
theorem warrives_can (R:Runs T tb p0 Φ) (hdel:∀ {u n s},Φ u n s→(outS T tb p0 n s).arcs=[]→(outS T tb p0 n s).why= -1) (hv:validB T=true) (h12:T.nodes≤12) {U:List (Nat×List Seg)} (hU:∀ {u n s},Φ u n s→(n,s)∈U) (hUl:U.length≤1000000) (tbs:List Tab) (htl:(tbs.length:Int)=T.nodes) (htb:∀n:Nat,(n:Int)<T.nodes→tbs[n]? =some (tb n))
  (hok:∀n:Nat,(n:Int)<T.nodes→(tb n).node=(n:Int)∧tabOK T (tb n)=true) {u n:Nat} {p:Pkt} (hΦ:Φ u n p.stack) (hp:pkt0 p p.stack=pkt0 p0 p.stack):
  Can Tryz.prog 56 [topoV T,tabsV tbs,pktV p,num n] (· = .tuple [flag true,num 0]):=by
 refine can_of Tryz.func56 rfl Tryz.ntmps56 rfl ?_
 refine W_cs (.a 4 rfl<|.k [1,3,4,6] rfl) ?_
 refine W_rs ?_
 refine WR_a 4 rfl<|WR_cS rfl rfl (CanS.mono (CanS.ofCan (search_can R hv h12 hU hUl tbs htl htb hok hΦ hp)) (fun y σ' h=>?_))
 obtain⟨⟨v,c,L,rfl,hg,hL,hall⟩,rfl⟩:=h
 refine WR_a 7 rfl<|WR_k [11,12] rfl ?_
 haveI:IsPureL L:=⟨fun i x hx=>by
  obtain⟨_,_,_,h⟩:=hall x (List.mem_of_getElem? hx)
  exact h.pure⟩
 refine W_seq ?_
 refine W_cs (.a 2 rfl<|.k [11,12,25] rfl) ?_
 refine W_cond rfl (fun hc=>?_) (fun hc=>?_)
 ·cases hc
 ·refine W_skip ?_
  refine W_seq ?_
  refine W_cs (.a 3 rfl<|.k [27,28,29] rfl) ?_
  refine W_block ?_
  refine W_k [27,28,29] rfl ?_
  refine W_loop (fun r st=>∃k,k≤L.length∧r=L.length - k∧st=⟨[(27,.slice L.length L),(28,num L.length),(29,num k)],[]⟩) L.length ⟨0,by omega,by omega,rfl⟩ ?_
  rintro r st ⟨k,hk,rfl,rfl⟩
  refine W_cs (.a 1 rfl<|.k [27,28,29,30] rfl) ?_
  refine W_seq ?_
  refine W_cond rfl (fun hc=>?_) (fun hc=>?_)
  ·have hlt:k<L.length:=by have:=tt hc;omega
   obtain⟨x,hx⟩:∃x,L[k]? =some x:=⟨_,List.getElem?_eq_getElem hlt⟩
   obtain⟨n1,s1,c1,hg1⟩:=hall x (List.mem_of_getElem? hx)
   obtain⟨vs,cs,rfl,_⟩:=hg1.parts
   obtain⟨u1,h1⟩:=hg1.state
   have hd1:=hdel h1
   obtain⟨O,hO⟩:∃O,outS T tb p0 n1 s1=O:=⟨_,rfl⟩
   rw[hO]at hx hd1
   obtain⟨q1,hq1⟩:∃q,decide ((O.arcs.length:Int)=0)=q:=⟨_,rfl⟩
   obtain⟨q2,hq2⟩:∃q,decide (O.why≠ -1)=q:=⟨_,rfl⟩
   refine W_skip ?_
   refine W_seq ?_
   refine W_block ?_
   refine W_cs (.v (y_ix (k) rfl) rfl<|.v (y_ld rfl (hx)) rfl<|.a 1 rfl<|.k [14,27,28,29] rfl) ?_
   refine W_csK 45 (.raw (.bool (q1&&q2))) [27,28,29] rfl ?_ ?_
   ·refine .a 5 rfl<|.v (y_q rfl (hq1)) rfl<|.a 1 rfl<|?_
    cases q1
    ·exact .a 6 rfl<|.k [45,27,28,29] rfl
    ·exact .a 3 rfl<|.v (y_ld rfl (rfl)) rfl<|.v (y_q rfl (hq2)) rfl<|.a 1 rfl<|.k [45,27,28,29] rfl
   refine W_cond rfl (fun hc=>?_) (fun hc=>?_)
   ·have hz:(q1&&q2)=false:=by
     cases q1 with
     |false=>rfl
     |true=>
      cases q2 with
      |false=>rfl
      |true=>exact absurd (hd1 (List.eq_nil_of_length_eq_zero (by have:=tt hq1;omega))) (tt hq2)
    rw[hz]at hc
    cases hc
   ·refine W_skip ?_
    refine W_chain (.v (y_ar rfl) rfl<|.a 1 rfl<|.k [27,28,29] rfl) ?_
    exact⟨L.length - (k+1),by omega,k+1,by omega,rfl,rfl⟩
  ·have hke:k=L.length:=by have:=ff hc;omega
   refine W_exit ?_
   refine W_cs (.a 2 rfl<|.k [8,9] rfl) ?_
   refine W_ret ?_
   exact⟨_,_,ResL.of rfl,Pur.pure,rfl⟩
end
end PW
end Go.Proofs.YtnegbdpggideiaaGreatDoor

namespace Go.Proofs.YtnegbdpggideiaaGreatDoor
set_option linter.unusedVariables false
set_option linter.unusedSimpArgs false
namespace PW
open Go.RowKit Reg Mem Net Rng
structure Lone (T:Topo) (tb:Nat→Tab) (p0:Pkt) (Φ:Nat→Nat→List Seg→Prop):Prop where
 runs:Runs T tb p0 Φ
 one:∀ {u n s},Φ u n s→(outS T tb p0 n s).arcs.length≤1
 del:∀ {u n s},Φ u n s→(outS T tb p0 n s).arcs=[]→(outS T tb p0 n s).why= -1
section
variable {T:Topo} {k x:Int} {d:Nat} {st:Nat→Int} {p0:Pkt}
end
end PW
end Go.Proofs.YtnegbdpggideiaaGreatDoor

namespace Go.Proofs.YtnegbdpggideiaaGreatDoor
set_option linter.unusedVariables false
set_option linter.unusedSimpArgs false
namespace Rng
open Go.RowKit Go.Shelf Reg
structure Rest (a b:Nat) (w w':World):Prop where
 os:w'.os=w.os
 tape:w'.tape=w.tape
 output:w'.output=w.output
 size:w.heap.size≤w'.heap.size
 block:∀k,k<w.heap.size→(k<a∨b≤k)→w'.heap[k]? =w.heap[k]?
 cells:∀(k:Nat) (o:Obj),w.heap[k]? =some o→o.isCells=true→w'.heap[k]? =some o
theorem Rest.refl (a b:Nat) (w:World):Rest a b w w:=⟨rfl,rfl,rfl,Nat.le_refl _,fun _ _ _=>rfl,fun _ _ h _=>h⟩
theorem Rest.trans {a b:Nat} {w w' w'':World} (h:Rest a b w w') (k:Rest a b w' w''):Rest a b w w'':=
 ⟨k.os.trans h.os,k.tape.trans h.tape,k.output.trans h.output,Nat.le_trans h.size k.size,fun j h1 h2=>(k.block j (Nat.lt_of_lt_of_le h1 h.size) h2).trans (h.block j h1 h2),fun j o h1 h2=>k.cells j o (h.cells j o h1 h2) h2⟩
theorem Rest.wide {a b a' b':Nat} {w w':World} (h:Rest a b w w') (h1:a'≤a) (h2:b≤b'):Rest a' b' w w':=
 ⟨h.os,h.tape,h.output,h.size,fun k k1 k2=>h.block k k1 (by omega),h.cells⟩
theorem Rest.put {a b l:Nat} {w:World} {o o0:Obj} (h0:w.heap[l]? =some o0) (hc:o0.isCells=false) (h1:a≤l) (h2:l<b):Rest a b w (w.putObj l o):=
 ⟨rfl,rfl,rfl,by simp,fun k _ k2=>World.putObj_heap_other (by omega),fun k o1 k1 k2=>(World.putObj_heap_other (fun e=>by subst e;rw[h0]at k1;cases k1;rw[hc]at k2;cases k2)).trans k1⟩
theorem ext_put {w w':World} (h:Ext w w') {l:Nat} {o:Obj} (hl:w.heap.size≤l):Ext w (w'.putObj l o):=
 ⟨h.os,h.tape,h.output,by simp;exact h.size,fun k hk=>(World.putObj_heap_other (by omega)).trans (h.block k hk)⟩
def Calm (G:Value→World→Prop):Prop:=∀v w l r o,G v w→w.heap[l]? =some (Obj.loop r)→G v (w.putObj l o)
def Once (P:Program) (g:Nat) (lb:Array Value) (G:Value→World→Prop) (W₀:World):Prop:=
 ∀(n l:Nat) (W:World) (R:World→World→Prop),Below W₀.heap.size W₀ W→
  (∀W1 W2,R W1 W2→W1.heap.size≤W2.heap.size∧∀k,W.heap.size≤k→k<W1.heap.size→W2.heap[k]? =W1.heap[k]?)→
  (∀m v W1,Ext W W1→G v W1→YieldAt Fence.wide m P l #[v] W1 fun e W2=>e= .returned (.bool true)∧R W1 W2)→
  CallsIn Fence.wide n P g (#[.func (.yield l) #[] #[]]++lb) W fun e W'=>(∃v,e= .returned v)∧∃W1 W2,Ext W W1∧R W1 W2∧Rest W.heap.size W1.heap.size W2 W'
structure Left (s:Nat) (W1 W3:World):Prop where
 size:W1.heap.size≤W3.heap.size
 block:∀k,s≤k→k<W1.heap.size→W3.heap[k]? =W1.heap[k]?
theorem wpIn_rangeOnce {P : Program} {n : Nat} {g : Operand} {ps : Array Tmp} {assign body : Code} {Q : Exit → Act → World → Prop} {a : Act} {w : World}
    {gf : Nat} {lb : Array Value} (hg : a.eval g = .func (.func gf) #[] lb) (eg : ∀ args w, (callFunc gf args).run P w = .ok (.enter gf args) w)
    {G : Value → World → Prop} (hG : Calm G) (hGx : ∀ v W W', G v W → Ext W W' → G v W') {W₀ : World} (hit : Once P gf lb G W₀) (hb0 : Below W₀.heap.size W₀ w) (hps : ps.size = 1) (Rx : World → World → Prop)
    (hround : ∀ m l v (W1 : World), l = w.heap.size + 1 → (∃ r, W1.heap[l]? = some (.loop r)) → Ext w W1 → G v W1 →
      assign.wpIn (Fence.wide.inRound l) m P (Exit.then (fun a₁ Wa => Ext W1 Wa ∧ ∀ Wb, (∃ r, Wb.heap[l]? = some (.loop r)) → Ext w Wb → Wb.heap.size = Wa.heap.size → (∀ k, k ≠ l → Wb.heap[k]? = Wa.heap[k]?) → G v Wb →
        body.wpIn (Fence.wide.inRound l) m P (Exit.then (fun _ W3 => Left w.heap.size Wb W3 ∧ Rx Wb W3) (fun _ _ _ => False)) a₁ Wb) (fun _ _ _ => False))
        { tmps := (ps.zip #[v]).foldl (fun t (p, v) => t.setIfInBounds p v) a.tmps, defers := [] } W1)
    (hdone : ∀ (Wb W3 W' : World), Ext w Wb → w.heap.size < Wb.heap.size → Wb.heap.size ≤ W3.heap.size → Rx Wb W3 → Rest w.heap.size Wb.heap.size W3 W' → W'.heap[w.heap.size]? = some (.deferred (some [])) → Q .normal { a with defers := { target := .collected w.heap.size, args := #[] } :: a.defers } W') :
    (Code.rangeFunc g ps assign body).wpIn Fence.wide n P Q a w := by
  refine wpIn_rangeFunc ?_
  intro fn hfn
  obtain ⟨rec, hrec⟩ : ∃ rec : LoopState → Option Code → Loop, rec = fun st pe => { state := st, pending := pe, fn, tmps := a.tmps, params := ps, assign, body, defers := w.heap.size } := ⟨_, rfl⟩
  obtain ⟨W1, hW1⟩ : ∃ W1, (w.alloc (.deferred (some []))).alloc (.loop (rec .ready none)) = W1 := ⟨_, rfl⟩
  have hL1 : W1.heap[w.heap.size + 1]? = some (.loop (rec .ready none)) := by
    rw [← hW1]; have := World.alloc_heap_new (w.alloc (.deferred (some []))) (.loop (rec .ready none)); rwa [World.size_alloc] at this
  have hK1 : W1.heap[w.heap.size]? = some (.deferred (some [])) := by
    rw [← hW1]; exact (Below.heap_alloc _ _ _ (by simp)).trans (World.alloc_heap_new w _)
  have hz1 : W1.heap.size = w.heap.size + 2 := by rw [← hW1]; simp
  have hE1 : Ext w W1 := by rw [← hW1]; exact ((Ext.refl w).alloc _).alloc _
  have hb1 : Below W₀.heap.size W₀ W1 := hb0.trans (Below.mono hE1 hb0.size)
  refine ⟨w.heap.size + 1, [{ target := .collected w.heap.size, args := #[] }], W1, { target := .fn (.func gf) lb, args := #[.func (.yield (w.heap.size + 1)) #[] #[]] }, W1, gf,
    #[.func (.yield (w.heap.size + 1)) #[] #[]] ++ lb, W1, ?_, ?_, ?_, ?_, fun h => by simp [Fence.wide] at h, ?_⟩
  · rw [← hW1, hrec]; exact run_enterLoop_outer _ _ _ _ _
  · simp only [resolve, hg]
    simp [go_sem]
  · intro f' _; trivial
  · simp [invoke, go_sem, eg]
  · refine (hit (n - 1) (w.heap.size + 1) W1 (fun A B => A.heap.size ≤ B.heap.size ∧ (∀ k, W1.heap.size ≤ k → k < A.heap.size → B.heap[k]? = A.heap[k]?) ∧
        ∃ Wb W3, Ext w Wb ∧ A.heap.size ≤ Wb.heap.size ∧ Wb.heap.size ≤ W3.heap.size ∧ Rx Wb W3 ∧ Rest w.heap.size W1.heap.size W3 B ∧ B.heap[w.heap.size + 1]? = some (.loop (rec .ready none)) ∧ B.heap[w.heap.size]? = some (.deferred (some []))) hb1 (fun A B h => ⟨h.1, h.2.1⟩) ?_).mono ?_
    ·
      intro m v W2 hE2 hv
      have hl : W2.heap[w.heap.size + 1]? = some (.loop (rec .ready none)) := (hE2.block _ (by omega)).trans hL1
      have hk : W2.heap[w.heap.size]? = some (.deferred (some [])) := (hE2.block _ (by omega)).trans hK1
      have hlt : w.heap.size + 1 < W2.heap.size := (Array.getElem?_eq_some_iff.1 hl).1
      have hy := run_yield (P := P) (args := #[v]) hl (by rw [hrec]; exact hps.symm)
      rw [hrec] at hy
      refine ⟨fn, _, assign, body, hy, roundIn_of_wpIn hfn (wpIn_mono (hround m _ v W2 rfl ⟨_, hl⟩ (hE1.trans hE2) hv) ?_)⟩
      rintro e a1 Wa he
      cases e with
      | normal =>
        obtain ⟨hEa, hb⟩ := he
        have hla : Wa.heap[w.heap.size + 1]? = some (.loop (rec .ready none)) := (hEa.block _ hlt).trans hl
        have hlta : w.heap.size + 1 < Wa.heap.size := (Array.getElem?_eq_some_iff.1 hla).1
        have hza := hEa.size
        refine ⟨_, run_beginRound hla (by rw [hrec]), ?_⟩
        obtain ⟨Wb, hWb⟩ : ∃ Wb, Wb = Wa.putObj (w.heap.size + 1) (.loop { rec .ready none with state := .busy }) := ⟨_, rfl⟩
        have hl2 : Wb.heap[w.heap.size + 1]? = some (.loop { rec .ready none with state := .busy }) := by rw [hWb]; exact World.putObj_heap_same hlta
        have hk2 : Wb.heap[w.heap.size]? = some (.deferred (some [])) := by rw [hWb]; exact (World.putObj_heap_other (by omega)).trans ((hEa.block _ (by omega)).trans hk)
        have hzb : Wb.heap.size = Wa.heap.size := by rw [hWb]; simp
        have hEb : Ext w Wb := by rw [hWb]; exact ext_put ((hE1.trans hE2).trans hEa) (by omega)
        have hother : ∀ k, k ≠ w.heap.size + 1 → Wb.heap[k]? = Wa.heap[k]? := fun k hk => by rw [hWb]; exact World.putObj_heap_other hk
        rw [← hWb]
        refine wpIn_mono (hb Wb ⟨_, hl2⟩ hEb hzb hother (by rw [hWb]; exact hG _ _ _ _ _ (hGx _ _ _ hv hEa) hla)) ?_
        rintro e2 a3 W3 hp
        cases e2 with
        | normal =>
          obtain ⟨hleft, hrx⟩ := hp
          have hl3 : W3.heap[w.heap.size + 1]? = some (.loop { rec .ready none with state := .busy }) := (hleft.block _ (by omega) (by omega)).trans hl2
          have hk3 : W3.heap[w.heap.size]? = some (.deferred (some [])) := (hleft.block _ (by omega) (by omega)).trans hk2
          have he := run_endRound (P := P) none hl3
          rw [hrec] at he
          have hs3 := hleft.size
          refine ⟨_, _, he, rfl, ?_, ?_, Wb, W3, hEb, by omega, hs3, hrx, ?_, ?_, ?_⟩
          · simp only [World.putObj_size]; omega
          · intro k h1 h2
            rw [World.putObj_heap_other (by omega), hleft.block k (by omega) (by omega), hother k (by omega), hEa.block k h2]
          · exact Rest.put hl3 rfl (by omega) (by omega)
          · have := World.putObj_heap_same (w := W3) (r := w.heap.size + 1) (o := .loop (rec .ready none)) (by omega)
            rw [hrec] at this ⊢
            exact this
          · rw [World.putObj_heap_other (by omega)]; exact hk3
        | _ => exact hp.elim
      | _ => exact he.elim
    ·
      rintro e W' ⟨⟨v, rfl⟩, A, B, hEA, ⟨h1, h2, Wb, W3, k1, k2, k3, k4, k5, k6, k7⟩, hrest⟩
      have hzB : w.heap.size + 1 < B.heap.size := (Array.getElem?_eq_some_iff.1 k6).1
      have hzA := hEA.size
      have hl4 : W'.heap[w.heap.size + 1]? = some (.loop (rec .ready none)) := (hrest.block _ hzB (by omega)).trans k6
      have hk4 : W'.heap[w.heap.size]? = some (.deferred (some [])) := (hrest.block _ (by omega) (by omega)).trans k7
      have he := run_endLoop (P := P) hl4 (by rw [hrec]; simp)
      rw [hrec] at he
      refine ⟨none, _, he, hdone Wb W3 _ k1 (by omega) k3 k4 ?_ ?_⟩
      · refine Rest.trans (k5.wide (Nat.le_refl _) (by omega)) (Rest.trans (hrest.wide (by omega) (by omega)) (Rest.put hl4 rfl (by omega) (by omega)))
      · rw [World.putObj_heap_other (by omega)]; exact hk4
end Rng
end Go.Proofs.YtnegbdpggideiaaGreatDoor

namespace Go.Proofs.YtnegbdpggideiaaGreatDoor
set_option linter.unusedVariables false
set_option linter.unusedSimpArgs false
namespace PW
open Go.RowKit Reg Mem
section
variable {P:Program} {ops:Array Oper} {n:Nat}
theorem oper_in {o:Oper} {a:Act} {w:World} {K K':Act→World→Prop} {Q Q':Exit→Act→World→Prop} (hK:∀a w,K a w→K' a w) (hp:∀c a w,Q (.panic c) a w→Q' (.panic c) a w) (hL:¬LetsOut Q) (h:o.wp P a w K Q):o.wpIn Fence.wide n P a w K' Q':=by
 refine⟨fun _ _=>trivial,?_⟩
 rw[show Fence.wide.round=none from rfl,Oper.semAt_none]
 unfold Oper.wp at h
 generalize (execOp a.eval o).run P w=x at*
 cases x with
 |ok x w'=>
  cases x<;>simp only[Oper.uponIn,Oper.upon]at h ⊢
  case value v=>exact hK _ _ h
  case skip=>exact hK _ _ h
  case defer d=>exact hK _ _ h
  case enter f args=>exact⟨fun h=>by simp[Fence.wide]at h,callsIn_wide.2 (h.mono fun e w'' he=>by cases e<;>first|exact hK _ _ he|exact hp _ _ _ he|exact(hL he).elim)⟩
  case row r args=>exact⟨fun h=>by simp[Fence.wide]at h,fun c cs _=>by
   obtain⟨v,w',r,s⟩:=h c cs
   exact⟨v,w',hK _ _ r,stepsIn_wide.2 s⟩⟩
  all_goals exact h.elim
 |halt x w'=>cases x<;>simp only[Oper.uponIn,Oper.upon]at h ⊢ <;>first|exact hp _ _ _ h|exact h
section
variable {f m:Nat} (hB:barB ops f m=true)
include hB
theorem wpAnyIn_tail {Q:Exit→Act→World→Prop}:∀(r k:Nat) (a:Act) (w:World),k+r=ops.size→m≤k→wpOpsIn Fence.wide n P ops Q (List.range' k r) a w→wpAnyIn Fence.wide n P .any ops Q r (upto ops.size k) a w
 |0,k,a,w,hk,_,h=>by
  obtain rfl:k=ops.size:=by omega
  exact⟨ready_all,h⟩
 |r+1,k,a,w,hk,hm,h=>by
  have hr:=ready_upto hB k (by omega) hm
  refine⟨fun h0=>absurd (hr.symm.trans h0) (by simp),fun i hi=>?_⟩
  rw[hr]at hi
  simp at hi
  subst hi
  rw[List.range'_succ,wpOpsIn_cons]at h
  rw[upto_set]
  exact wpOpIn_mono (fun a w h=>wpAnyIn_tail r (i+1) a w (by omega) (by omega) h) h
end
def QtailIn (n:Nat) (P:Program) (ops:Array Oper) (Q:Exit→Act→World→Prop) (m r:Nat):Exit→Act→World→Prop
 | .normal,a,w=>wpOpsIn Fence.wide n P ops Q (List.range' m r) a w
 |_,_,_=>False
theorem qtail_out {Q:Exit→Act→World→Prop} {m r:Nat}:¬LetsOut (QtailIn n P ops Q m r):=fun⟨_,_,h⟩=>h
theorem wpAnyIn_front {f m:Nat} (hB:barB ops f m=true) (hm:m≤ops.size) {Q:Exit→Act→World→Prop}:∀(fuel:Nat) (l₁ ls:Array Bool) (a:Act) (w:World),l₁.size=m→ls.size=ops.size→(∀i,i<m→ls.getD i true=l₁.getD i true)→(∀i,m≤i→i<ops.size→ls.getD i true=false)→Down ops ls→unlisted ls m=fuel→
  wpAny P .any (ops.extract 0 m) (QtailIn n P ops Q m (ops.size - m)) fuel l₁ a w→wpAnyIn Fence.wide n P .any ops Q (fuel+(ops.size - m)) ls a w:=by
 have hsz:(ops.extract 0 m).size=m:=by simp;omega
 have hget:∀i,i<m→(ops.extract 0 m)[i]? =ops[i]? :=fun i hi=>by rw[Array.getElem?_extract];simp;omega
 have haft:∀i,i<m→aft (ops.extract 0 m) i=aft ops i:=fun i hi=>by unfold aft;rw[hget i hi]
 intro fuel
 induction fuel with
 |zero=>
  intro l₁ ls a w hs1 hs2 hsame hrest hd hu h
  have:ls=upto ops.size m:=by
   apply Array.ext
   ·simp[upto,hs2]
   ·intro i h1 h2
    have hi:i<ops.size:=by omega
    have e:ls.getD i true=(upto ops.size m).getD i true:=by
     rw[upto_get _ _ _ hi]
     by_cases him:i<m
     ·rw[unlisted_zero hu i him];simp[him]
     ·rw[hrest i (by omega) hi];simp[him]
    simpa[h1,h2]using e
  rw[this]
  simpa using wpAnyIn_tail hB (ops.size - m) m a w (by omega) (Nat.le_refl _) h.2
 |succ fuel ih=>
  intro l₁ ls a w hs1 hs2 hsame hrest hd hu h
  have hf:∀b c (i:Nat),i<ops.size→ls.getD i b=ls.getD i c:=fun b c i hi=>by simp[show i<ls.size by omega]
  obtain⟨i0,hi0,hi1,hi2⟩:=unlisted_pos (ls:=ls) (m:=m) (by omega)
  have hrd:∀i,i∈Region.ready .any ops ls→i<m:=fun i hi=>by
   obtain⟨h1,h2,h3⟩:=ready_iff.1 hi
   rcases Nat.lt_or_ge i m with h'|h'
   ·exact h'
   ·have:=reach_listed hs2 hd (bar_aft hB) f i i0 h1 (bar_reach hB i h1 h' i0 (by omega)) h3
    rw[hf false true i0 (by omega),hi1]at this
    cases this
  have hin:∀i,i∈Region.ready .any ops ls→i∈Region.ready .any (ops.extract 0 m) l₁:=fun i hi=>by
   have him:=hrd i hi
   obtain⟨h1,h2,h3⟩:=ready_iff.1 hi
   refine ready_iff.2 ⟨by omega,by rw[←hsame i him];exact h2,fun k hk=>?_⟩
   rw[haft i him]at hk
   have hki:=bar_aft hB i h1 k hk
   have:=h3 k hk
   rw[hf false true k (by omega),hsame k (by omega)]at this
   simpa[show k<l₁.size by omega]using this
  have hi0r:i0∈Region.ready .any ops ls:=ready_iff.2 ⟨by omega,hi1,fun k hk=>by
   have:=bar_aft hB i0 (by omega) k hk
   rw[hf false true k (by omega)];exact hi2 k this⟩
  rw[show fuel+1+(ops.size - m)=(fuel+(ops.size - m))+1 by omega]
  refine⟨fun h0=>absurd hi0r (by rw[h0];simp),fun i hi=>?_⟩
  have him:=hrd i hi
  obtain⟨h1,h2,h3⟩:=ready_iff.1 hi
  have hstep:=h.2 i (hin i hi)
  have next:∀a w,wpAny P .any (ops.extract 0 m) (QtailIn n P ops Q m (ops.size - m)) fuel (l₁.setIfInBounds i true) a w→wpAnyIn Fence.wide n P .any ops Q (fuel+(ops.size - m)) (ls.setIfInBounds i true) a w:=fun a w hh=>by
   refine ih _ _ a w (by simpa using hs1) (by simpa using hs2) (fun j hj=>?_) (fun j hj hj'=>?_) (fun j hj hj' k hk=>?_) (by have:=unlisted_set h2 him (by omega);omega) hh
   ·by_cases e:i=j
    ·subst e;simp[show i<ls.size by omega,show i<l₁.size by omega]
    ·have:=hsame j hj
     simp only[Array.getD_eq_getD_getElem?,Array.getElem?_setIfInBounds_ne e]at this ⊢
     exact this
   ·have:=hrest j hj hj'
    simp only[Array.getD_eq_getD_getElem?,Array.getElem?_setIfInBounds_ne (show i≠j by omega)]at this ⊢
    exact this
   ·by_cases e:i=j
    ·subst e
     have hki:=bar_aft hB i h1 k hk
     have:=h3 k hk
     simp only[Array.getD_eq_getD_getElem?,Array.getElem?_setIfInBounds_ne (show i≠k by omega)]at this ⊢
     exact this
    ·have hj2:ls.getD j true=true:=by
      simp only[Array.getD_eq_getD_getElem?,Array.getElem?_setIfInBounds_ne e]at hj ⊢
      exact hj
     have:=hd j hj2 hj' k hk
     by_cases e2:i=k
     ·subst e2;simp[show i<ls.size by omega]
     ·simp only[Array.getD_eq_getD_getElem?,Array.getElem?_setIfInBounds_ne e2]at this ⊢
      exact this
  unfold wpOp at hstep
  unfold wpOpIn
  rw[hget i him]at hstep
  have ho:ops[i]? =some ops[i]:=by simp[h1]
  rw[ho]at hstep ⊢
  simp only at hstep ⊢
  have hy:Region.wanted ops[i] (yielded (ops.extract 0 m) a.tmps)=Region.wanted ops[i] (yielded ops a.tmps):=by
   unfold Region.wanted
   cases hg:(ops[i]).guard with
   |none=>rfl
   |some g=>
    obtain⟨j,wt⟩:=g
    have:=bar_guard hB i ops[i] j wt ho hg
    simp only[yielded]
    rw[hget j (by omega)]
  rw[hy]at hstep
  split
  ·rename_i hw
   rw[if_pos hw]at hstep
   rcases hstep with hh|⟨hh,hl⟩
   ·exact oper_in next (fun _ _ _ h=>h.elim) qtail_out hh
   ·exact absurd hl qtail_out
  ·rename_i hw
   rw[if_neg hw]at hstep
   exact⟨fun _ _=>trivial,next _ _ hstep⟩
theorem wpIn_frontSeq {N : Nat} {id : Nat} {l : List Oper} {t t' : Tms} {σ : Sto} {F : Nat → Prop} {base : Nat} {E : Env} {a : Act} {w : World} {Q : Exit → Act → World → Prop} (m f : Nat) (D : List Nat) (hm : P.follows .mixedOrders = true) (hB : Region.lexB .any (l.take m).toArray = true)
    (hn : ((l.take m).all fun o => o.dst.all fun e => decide (e < N) && D.contains e) = true) (hbar : barB l.toArray f m = true) (hml : Nat.ble m l.length = true) (hs : SatSt F base N ⟨t, σ⟩ E a w)
    (h : ChainD P N (l.take m).toArray σ (l.take m) t t') (hw : ∀ a' w', Ext w w' → SatSt F base N ⟨t', σ⟩ E a' w' → wpOpsIn Fence.wide n P l.toArray Q (List.range' m (l.toArray.size - m)) a' w') : (Code.region id l.toArray true).wpIn Fence.wide n P Q a w := by
  obtain ⟨arr, ds⟩ := a
  have hds : ds = [] := hs.dfr
  have hmle : m ≤ l.length := Nat.ble_eq.mp hml
  have hlt : (l.take m).length = m := by simp; omega
  refine wpIn_region_any hm ?_
  have hfr := chain_any (Q := QtailIn n P l.toArray Q m (l.toArray.size - m)) hs D hB hn h (fun b w' hE hs' => hw _ _ hE hs')
  have he : l.toArray.extract 0 m = (l.take m).toArray := by simp
  have := wpAnyIn_front (P := P) (n := n) hbar (by simpa using hmle) (Q := Q) m (Array.replicate m false) (Array.replicate l.toArray.size false) ⟨arr, ds⟩ { w with drawn := w.drawn + 1 } (by simp) (by simp) (fun i hi => by rw [rep_get _ _ hi, rep_get _ _ (by simp; omega)]) (fun i _ hi => rep_get _ _ hi _) (fun i hi hi' => by
      have : (Array.replicate l.toArray.size false).getD i true = false := rep_get _ _ hi' _
      rw [this] at hi; cases hi) (by
      have : ∀ k, k ≤ l.length → unlisted (Array.replicate l.toArray.size false) k = k := by
        intro k
        induction k with
        | zero => intro _; rfl
        | succ k ih =>
          intro hk
          simp only [unlisted]
          rw [ih (by omega)]
          have : (Array.replicate l.toArray.size false).getD k true = false := rep_get _ _ (by simp; omega) _
          rw [this]; simp
      exact this m hmle) (by rw [he]; rw [hlt] at hfr; exact hfr)
  rw [show m + (l.toArray.size - m) = l.toArray.size by simp; omega] at this
  exact this
end
end PW
end Go.Proofs.YtnegbdpggideiaaGreatDoor

namespace Go.Proofs.YtnegbdpggideiaaGreatDoor
set_option linter.unusedVariables false
set_option linter.unusedSimpArgs false
namespace PW
open Go.RowKit Reg Mem
theorem wcell_other {w w':World} {l:Nat} {r:Loop} (hl:w.heap[l]? =some (.loop r)) (ho:∀k,k≠l→w'.heap[k]? =w.heap[k]?) {a:Addr} {x:Value} (h:w.cell? a=some x):w'.cell? a=some x:=by
 have hne:a.block≠l:=fun e=>by
  unfold World.cell? at h
  rw[e,hl]at h
  simp at h
 rw[cell_same (ho _ hne)]
 exact h
theorem Rep.other {E:Env} {w w':World} {l:Nat} {r:Loop} (hl:w.heap[l]? =some (.loop r)) (hz:w'.heap.size=w.heap.size) (ho:∀k,k≠l→w'.heap[k]? =w.heap[k]?) {v:Value} {p:PV} (h:Rep E w v p):Rep E w' v p:=by
 induction h with
 |any v=>exact .any v
 |raw v=>exact .raw v
 |nils=>exact .nils
 |empty a c h=>exact .empty a c h
 |slice b off n c cs xs h0 h1 h2 hb hM hc hl2 _ ih=>exact .slice b off n c cs xs h0 h1 h2 (by omega) hM (fun i x hx=>wcell_other hl ho (hc i x hx)) hl2 ih
 |pin b o' off cs xs hb hM hc hl2 _ ih=>exact .pin b o' off cs xs (by omega) hM (fun i x hx=>wcell_other hl ho (hc i x hx)) hl2 ih
 |agg cs xs hl2 _ ih=>exact .agg cs xs hl2 ih
 |tuple cs xs hl2 _ ih=>exact .tuple cs xs hl2 ih
 |func f cs xs hl2 _ ih=>exact .func f cs xs hl2 ih
 |ptr i off b hi h=>exact .ptr i off b hi h
 |own i hi v h hs=>exact .own i hi v h hs
theorem Glob.other {F:Nat→Prop} {w w':World} {l:Nat} {r:Loop} (hl:w.heap[l]? =some (.loop r)) (ho:∀k,k≠l→w'.heap[k]? =w.heap[k]?) (h:Glob F w):Glob F w':=fun g cs hg=>by
 obtain⟨h1,t,fz,h2⟩:=h g cs hg
 have hne:g≠l:=fun e=>by rw[e,hl]at h2;cases h2
 exact⟨h1,t,fz,by rw[ho g hne];exact h2⟩
section
variable {P:Program} {ops:Array Oper} {n:Nat}
theorem oper_inR {lp:Nat} {o:Oper} {a:Act} {w:World} {K K':Act→World→Prop} {Q Q':Exit→Act→World→Prop} (hnd:∀c,o.op≠ .defer c) (hK:∀a w,K a w→K' a w) (hp:∀c a w,Q (.panic c) a w→Q' (.panic c) a w) (hL:¬LetsOut Q) (h:o.wp P a w K Q):o.wpIn (Fence.wide.inRound lp) n P a w K' Q':=by
 refine⟨fun _ _=>trivial,?_⟩
 rw[Fence.inRound_round,Oper.semAt_eq _ _ _ hnd]
 unfold Oper.wp at h
 generalize (execOp a.eval o).run P w=x at*
 cases x with
 |ok x w'=>
  cases x<;>simp only[Oper.uponIn,Oper.upon]at h ⊢
  case value v=>exact hK _ _ h
  case skip=>exact hK _ _ h
  case defer d=>exact hK _ _ h
  case enter f args=>exact⟨fun h=>by simp[Fence.wide]at h,CallsIn.inRound lp (callsIn_wide.2 (h.mono fun e w'' he=>by cases e<;>first|exact hK _ _ he|exact hp _ _ _ he|exact(hL he).elim))⟩
  case row r args=>exact⟨fun h=>by simp[Fence.wide]at h,fun c cs _=>by
   obtain⟨v,w',r,s⟩:=h c cs
   exact⟨v,w',hK _ _ r,stepsIn_wide.2 s⟩⟩
  all_goals exact h.elim
 |halt x w'=>cases x<;>simp only[Oper.uponIn,Oper.upon]at h ⊢ <;>first|exact hp _ _ _ h|exact h
def QcutR (lp n:Nat) (P:Program) (ops:Array Oper) (Q:Exit→Act→World→Prop) (js:List Nat):Exit→Act→World→Prop
 | .normal,a,w=>wpOpsIn (Fence.wide.inRound lp) n P ops Q js a w
 |_,_,_=>False
theorem qcutR_out {lp:Nat} {Q:Exit→Act→World→Prop} {js:List Nat}:¬LetsOut (QcutR lp n P ops Q js):=fun⟨_,_,h⟩=>h
theorem ops_cut {lp m:Nat} {Q:Exit→Act→World→Prop} {js:List Nat} (hm:m≤ops.size) (hg:∀(i:Nat) o,i<m→ops[i]? =some o→o.guard=none∧∀c,o.op≠ .defer c):∀(is:List Nat) (a:Act) (w:World),(∀i∈is,i<m)→wpOps P (ops.extract 0 m) (QcutR lp n P ops Q js) is a w→wpOpsIn (Fence.wide.inRound lp) n P ops Q (is++js) a w
 | [],a,w,_,h=>h
 |i::is,a,w,hi,h=>by
  have him:=hi i (by simp)
  have hget:(ops.extract 0 m)[i]? =ops[i]? :=by rw[Array.getElem?_extract];simp;omega
  rw[wpOps_cons]at h
  rw[List.cons_append,wpOpsIn_cons]
  unfold wpOp at h
  unfold wpOpIn
  rw[hget]at h
  have ho:ops[i]? =some ops[i]:=Array.getElem?_eq_getElem (by omega)
  rw[ho]at h ⊢
  simp only at h ⊢
  obtain⟨h1,h2⟩:=hg i _ him ho
  have hw:∀x,Region.wanted ops[i] x=true:=fun x=>by unfold Region.wanted;rw[h1]
  rw[if_pos (hw _)]at h ⊢
  rcases h with h|⟨_,h⟩
  ·exact oper_inR h2 (fun a' w' h=>ops_cut hm hg is a' w' (fun j hj=>hi j (by simp[hj])) h) (fun _ _ _ h=>h.elim) qcutR_out h
  ·exact absurd h qcutR_out
theorem round_cut {lp m id N L:Nat} {l:List Oper} {st:St} {F:Nat→Prop} {base:Nat} {E:Env} {a:Act} {w:World} {Q:Exit→Act→World→Prop} (hm:Nat.ble m l.length=true) (hg:((l.take m).all fun o=>o.guard.isNone&& !isDefer o.op)=true) {K:St→Prop} (hs:SatSt F base N st E a w) (hL:E.L=L)
  (h:WR P N L (l.take m).toArray (l.take m) st K) (hk:∀s E' a' w',K s→SatSt F base N s E' a' w'→Goes E w E' w'→Below base w w'→wpOpsIn (Fence.wide.inRound lp) n P l.toArray Q (List.range' m (l.length - m)) a' w'):(Code.region id l.toArray false).wpIn (Fence.wide.inRound lp) n P Q a w:=by
 have hmle:m≤l.length:=Nat.ble_eq.mp hm
 have hlt:(l.take m).length=m:=by simp;omega
 refine wpIn_region ?_
 have hr:List.range l.toArray.size=List.range' 0 m++List.range' m (l.length - m):=by
  have h:= @List.range'_append_1 0 m (l.length - m)
  rw[Nat.zero_add,show m+(l.length - m)=l.length by omega]at h
  rw[List.range_eq_range',List.size_toArray]
  exact h.symm
 rw[hr]
 refine ops_cut (m:=m) (by simpa using hmle) (fun i o hi ho=>?_) _ a w (fun i hi=>by simp at hi;omega) ?_
 ·have hmem:o∈l.take m:=by
   have:(l.take m)[i]? =some o:=by rw[List.getElem?_take,if_pos hi];simpa using ho
   exact List.mem_of_getElem? this
  have:=List.all_eq_true.1 hg o hmem
  simp only[Bool.and_eq_true,Option.isNone_iff_eq_none,Bool.not_eq_true']at this
  exact⟨this.1,fun c e=>by rw[e]at this;exact absurd this.2 (by simp[isDefer])⟩
 ·have he:l.toArray.extract 0 m=(l.take m).toArray:=by simp
  rw[he]
  have:=h F base E w E a w ⟨hL,Goes.refl _ _,Below.refl _ _⟩ hs (QcutR lp n P l.toArray Q (List.range' m (l.length - m))) 0 (fun a' w' ⟨s,E',h1,h2,h3,h4⟩=>hk s E' a' w' h1 h2 h3 h4) (fun j=>by simp)
  rw[hlt]at this
  exact this
theorem ops_val {F:Fence} (hF:F=Fence.wide∨∃lp,F=Fence.wide.inRound lp) {i:Nat} {is:List Nat} {o:Oper} {a:Act} {w:World} {v:Value} {Q:Exit→Act→World→Prop} (ho:ops[i]? =some o) (hg:o.guard=none) (hnd:∀c,o.op≠ .defer c) (hr:(execOp a.eval o).run P w= .ok (.value v) w) (h:wpOpsIn F n P ops Q is (a.put o.dst v) w):wpOpsIn F n P ops Q (i::is) a w:=by
 rw[wpOpsIn_cons]
 unfold wpOpIn
 rw[ho]
 simp only
 rw[if_pos (by unfold Region.wanted;rw[hg])]
 have hsem:o.semAt F.round a.eval=execOp a.eval o:=by
  rcases hF with rfl|⟨lp,rfl⟩
  ·exact Oper.semAt_none _ _
  ·rw[Fence.inRound_round,Oper.semAt_eq _ _ _ hnd]
 refine⟨fun _ _=>?_,?_⟩
 ·rcases hF with rfl|⟨lp,rfl⟩<;>trivial
 ·rw[hsem,hr]
  exact h
theorem ops_round {lp:Nat} {i l:Nat} {is:List Nat} {o:Oper} {a:Act} {w:World} {Q:Exit→Act→World→Prop} {x y:Operand} {ats:Array TypeId} {R:Ending→World→Prop} (ho:ops[i]? =some o) (hg:o.guard=none) (hop:o.op= .call {callee:=.value x,args:= #[y],argTypes:=ats})
  (hx:a.eval x= .func (.yield l) #[] #[]) (hy:YieldAt Fence.wide (n - 1) P l #[a.eval y] w R) (hR:∀e w',R e w'→∃v,e= .returned v∧wpOpsIn (Fence.wide.inRound lp) n P ops Q is (a.put o.dst v) w'):wpOpsIn (Fence.wide.inRound lp) n P ops Q (i::is) a w:=by
 obtain⟨fn,tmps,assign,body,h1,h2⟩:=hy
 rw[wpOpsIn_cons]
 unfold wpOpIn
 rw[ho]
 simp only
 rw[if_pos (by unfold Region.wanted;rw[hg])]
 refine⟨fun _ _=>trivial,?_⟩
 rw[Fence.inRound_round,Oper.semAt_eq _ _ _ (fun c e=>by rw[hop]at e;cases e)]
 have hr:(execOp a.eval o).run P w= .ok (.round l fn tmps assign body) w:=by
  simp[execOp,hop,resolve,hx,Deferred.ofValue,invoke,h1]
 rw[hr]
 refine⟨fun h=>by simp[Fence.wide]at h,RoundIn.mono h2 fun e w' he=>?_⟩
 obtain⟨v,rfl,hq⟩:=hR e w' he
 exact hq
theorem exec_not {o:Oper} {a:Act} {w:World} {x:Operand} {ty:TypeId} {q:Bool} (ho:o.op= .unOp .not ty x) (hx:a.eval x= .bool q):(execOp a.eval o).run P w= .ok (.value (.bool (!q))) w:=by
 simp only[execOp,ho,hx,Op.unary,Sem.run_bind,Sem.run_pure,Result.andThen_ok]
theorem exec_load {o:Oper} {a:Act} {w:World} {x:Operand} {ty:TypeId} {b:Nat} {c:Value} (ho:o.op= .load ty x) (hk:tyK P ty=some none) (hx:a.eval x= .pointer (some ⟨b,0,none⟩)) (hc:w.cell? ⟨b,0,none⟩=some c):(execOp a.eval o).run P w= .ok (.value c) w:=by
 have h:=run_loadOne (P:=P) hk hc
 simp only[execOp,ho,hx,Sem.run_bind,h,Result.andThen_ok,Sem.run_pure]
theorem exec_assign {o:Oper} {a:Act} {w:World} {x:Operand} (ho:o.op= .assign x):(execOp a.eval o).run P w= .ok (.value (a.eval x)) w:=by
 simp only[execOp,ho,Sem.run_pure]
theorem Sat.other {F:Nat→Prop} {base:Nat} {σ:Sto} {E:Env} {w w':World} {l:Nat} {r:Loop} (hl:w.heap[l]? =some (.loop r)) (hz:w'.heap.size=w.heap.size) (ho:∀k,k≠l→w'.heap[k]? =w.heap[k]?) (h:Sat F base σ E w):Sat F base σ E w':=by
 have hne:∀ {k:Nat} {o:Obj},w.heap[k]? =some o→(∀r,o≠ .loop r)→k≠l:=fun {k o} hk hr e=>by subst e;rw[hl]at hk;cases hk;exact hr _ rfl
 have hL:∀ {cs:List Value} {xs:List PV},RepL E w cs xs→RepL E w' cs xs:=fun hr=>⟨hr.1,fun i x u k1 k2=>(hr.2 i x u k1 k2).other hl hz ho⟩
 refine⟨by rw[hz];exact h.bl,fun b hb=>⟨by rw[hz];exact(h.fb b hb).1,(h.fb b hb).2⟩,h.len,h.mm,fun i blk hi=>?_,h.inj,h.gl.other hl ho⟩
 have hb:=h.blk i blk hi
 generalize E.at_ i=v at hb
 cases blk with
 |cells t xs=>
  obtain⟨b',cs,rfl,h1,h2,h3⟩:=hb
  exact⟨b',cs,rfl,h1,(ho b' (hne h2 (fun r e=>by cases e))).trans h2,hL h3⟩
 |row e size n xs=>
  obtain⟨cs,h1,h2⟩:=hb
  refine⟨cs,⟨h1.1,?_⟩,hL h2⟩
  rcases h1.2 with h|⟨g',cap,cur,rfl,k1,k2,k3⟩
  ·exact .inl h
  ·exact .inr ⟨g',cap,cur,rfl,k1,(ho g' (hne k2 (fun r e=>by cases e))).trans k2,k3⟩
 |mp kv=>
  obtain⟨r',es,ck,rfl,h1,h2,h3,h4⟩:=hb
  exact⟨r',es,ck,rfl,h1,(ho r' (hne h2 (fun r e=>by cases e))).trans h2,h3,hL h4⟩
theorem RepT.other {E:Env} {w w':World} {l:Nat} {r:Loop} (hl:w.heap[l]? =some (.loop r)) (hz:w'.heap.size=w.heap.size) (ho:∀k,k≠l→w'.heap[k]? =w.heap[k]?) {ρ:Operand→Value} {t:Tms} (h:RepT E w ρ t):RepT E w' ρ t:=fun k p hk=>(h k p hk).other hl hz ho
theorem exec_move {o:Oper} {a:Act} {w:World} {x:Operand} (ho:o.op= .move x):(execOp a.eval o).run P w= .ok (.value (a.eval x)) w:=by
 simp only[execOp,ho,Sem.run_pure]
theorem exec_int {o:Oper} {a:Act} {w:World} {op:BinOp} {x y:Operand} {ty tz:TypeId} {c b:Int} {v:Value} (ho:o.op= .binOp op ty x y tz) (hx:a.eval x= .int .i64 c) (hy:a.eval y= .int .i64 b) (hv:(binOp op ty (.int .i64 c) (.int .i64 b)).run P w= .ok v w):(execOp a.eval o).run P w= .ok (.value v) w:=by
 have hg:(eqGuard op ty x y (.int .i64 c) (.int .i64 b)).run P w= .ok () w:=by unfold eqGuard;split<;>rfl
 simp only[execOp,ho,hx,hy,Sem.run_bind,Sem.run_pure,Result.andThen_ok,hg,hv]
end
end PW
end Go.Proofs.YtnegbdpggideiaaGreatDoor

namespace Go.Proofs.YtnegbdpggideiaaGreatDoor
set_option linter.unusedVariables false
set_option linter.unusedSimpArgs false
namespace PW
open Go.RowKit Go.Shelf Reg Mem Net Rng
set_option maxRecDepth 10000 in
set_option maxHeartbeats 1000000 in
theorem icloneS_can (l:List Int) (hl:l.length≤1000):CanS Tryz.prog 144 [intsV l] [] (fun r σ'=>r= .own 0∧σ'=[some (.row 3 1 l.length (intsP l))]):=by
 refine canS_of Tryz.func144 rfl Tryz.ntmps144 rfl ?_
 refine W_cs (.a 1 rfl<|.k [0] rfl) ?_
 refine W_seq ?_
 refine W_rs (WR.mono (K:=fun s=>∃b:Bool,s=⟨[(0,intsV l),(4,.raw (.bool b))],[]⟩∧(b=true→l=[])) ?_ ?_)
 ·cases l with
  |nil=>exact WR_a 1 rfl<|WR_nilq rfl slI rfl rfl rfl rfl rfl fun b=>WR_k [0,4] rfl ⟨b,rfl,fun _=>rfl⟩
  |cons a l=>exact WR_a 1 rfl<|WR_val (y_notNil rfl slI rfl rfl (Nat.succ_pos _)) rfl rfl rfl<|WR_k [0,4] rfl ⟨_,rfl,fun h=>by cases h⟩
 rintro _ ⟨b,rfl,hb⟩
 refine W_cond rfl (fun hc=>?_) (fun hc=>?_)
 ·have:l=[]:=hb hc
  subst this
  refine W_cs (.a 1 rfl<|.k [2] rfl) ?_
  refine W_adopt 2 3 1 rfl ?_
  refine W_ret ?_
  exact⟨_,ResL.of rfl,rfl,rfl⟩
 ·refine W_skip ?_
  refine W_rs ?_
  refine WR_l (l_emptySlice rfl (fok.sl.get rfl)) rfl<|WR_a 1 rfl<|WR_l (l_append rfl (fok.rk.get rfl) rfl rfl rfl (show(intsP l).length=l.length*1 by simp[intsP]) (by unfold maxLen;omega)) rfl<|WR_a 1 rfl<|WR_k [2] rfl ?_
  refine W_ren [1] (.cons 2 rfl (Ren.own (i:=0) rfl) .nil) (.kept rfl (.row RenL.pure) .nil) rfl rfl ?_
  refine W_ret ?_
  exact⟨_,ResL.of rfl,rfl,by rw[Nat.zero_add];rfl⟩
theorem icloneF_can (l:List Int) (hl:l.length≤1000) (σ:Sto):CanS Tryz.prog 144 [intsV l] σ (fun r σ'=>r= .own σ.length∧σ'=σ++[some (.row 3 1 l.length (intsP l))]):=by
 refine CanS.frame (CanS.mono (icloneS_can l hl) ?_)
 rintro r σ' ⟨rfl,rfl⟩
 exact⟨[.row 3 1 l.length (intsP l)],rfl,_,_,Up.own rfl,BUpL.cons (.row UpL.pure) BUpL.nil,by simp,rfl⟩
set_option maxRecDepth 10000 in
set_option maxHeartbeats 1000000 in
theorem branches_can (ys:List PV) (L:List Int):CanS Tryz.prog 128 [.pin ys 0,.own 1] [none,some (.row 3 1 L.length (intsP L))] (fun r σ'=>r= .func 165 [.ptr 2 0,.ptr 3 0]∧σ'=[none,some (.row 3 1 L.length (intsP L)),some (.cells 147 [.pin ys 0]),some (.cells 37 [.own 1])]):=by
 refine canS_of Tryz.func128 rfl Tryz.ntmps128 rfl ?_
 refine W_rs ?_
 refine WR_l (l_box (xs:=[_]) rfl rfl rfl) rfl<|WR_l (l_box (xs:=[_]) rfl rfl rfl) rfl<|WR_a 1 rfl<|WR_k [2,3] rfl ?_
 refine W_cs (.a 2 rfl<|.k [4] rfl) ?_
 refine W_ret ?_
 exact⟨_,ResL.of rfl,rfl,rfl⟩
noncomputable def regN (k:Nat):Code→Option Code
 | .region i ops d=>if i=k then some (.region i ops d) else none
 | .seq x y=>(regN k x).orElse fun _=>regN k y
 | .cond _ x y=>(regN k x).orElse fun _=>regN k y
 | .block _ x=>regN k x
 | .loop x=>regN k x
 |_=>none
noncomputable def bodyC (f:Func):Code:=f.body.getD .skip
def sixK (ys:List PV) (pre:List Int) (a:Int) (l:Nat) (s:St):Prop:=
 s.σ=[none,some (.row 3 1 (pre++[a]).length (intsP (pre++[a]))),some (.cells 147 [.pin ys 0]),some (.cells 37 [.own 1])]∧Sub s.t [(3,.pin [.raw (.func (.yield l) #[] #[])] 0),(30,num ([a]:List Int).length),(31,num 0),(48,.func 165 [.ptr 2 0,.ptr 3 0])]
noncomputable def sixC:Code:=(regN 6 (bodyC Tryz.f165)).getD .skip
set_option maxRecDepth 100000 in
set_option maxHeartbeats 8000000 in
theorem six_can (ys:List PV) [IsPureL ys] (pre:List Int) (a:Int) (l n:Nat) (o:Out) (c:Int) (hpl:pre.length+1≤1000):
  W Tryz.prog 55 0 sixC ⟨[(1,.pin [.pin (plcP n o [.pin ys 0] c) 0] 0),(2,.pin [intsV pre] 0),(3,.pin [.raw (.func (.yield l) #[] #[])] 0),(4,num 0),(5,num a),(30,num ([a]:List Int).length),(31,num 0)],[]⟩ (onlyK (sixK ys pre a l)):=by
 have hic:=icloneF_can pre (by omega) []
 have hbr:=branches_can ys (pre++[a])
 refine W_orders mixed ?_
 ·refine W_sets [[(1,.pin [.pin (plcP n o [.pin ys 0] c) 0] 0),(2,.pin [intsV pre] 0),(3,.pin [.raw (.func (.yield l) #[] #[])] 0),(4,num 0),(5,num a),(30,num ([a]:List Int).length),(31,num 0),(36,.pin (plcP n o [.pin ys 0] c) 0),(37,.pin (plcP n o [.pin ys 0] c) 0),(38,.pin (plcP n o [.pin ys 0] c) 3),(39,.slice 1 [.pin ys 0]),(40,num 0),(41,.pin [.pin ys 0] 0),(42,.pin ys 0),(43,intsV pre),(44,.own 0),(45,num a),(46,.slice 1 [num a]),(47,.own 1),(48,.func 165 [.ptr 2 0,.ptr 3 0])]] [[],[some (.row 3 1 pre.length (intsP pre))],[none,some (.row 3 1 (pre++[a]).length (intsP (pre++[a])))],[none,some (.row 3 1 (pre++[a]).length (intsP (pre++[a]))),some (.cells 147 [.pin ys 0]),some (.cells 37 [.own 1])]] [1,2,3,4,5,30,31] rfl (by kernel_rfl) (fun M hi ho=>?_)
  have μ0:M 0 8191 0 [3,30,31,48] 3:=hi<|WZ_end rfl (by kernel_rfl) (⟨rfl,keepT_sub (ks:=[3,30,31,48]) rfl⟩)
  have μ1:M 1 4095 0 [3,30,31,42,47] 2:=hi<|WZ_step [(12,8191)] rfl (by kernel_rfl)<|WZ_c rfl rfl rfl rfl hbr (ho μ0) rfl rfl WZ_nil
  have μ2:M 2 2047 0 [3,30,31,42,44,46] 1:=hi<|WZ_step [(11,4095)] rfl (by kernel_rfl)<|WZ_l rfl rfl (Loud.to (σ:=[some (.row 3 1 pre.length (intsP pre))]) (p':=.own 1) (σ'':=[none,some (.row 3 1 (pre++[a]).length (intsP (pre++[a])))]) (l_append (e:=3) (s:=1) (by':=8) (i:=0) (m:=1) (n:=pre.length) (xs:=intsP pre) (ys:=[num a]) rfl (fok.rk.get rfl) rfl rfl rfl rfl ⟨by unfold maxLen;omega,by omega⟩) rfl (by rw[List.length_append,←intsP_append];rfl)) rfl (ho μ1) rfl rfl WZ_nil
  have μ3:M 3 1023 0 [3,30,31,42,44,45] 1:=hi<|WZ_step [(10,2047)] rfl (by kernel_rfl)<|WZ_v rfl rfl (y_buildSlice (xs:=[num a]) rfl (fok.sl.get rfl) ⟨Nat.le_of_ble_eq_true rfl,Nat.le_of_ble_eq_true rfl⟩ rfl rfl) rfl (ho μ2) rfl rfl WZ_nil
  have μ4:M 4 511 0 [3,5,30,31,42,44] 1:=hi<|WZ_step [(9,1023)] rfl (by kernel_rfl)<|WZ_a (ho μ3) rfl rfl WZ_nil
  have μ5:M 3 1791 0 [3,30,31,42,43,46] 0:=hi<|WZ_step [(8,2047)] rfl (by kernel_rfl)<|WZ_c rfl rfl rfl rfl hic (ho μ2) rfl rfl WZ_nil
  have μ6:M 4 767 0 [3,30,31,42,43,45] 0:=hi<|WZ_step [(8,1023),(10,1791)] rfl (by kernel_rfl)<|WZ_c rfl rfl rfl rfl hic (ho μ3) rfl rfl<|WZ_v rfl rfl (y_buildSlice (xs:=[num a]) rfl (fok.sl.get rfl) ⟨Nat.le_of_ble_eq_true rfl,Nat.le_of_ble_eq_true rfl⟩ rfl rfl) rfl (ho μ5) rfl rfl WZ_nil
  have μ7:M 5 255 0 [3,5,30,31,42,43] 0:=hi<|WZ_step [(8,511),(9,767)] rfl (by kernel_rfl)<|WZ_c rfl rfl rfl rfl hic (ho μ4) rfl rfl<|WZ_a (ho μ6) rfl rfl WZ_nil
  have μ8:M 4 1663 0 [2,3,30,31,42,46] 0:=hi<|WZ_step [(7,1791)] rfl (by kernel_rfl)<|WZ_a (ho μ5) rfl rfl WZ_nil
  have μ9:M 5 639 0 [2,3,30,31,42,45] 0:=hi<|WZ_step [(7,767),(10,1663)] rfl (by kernel_rfl)<|WZ_a (ho μ6) rfl rfl<|WZ_v rfl rfl (y_buildSlice (xs:=[num a]) rfl (fok.sl.get rfl) ⟨Nat.le_of_ble_eq_true rfl,Nat.le_of_ble_eq_true rfl⟩ rfl rfl) rfl (ho μ8) rfl rfl WZ_nil
  have μ10:M 6 127 0 [2,3,5,30,31,42] 0:=hi<|WZ_step [(7,255),(9,639)] rfl (by kernel_rfl)<|WZ_a (ho μ7) rfl rfl<|WZ_a (ho μ9) rfl rfl WZ_nil
  have μ11:M 2 4031 0 [3,30,31,41,47] 2:=hi<|WZ_step [(6,4095)] rfl (by kernel_rfl)<|WZ_v rfl rfl (y_ld rfl ((rfl:([PV.pin ys 0]:List PV)[0]? =some (.pin ys 0)))) rfl (ho μ1) rfl rfl WZ_nil
  have μ12:M 3 1983 0 [3,30,31,41,44,46] 1:=hi<|WZ_step [(6,2047),(11,4031)] rfl (by kernel_rfl)<|WZ_v rfl rfl (y_ld rfl ((rfl:([PV.pin ys 0]:List PV)[0]? =some (.pin ys 0)))) rfl (ho μ2) rfl rfl<|WZ_l rfl rfl (Loud.to (σ:=[some (.row 3 1 pre.length (intsP pre))]) (p':=.own 1) (σ'':=[none,some (.row 3 1 (pre++[a]).length (intsP (pre++[a])))]) (l_append (e:=3) (s:=1) (by':=8) (i:=0) (m:=1) (n:=pre.length) (xs:=intsP pre) (ys:=[num a]) rfl (fok.rk.get rfl) rfl rfl rfl rfl ⟨by unfold maxLen;omega,by omega⟩) rfl (by rw[List.length_append,←intsP_append];rfl)) rfl (ho μ11) rfl rfl WZ_nil
  have μ13:M 4 959 0 [3,30,31,41,44,45] 1:=hi<|WZ_step [(6,1023),(10,1983)] rfl (by kernel_rfl)<|WZ_v rfl rfl (y_ld rfl ((rfl:([PV.pin ys 0]:List PV)[0]? =some (.pin ys 0)))) rfl (ho μ3) rfl rfl<|WZ_v rfl rfl (y_buildSlice (xs:=[num a]) rfl (fok.sl.get rfl) ⟨Nat.le_of_ble_eq_true rfl,Nat.le_of_ble_eq_true rfl⟩ rfl rfl) rfl (ho μ12) rfl rfl WZ_nil
  have μ14:M 5 447 0 [3,5,30,31,41,44] 1:=hi<|WZ_step [(6,511),(9,959)] rfl (by kernel_rfl)<|WZ_v rfl rfl (y_ld rfl ((rfl:([PV.pin ys 0]:List PV)[0]? =some (.pin ys 0)))) rfl (ho μ4) rfl rfl<|WZ_a (ho μ13) rfl rfl WZ_nil
  have μ15:M 4 1727 0 [3,30,31,41,43,46] 0:=hi<|WZ_step [(6,1791),(8,1983)] rfl (by kernel_rfl)<|WZ_v rfl rfl (y_ld rfl ((rfl:([PV.pin ys 0]:List PV)[0]? =some (.pin ys 0)))) rfl (ho μ5) rfl rfl<|WZ_c rfl rfl rfl rfl hic (ho μ12) rfl rfl WZ_nil
  have μ16:M 5 703 0 [3,30,31,41,43,45] 0:=hi<|WZ_step [(6,767),(8,959),(10,1727)] rfl (by kernel_rfl)<|WZ_v rfl rfl (y_ld rfl ((rfl:([PV.pin ys 0]:List PV)[0]? =some (.pin ys 0)))) rfl (ho μ6) rfl rfl<|WZ_c rfl rfl rfl rfl hic (ho μ13) rfl rfl<|WZ_v rfl rfl (y_buildSlice (xs:=[num a]) rfl (fok.sl.get rfl) ⟨Nat.le_of_ble_eq_true rfl,Nat.le_of_ble_eq_true rfl⟩ rfl rfl) rfl (ho μ15) rfl rfl WZ_nil
  have μ17:M 6 191 0 [3,5,30,31,41,43] 0:=hi<|WZ_step [(6,255),(8,447),(9,703)] rfl (by kernel_rfl)<|WZ_v rfl rfl (y_ld rfl ((rfl:([PV.pin ys 0]:List PV)[0]? =some (.pin ys 0)))) rfl (ho μ7) rfl rfl<|WZ_c rfl rfl rfl rfl hic (ho μ14) rfl rfl<|WZ_a (ho μ16) rfl rfl WZ_nil
  have μ18:M 5 1599 0 [2,3,30,31,41,46] 0:=hi<|WZ_step [(6,1663),(7,1727)] rfl (by kernel_rfl)<|WZ_v rfl rfl (y_ld rfl ((rfl:([PV.pin ys 0]:List PV)[0]? =some (.pin ys 0)))) rfl (ho μ8) rfl rfl<|WZ_a (ho μ15) rfl rfl WZ_nil
  have μ19:M 6 575 0 [2,3,30,31,41,45] 0:=hi<|WZ_step [(6,639),(7,703),(10,1599)] rfl (by kernel_rfl)<|WZ_v rfl rfl (y_ld rfl ((rfl:([PV.pin ys 0]:List PV)[0]? =some (.pin ys 0)))) rfl (ho μ9) rfl rfl<|WZ_a (ho μ16) rfl rfl<|WZ_v rfl rfl (y_buildSlice (xs:=[num a]) rfl (fok.sl.get rfl) ⟨Nat.le_of_ble_eq_true rfl,Nat.le_of_ble_eq_true rfl⟩ rfl rfl) rfl (ho μ18) rfl rfl WZ_nil
  have μ20:M 7 63 0 [2,3,5,30,31,41] 0:=hi<|WZ_step [(6,127),(7,191),(9,575)] rfl (by kernel_rfl)<|WZ_v rfl rfl (y_ld rfl ((rfl:([PV.pin ys 0]:List PV)[0]? =some (.pin ys 0)))) rfl (ho μ10) rfl rfl<|WZ_a (ho μ17) rfl rfl<|WZ_a (ho μ19) rfl rfl WZ_nil
  have μ21:M 3 3999 0 [3,30,31,39,40,47] 2:=hi<|WZ_step [(5,4031)] rfl (by kernel_rfl)<|WZ_v rfl rfl (y_ix (0) rfl (by simp) (by simp)) rfl (ho μ11) rfl rfl WZ_nil
  have μ22:M 4 1951 0 [3,30,31,39,40,44,46] 1:=hi<|WZ_step [(5,1983),(11,3999)] rfl (by kernel_rfl)<|WZ_v rfl rfl (y_ix (0) rfl (by simp) (by simp)) rfl (ho μ12) rfl rfl<|WZ_l rfl rfl (Loud.to (σ:=[some (.row 3 1 pre.length (intsP pre))]) (p':=.own 1) (σ'':=[none,some (.row 3 1 (pre++[a]).length (intsP (pre++[a])))]) (l_append (e:=3) (s:=1) (by':=8) (i:=0) (m:=1) (n:=pre.length) (xs:=intsP pre) (ys:=[num a]) rfl (fok.rk.get rfl) rfl rfl rfl rfl ⟨by unfold maxLen;omega,by omega⟩) rfl (by rw[List.length_append,←intsP_append];rfl)) rfl (ho μ21) rfl rfl WZ_nil
  have μ23:M 5 927 0 [3,30,31,39,40,44,45] 1:=hi<|WZ_step [(5,959),(10,1951)] rfl (by kernel_rfl)<|WZ_v rfl rfl (y_ix (0) rfl (by simp) (by simp)) rfl (ho μ13) rfl rfl<|WZ_v rfl rfl (y_buildSlice (xs:=[num a]) rfl (fok.sl.get rfl) ⟨Nat.le_of_ble_eq_true rfl,Nat.le_of_ble_eq_true rfl⟩ rfl rfl) rfl (ho μ22) rfl rfl WZ_nil
  have μ24:M 6 415 0 [3,5,30,31,39,40,44] 1:=hi<|WZ_step [(5,447),(9,927)] rfl (by kernel_rfl)<|WZ_v rfl rfl (y_ix (0) rfl (by simp) (by simp)) rfl (ho μ14) rfl rfl<|WZ_a (ho μ23) rfl rfl WZ_nil
  have μ25:M 5 1695 0 [3,30,31,39,40,43,46] 0:=hi<|WZ_step [(5,1727),(8,1951)] rfl (by kernel_rfl)<|WZ_v rfl rfl (y_ix (0) rfl (by simp) (by simp)) rfl (ho μ15) rfl rfl<|WZ_c rfl rfl rfl rfl hic (ho μ22) rfl rfl WZ_nil
  have μ26:M 6 671 0 [3,30,31,39,40,43,45] 0:=hi<|WZ_step [(5,703),(8,927),(10,1695)] rfl (by kernel_rfl)<|WZ_v rfl rfl (y_ix (0) rfl (by simp) (by simp)) rfl (ho μ16) rfl rfl<|WZ_c rfl rfl rfl rfl hic (ho μ23) rfl rfl<|WZ_v rfl rfl (y_buildSlice (xs:=[num a]) rfl (fok.sl.get rfl) ⟨Nat.le_of_ble_eq_true rfl,Nat.le_of_ble_eq_true rfl⟩ rfl rfl) rfl (ho μ25) rfl rfl WZ_nil
  have μ27:M 7 159 0 [3,5,30,31,39,40,43] 0:=hi<|WZ_step [(5,191),(8,415),(9,671)] rfl (by kernel_rfl)<|WZ_v rfl rfl (y_ix (0) rfl (by simp) (by simp)) rfl (ho μ17) rfl rfl<|WZ_c rfl rfl rfl rfl hic (ho μ24) rfl rfl<|WZ_a (ho μ26) rfl rfl WZ_nil
  have μ28:M 6 1567 0 [2,3,30,31,39,40,46] 0:=hi<|WZ_step [(5,1599),(7,1695)] rfl (by kernel_rfl)<|WZ_v rfl rfl (y_ix (0) rfl (by simp) (by simp)) rfl (ho μ18) rfl rfl<|WZ_a (ho μ25) rfl rfl WZ_nil
  have μ29:M 7 543 0 [2,3,30,31,39,40,45] 0:=hi<|WZ_step [(5,575),(7,671),(10,1567)] rfl (by kernel_rfl)<|WZ_v rfl rfl (y_ix (0) rfl (by simp) (by simp)) rfl (ho μ19) rfl rfl<|WZ_a (ho μ26) rfl rfl<|WZ_v rfl rfl (y_buildSlice (xs:=[num a]) rfl (fok.sl.get rfl) ⟨Nat.le_of_ble_eq_true rfl,Nat.le_of_ble_eq_true rfl⟩ rfl rfl) rfl (ho μ28) rfl rfl WZ_nil
  have μ30:M 8 31 0 [2,3,5,30,31,39,40] 0:=hi<|WZ_step [(5,63),(7,159),(9,543)] rfl (by kernel_rfl)<|WZ_v rfl rfl (y_ix (0) rfl (by simp) (by simp)) rfl (ho μ20) rfl rfl<|WZ_a (ho μ27) rfl rfl<|WZ_a (ho μ29) rfl rfl WZ_nil
  have μ31:M 4 3983 0 [3,4,30,31,39,47] 2:=hi<|WZ_step [(4,3999)] rfl (by kernel_rfl)<|WZ_a (ho μ21) rfl rfl WZ_nil
  have μ32:M 5 1935 0 [3,4,30,31,39,44,46] 1:=hi<|WZ_step [(4,1951),(11,3983)] rfl (by kernel_rfl)<|WZ_a (ho μ22) rfl rfl<|WZ_l rfl rfl (Loud.to (σ:=[some (.row 3 1 pre.length (intsP pre))]) (p':=.own 1) (σ'':=[none,some (.row 3 1 (pre++[a]).length (intsP (pre++[a])))]) (l_append (e:=3) (s:=1) (by':=8) (i:=0) (m:=1) (n:=pre.length) (xs:=intsP pre) (ys:=[num a]) rfl (fok.rk.get rfl) rfl rfl rfl rfl ⟨by unfold maxLen;omega,by omega⟩) rfl (by rw[List.length_append,←intsP_append];rfl)) rfl (ho μ31) rfl rfl WZ_nil
  have μ33:M 6 911 0 [3,4,30,31,39,44,45] 1:=hi<|WZ_step [(4,927),(10,1935)] rfl (by kernel_rfl)<|WZ_a (ho μ23) rfl rfl<|WZ_v rfl rfl (y_buildSlice (xs:=[num a]) rfl (fok.sl.get rfl) ⟨Nat.le_of_ble_eq_true rfl,Nat.le_of_ble_eq_true rfl⟩ rfl rfl) rfl (ho μ32) rfl rfl WZ_nil
  have μ34:M 7 399 0 [3,4,5,30,31,39,44] 1:=hi<|WZ_step [(4,415),(9,911)] rfl (by kernel_rfl)<|WZ_a (ho μ24) rfl rfl<|WZ_a (ho μ33) rfl rfl WZ_nil
  have μ35:M 6 1679 0 [3,4,30,31,39,43,46] 0:=hi<|WZ_step [(4,1695),(8,1935)] rfl (by kernel_rfl)<|WZ_a (ho μ25) rfl rfl<|WZ_c rfl rfl rfl rfl hic (ho μ32) rfl rfl WZ_nil
  have μ36:M 7 655 0 [3,4,30,31,39,43,45] 0:=hi<|WZ_step [(4,671),(8,911),(10,1679)] rfl (by kernel_rfl)<|WZ_a (ho μ26) rfl rfl<|WZ_c rfl rfl rfl rfl hic (ho μ33) rfl rfl<|WZ_v rfl rfl (y_buildSlice (xs:=[num a]) rfl (fok.sl.get rfl) ⟨Nat.le_of_ble_eq_true rfl,Nat.le_of_ble_eq_true rfl⟩ rfl rfl) rfl (ho μ35) rfl rfl WZ_nil
  have μ37:M 8 143 0 [3,4,5,30,31,39,43] 0:=hi<|WZ_step [(4,159),(8,399),(9,655)] rfl (by kernel_rfl)<|WZ_a (ho μ27) rfl rfl<|WZ_c rfl rfl rfl rfl hic (ho μ34) rfl rfl<|WZ_a (ho μ36) rfl rfl WZ_nil
  have μ38:M 7 1551 0 [2,3,4,30,31,39,46] 0:=hi<|WZ_step [(4,1567),(7,1679)] rfl (by kernel_rfl)<|WZ_a (ho μ28) rfl rfl<|WZ_a (ho μ35) rfl rfl WZ_nil
  have μ39:M 8 527 0 [2,3,4,30,31,39,45] 0:=hi<|WZ_step [(4,543),(7,655),(10,1551)] rfl (by kernel_rfl)<|WZ_a (ho μ29) rfl rfl<|WZ_a (ho μ36) rfl rfl<|WZ_v rfl rfl (y_buildSlice (xs:=[num a]) rfl (fok.sl.get rfl) ⟨Nat.le_of_ble_eq_true rfl,Nat.le_of_ble_eq_true rfl⟩ rfl rfl) rfl (ho μ38) rfl rfl WZ_nil
  have μ40:M 9 15 0 [2,3,4,5,30,31,39] 0:=hi<|WZ_step [(4,31),(7,143),(9,527)] rfl (by kernel_rfl)<|WZ_a (ho μ30) rfl rfl<|WZ_a (ho μ37) rfl rfl<|WZ_a (ho μ39) rfl rfl WZ_nil
  have μ41:M 4 3991 0 [3,30,31,38,40,47] 2:=hi<|WZ_step [(3,3999)] rfl (by kernel_rfl)<|WZ_a (ho μ21) rfl rfl WZ_nil
  have μ42:M 5 1943 0 [3,30,31,38,40,44,46] 1:=hi<|WZ_step [(3,1951),(11,3991)] rfl (by kernel_rfl)<|WZ_a (ho μ22) rfl rfl<|WZ_l rfl rfl (Loud.to (σ:=[some (.row 3 1 pre.length (intsP pre))]) (p':=.own 1) (σ'':=[none,some (.row 3 1 (pre++[a]).length (intsP (pre++[a])))]) (l_append (e:=3) (s:=1) (by':=8) (i:=0) (m:=1) (n:=pre.length) (xs:=intsP pre) (ys:=[num a]) rfl (fok.rk.get rfl) rfl rfl rfl rfl ⟨by unfold maxLen;omega,by omega⟩) rfl (by rw[List.length_append,←intsP_append];rfl)) rfl (ho μ41) rfl rfl WZ_nil
  have μ43:M 6 919 0 [3,30,31,38,40,44,45] 1:=hi<|WZ_step [(3,927),(10,1943)] rfl (by kernel_rfl)<|WZ_a (ho μ23) rfl rfl<|WZ_v rfl rfl (y_buildSlice (xs:=[num a]) rfl (fok.sl.get rfl) ⟨Nat.le_of_ble_eq_true rfl,Nat.le_of_ble_eq_true rfl⟩ rfl rfl) rfl (ho μ42) rfl rfl WZ_nil
  have μ44:M 7 407 0 [3,5,30,31,38,40,44] 1:=hi<|WZ_step [(3,415),(9,919)] rfl (by kernel_rfl)<|WZ_a (ho μ24) rfl rfl<|WZ_a (ho μ43) rfl rfl WZ_nil
  have μ45:M 6 1687 0 [3,30,31,38,40,43,46] 0:=hi<|WZ_step [(3,1695),(8,1943)] rfl (by kernel_rfl)<|WZ_a (ho μ25) rfl rfl<|WZ_c rfl rfl rfl rfl hic (ho μ42) rfl rfl WZ_nil
  have μ46:M 7 663 0 [3,30,31,38,40,43,45] 0:=hi<|WZ_step [(3,671),(8,919),(10,1687)] rfl (by kernel_rfl)<|WZ_a (ho μ26) rfl rfl<|WZ_c rfl rfl rfl rfl hic (ho μ43) rfl rfl<|WZ_v rfl rfl (y_buildSlice (xs:=[num a]) rfl (fok.sl.get rfl) ⟨Nat.le_of_ble_eq_true rfl,Nat.le_of_ble_eq_true rfl⟩ rfl rfl) rfl (ho μ45) rfl rfl WZ_nil
  have μ47:M 8 151 0 [3,5,30,31,38,40,43] 0:=hi<|WZ_step [(3,159),(8,407),(9,663)] rfl (by kernel_rfl)<|WZ_a (ho μ27) rfl rfl<|WZ_c rfl rfl rfl rfl hic (ho μ44) rfl rfl<|WZ_a (ho μ46) rfl rfl WZ_nil
  have μ48:M 7 1559 0 [2,3,30,31,38,40,46] 0:=hi<|WZ_step [(3,1567),(7,1687)] rfl (by kernel_rfl)<|WZ_a (ho μ28) rfl rfl<|WZ_a (ho μ45) rfl rfl WZ_nil
  have μ49:M 8 535 0 [2,3,30,31,38,40,45] 0:=hi<|WZ_step [(3,543),(7,663),(10,1559)] rfl (by kernel_rfl)<|WZ_a (ho μ29) rfl rfl<|WZ_a (ho μ46) rfl rfl<|WZ_v rfl rfl (y_buildSlice (xs:=[num a]) rfl (fok.sl.get rfl) ⟨Nat.le_of_ble_eq_true rfl,Nat.le_of_ble_eq_true rfl⟩ rfl rfl) rfl (ho μ48) rfl rfl WZ_nil
  have μ50:M 9 23 0 [2,3,5,30,31,38,40] 0:=hi<|WZ_step [(3,31),(7,151),(9,535)] rfl (by kernel_rfl)<|WZ_a (ho μ30) rfl rfl<|WZ_a (ho μ47) rfl rfl<|WZ_a (ho μ49) rfl rfl WZ_nil
  have μ51:M 5 3975 0 [3,4,30,31,38,47] 2:=hi<|WZ_step [(3,3983),(4,3991)] rfl (by kernel_rfl)<|WZ_a (ho μ31) rfl rfl<|WZ_a (ho μ41) rfl rfl WZ_nil
  have μ52:M 6 1927 0 [3,4,30,31,38,44,46] 1:=hi<|WZ_step [(3,1935),(4,1943),(11,3975)] rfl (by kernel_rfl)<|WZ_a (ho μ32) rfl rfl<|WZ_a (ho μ42) rfl rfl<|WZ_l rfl rfl (Loud.to (σ:=[some (.row 3 1 pre.length (intsP pre))]) (p':=.own 1) (σ'':=[none,some (.row 3 1 (pre++[a]).length (intsP (pre++[a])))]) (l_append (e:=3) (s:=1) (by':=8) (i:=0) (m:=1) (n:=pre.length) (xs:=intsP pre) (ys:=[num a]) rfl (fok.rk.get rfl) rfl rfl rfl rfl ⟨by unfold maxLen;omega,by omega⟩) rfl (by rw[List.length_append,←intsP_append];rfl)) rfl (ho μ51) rfl rfl WZ_nil
  have μ53:M 7 903 0 [3,4,30,31,38,44,45] 1:=hi<|WZ_step [(3,911),(4,919),(10,1927)] rfl (by kernel_rfl)<|WZ_a (ho μ33) rfl rfl<|WZ_a (ho μ43) rfl rfl<|WZ_v rfl rfl (y_buildSlice (xs:=[num a]) rfl (fok.sl.get rfl) ⟨Nat.le_of_ble_eq_true rfl,Nat.le_of_ble_eq_true rfl⟩ rfl rfl) rfl (ho μ52) rfl rfl WZ_nil
  have μ54:M 8 391 0 [3,4,5,30,31,38,44] 1:=hi<|WZ_step [(3,399),(4,407),(9,903)] rfl (by kernel_rfl)<|WZ_a (ho μ34) rfl rfl<|WZ_a (ho μ44) rfl rfl<|WZ_a (ho μ53) rfl rfl WZ_nil
  have μ55:M 7 1671 0 [3,4,30,31,38,43,46] 0:=hi<|WZ_step [(3,1679),(4,1687),(8,1927)] rfl (by kernel_rfl)<|WZ_a (ho μ35) rfl rfl<|WZ_a (ho μ45) rfl rfl<|WZ_c rfl rfl rfl rfl hic (ho μ52) rfl rfl WZ_nil
  have μ56:M 8 647 0 [3,4,30,31,38,43,45] 0:=hi<|WZ_step [(3,655),(4,663),(8,903),(10,1671)] rfl (by kernel_rfl)<|WZ_a (ho μ36) rfl rfl<|WZ_a (ho μ46) rfl rfl<|WZ_c rfl rfl rfl rfl hic (ho μ53) rfl rfl<|WZ_v rfl rfl (y_buildSlice (xs:=[num a]) rfl (fok.sl.get rfl) ⟨Nat.le_of_ble_eq_true rfl,Nat.le_of_ble_eq_true rfl⟩ rfl rfl) rfl (ho μ55) rfl rfl WZ_nil
  have μ57:M 9 135 0 [3,4,5,30,31,38,43] 0:=hi<|WZ_step [(3,143),(4,151),(8,391),(9,647)] rfl (by kernel_rfl)<|WZ_a (ho μ37) rfl rfl<|WZ_a (ho μ47) rfl rfl<|WZ_c rfl rfl rfl rfl hic (ho μ54) rfl rfl<|WZ_a (ho μ56) rfl rfl WZ_nil
  have μ58:M 8 1543 0 [2,3,4,30,31,38,46] 0:=hi<|WZ_step [(3,1551),(4,1559),(7,1671)] rfl (by kernel_rfl)<|WZ_a (ho μ38) rfl rfl<|WZ_a (ho μ48) rfl rfl<|WZ_a (ho μ55) rfl rfl WZ_nil
  have μ59:M 9 519 0 [2,3,4,30,31,38,45] 0:=hi<|WZ_step [(3,527),(4,535),(7,647),(10,1543)] rfl (by kernel_rfl)<|WZ_a (ho μ39) rfl rfl<|WZ_a (ho μ49) rfl rfl<|WZ_a (ho μ56) rfl rfl<|WZ_v rfl rfl (y_buildSlice (xs:=[num a]) rfl (fok.sl.get rfl) ⟨Nat.le_of_ble_eq_true rfl,Nat.le_of_ble_eq_true rfl⟩ rfl rfl) rfl (ho μ58) rfl rfl WZ_nil
  have μ60:M 10 7 0 [2,3,4,5,30,31,38] 0:=hi<|WZ_step [(3,15),(4,23),(7,135),(9,519)] rfl (by kernel_rfl)<|WZ_a (ho μ40) rfl rfl<|WZ_a (ho μ50) rfl rfl<|WZ_a (ho μ57) rfl rfl<|WZ_a (ho μ59) rfl rfl WZ_nil
  have μ61:M 5 3987 0 [3,30,31,37,40,47] 2:=hi<|WZ_step [(2,3991)] rfl (by kernel_rfl)<|WZ_a (ho μ41) rfl rfl WZ_nil
  have μ62:M 6 1939 0 [3,30,31,37,40,44,46] 1:=hi<|WZ_step [(2,1943),(11,3987)] rfl (by kernel_rfl)<|WZ_a (ho μ42) rfl rfl<|WZ_l rfl rfl (Loud.to (σ:=[some (.row 3 1 pre.length (intsP pre))]) (p':=.own 1) (σ'':=[none,some (.row 3 1 (pre++[a]).length (intsP (pre++[a])))]) (l_append (e:=3) (s:=1) (by':=8) (i:=0) (m:=1) (n:=pre.length) (xs:=intsP pre) (ys:=[num a]) rfl (fok.rk.get rfl) rfl rfl rfl rfl ⟨by unfold maxLen;omega,by omega⟩) rfl (by rw[List.length_append,←intsP_append];rfl)) rfl (ho μ61) rfl rfl WZ_nil
  have μ63:M 7 915 0 [3,30,31,37,40,44,45] 1:=hi<|WZ_step [(2,919),(10,1939)] rfl (by kernel_rfl)<|WZ_a (ho μ43) rfl rfl<|WZ_v rfl rfl (y_buildSlice (xs:=[num a]) rfl (fok.sl.get rfl) ⟨Nat.le_of_ble_eq_true rfl,Nat.le_of_ble_eq_true rfl⟩ rfl rfl) rfl (ho μ62) rfl rfl WZ_nil
  have μ64:M 8 403 0 [3,5,30,31,37,40,44] 1:=hi<|WZ_step [(2,407),(9,915)] rfl (by kernel_rfl)<|WZ_a (ho μ44) rfl rfl<|WZ_a (ho μ63) rfl rfl WZ_nil
  have μ65:M 7 1683 0 [3,30,31,37,40,43,46] 0:=hi<|WZ_step [(2,1687),(8,1939)] rfl (by kernel_rfl)<|WZ_a (ho μ45) rfl rfl<|WZ_c rfl rfl rfl rfl hic (ho μ62) rfl rfl WZ_nil
  have μ66:M 8 659 0 [3,30,31,37,40,43,45] 0:=hi<|WZ_step [(2,663),(8,915),(10,1683)] rfl (by kernel_rfl)<|WZ_a (ho μ46) rfl rfl<|WZ_c rfl rfl rfl rfl hic (ho μ63) rfl rfl<|WZ_v rfl rfl (y_buildSlice (xs:=[num a]) rfl (fok.sl.get rfl) ⟨Nat.le_of_ble_eq_true rfl,Nat.le_of_ble_eq_true rfl⟩ rfl rfl) rfl (ho μ65) rfl rfl WZ_nil
  have μ67:M 9 147 0 [3,5,30,31,37,40,43] 0:=hi<|WZ_step [(2,151),(8,403),(9,659)] rfl (by kernel_rfl)<|WZ_a (ho μ47) rfl rfl<|WZ_c rfl rfl rfl rfl hic (ho μ64) rfl rfl<|WZ_a (ho μ66) rfl rfl WZ_nil
  have μ68:M 8 1555 0 [2,3,30,31,37,40,46] 0:=hi<|WZ_step [(2,1559),(7,1683)] rfl (by kernel_rfl)<|WZ_a (ho μ48) rfl rfl<|WZ_a (ho μ65) rfl rfl WZ_nil
  have μ69:M 9 531 0 [2,3,30,31,37,40,45] 0:=hi<|WZ_step [(2,535),(7,659),(10,1555)] rfl (by kernel_rfl)<|WZ_a (ho μ49) rfl rfl<|WZ_a (ho μ66) rfl rfl<|WZ_v rfl rfl (y_buildSlice (xs:=[num a]) rfl (fok.sl.get rfl) ⟨Nat.le_of_ble_eq_true rfl,Nat.le_of_ble_eq_true rfl⟩ rfl rfl) rfl (ho μ68) rfl rfl WZ_nil
  have μ70:M 10 19 0 [2,3,5,30,31,37,40] 0:=hi<|WZ_step [(2,23),(7,147),(9,531)] rfl (by kernel_rfl)<|WZ_a (ho μ50) rfl rfl<|WZ_a (ho μ67) rfl rfl<|WZ_a (ho μ69) rfl rfl WZ_nil
  have μ71:M 6 3971 0 [3,4,30,31,37,47] 2:=hi<|WZ_step [(2,3975),(4,3987)] rfl (by kernel_rfl)<|WZ_a (ho μ51) rfl rfl<|WZ_a (ho μ61) rfl rfl WZ_nil
  have μ72:M 7 1923 0 [3,4,30,31,37,44,46] 1:=hi<|WZ_step [(2,1927),(4,1939),(11,3971)] rfl (by kernel_rfl)<|WZ_a (ho μ52) rfl rfl<|WZ_a (ho μ62) rfl rfl<|WZ_l rfl rfl (Loud.to (σ:=[some (.row 3 1 pre.length (intsP pre))]) (p':=.own 1) (σ'':=[none,some (.row 3 1 (pre++[a]).length (intsP (pre++[a])))]) (l_append (e:=3) (s:=1) (by':=8) (i:=0) (m:=1) (n:=pre.length) (xs:=intsP pre) (ys:=[num a]) rfl (fok.rk.get rfl) rfl rfl rfl rfl ⟨by unfold maxLen;omega,by omega⟩) rfl (by rw[List.length_append,←intsP_append];rfl)) rfl (ho μ71) rfl rfl WZ_nil
  have μ73:M 8 899 0 [3,4,30,31,37,44,45] 1:=hi<|WZ_step [(2,903),(4,915),(10,1923)] rfl (by kernel_rfl)<|WZ_a (ho μ53) rfl rfl<|WZ_a (ho μ63) rfl rfl<|WZ_v rfl rfl (y_buildSlice (xs:=[num a]) rfl (fok.sl.get rfl) ⟨Nat.le_of_ble_eq_true rfl,Nat.le_of_ble_eq_true rfl⟩ rfl rfl) rfl (ho μ72) rfl rfl WZ_nil
  have μ74:M 9 387 0 [3,4,5,30,31,37,44] 1:=hi<|WZ_step [(2,391),(4,403),(9,899)] rfl (by kernel_rfl)<|WZ_a (ho μ54) rfl rfl<|WZ_a (ho μ64) rfl rfl<|WZ_a (ho μ73) rfl rfl WZ_nil
  have μ75:M 8 1667 0 [3,4,30,31,37,43,46] 0:=hi<|WZ_step [(2,1671),(4,1683),(8,1923)] rfl (by kernel_rfl)<|WZ_a (ho μ55) rfl rfl<|WZ_a (ho μ65) rfl rfl<|WZ_c rfl rfl rfl rfl hic (ho μ72) rfl rfl WZ_nil
  have μ76:M 9 643 0 [3,4,30,31,37,43,45] 0:=hi<|WZ_step [(2,647),(4,659),(8,899),(10,1667)] rfl (by kernel_rfl)<|WZ_a (ho μ56) rfl rfl<|WZ_a (ho μ66) rfl rfl<|WZ_c rfl rfl rfl rfl hic (ho μ73) rfl rfl<|WZ_v rfl rfl (y_buildSlice (xs:=[num a]) rfl (fok.sl.get rfl) ⟨Nat.le_of_ble_eq_true rfl,Nat.le_of_ble_eq_true rfl⟩ rfl rfl) rfl (ho μ75) rfl rfl WZ_nil
  have μ77:M 10 131 0 [3,4,5,30,31,37,43] 0:=hi<|WZ_step [(2,135),(4,147),(8,387),(9,643)] rfl (by kernel_rfl)<|WZ_a (ho μ57) rfl rfl<|WZ_a (ho μ67) rfl rfl<|WZ_c rfl rfl rfl rfl hic (ho μ74) rfl rfl<|WZ_a (ho μ76) rfl rfl WZ_nil
  have μ78:M 9 1539 0 [2,3,4,30,31,37,46] 0:=hi<|WZ_step [(2,1543),(4,1555),(7,1667)] rfl (by kernel_rfl)<|WZ_a (ho μ58) rfl rfl<|WZ_a (ho μ68) rfl rfl<|WZ_a (ho μ75) rfl rfl WZ_nil
  have μ79:M 10 515 0 [2,3,4,30,31,37,45] 0:=hi<|WZ_step [(2,519),(4,531),(7,643),(10,1539)] rfl (by kernel_rfl)<|WZ_a (ho μ59) rfl rfl<|WZ_a (ho μ69) rfl rfl<|WZ_a (ho μ76) rfl rfl<|WZ_v rfl rfl (y_buildSlice (xs:=[num a]) rfl (fok.sl.get rfl) ⟨Nat.le_of_ble_eq_true rfl,Nat.le_of_ble_eq_true rfl⟩ rfl rfl) rfl (ho μ78) rfl rfl WZ_nil
  have μ80:M 11 3 0 [2,3,4,5,30,31,37] 0:=hi<|WZ_step [(2,7),(4,19),(7,131),(9,515)] rfl (by kernel_rfl)<|WZ_a (ho μ60) rfl rfl<|WZ_a (ho μ70) rfl rfl<|WZ_a (ho μ77) rfl rfl<|WZ_a (ho μ79) rfl rfl WZ_nil
  have μ81:M 6 3985 0 [3,30,31,36,40,47] 2:=hi<|WZ_step [(1,3987)] rfl (by kernel_rfl)<|WZ_a (ho μ61) rfl rfl WZ_nil
  have μ82:M 7 1937 0 [3,30,31,36,40,44,46] 1:=hi<|WZ_step [(1,1939),(11,3985)] rfl (by kernel_rfl)<|WZ_a (ho μ62) rfl rfl<|WZ_l rfl rfl (Loud.to (σ:=[some (.row 3 1 pre.length (intsP pre))]) (p':=.own 1) (σ'':=[none,some (.row 3 1 (pre++[a]).length (intsP (pre++[a])))]) (l_append (e:=3) (s:=1) (by':=8) (i:=0) (m:=1) (n:=pre.length) (xs:=intsP pre) (ys:=[num a]) rfl (fok.rk.get rfl) rfl rfl rfl rfl ⟨by unfold maxLen;omega,by omega⟩) rfl (by rw[List.length_append,←intsP_append];rfl)) rfl (ho μ81) rfl rfl WZ_nil
  have μ83:M 8 913 0 [3,30,31,36,40,44,45] 1:=hi<|WZ_step [(1,915),(10,1937)] rfl (by kernel_rfl)<|WZ_a (ho μ63) rfl rfl<|WZ_v rfl rfl (y_buildSlice (xs:=[num a]) rfl (fok.sl.get rfl) ⟨Nat.le_of_ble_eq_true rfl,Nat.le_of_ble_eq_true rfl⟩ rfl rfl) rfl (ho μ82) rfl rfl WZ_nil
  have μ84:M 9 401 0 [3,5,30,31,36,40,44] 1:=hi<|WZ_step [(1,403),(9,913)] rfl (by kernel_rfl)<|WZ_a (ho μ64) rfl rfl<|WZ_a (ho μ83) rfl rfl WZ_nil
  have μ85:M 8 1681 0 [3,30,31,36,40,43,46] 0:=hi<|WZ_step [(1,1683),(8,1937)] rfl (by kernel_rfl)<|WZ_a (ho μ65) rfl rfl<|WZ_c rfl rfl rfl rfl hic (ho μ82) rfl rfl WZ_nil
  have μ86:M 9 657 0 [3,30,31,36,40,43,45] 0:=hi<|WZ_step [(1,659),(8,913),(10,1681)] rfl (by kernel_rfl)<|WZ_a (ho μ66) rfl rfl<|WZ_c rfl rfl rfl rfl hic (ho μ83) rfl rfl<|WZ_v rfl rfl (y_buildSlice (xs:=[num a]) rfl (fok.sl.get rfl) ⟨Nat.le_of_ble_eq_true rfl,Nat.le_of_ble_eq_true rfl⟩ rfl rfl) rfl (ho μ85) rfl rfl WZ_nil
  have μ87:M 10 145 0 [3,5,30,31,36,40,43] 0:=hi<|WZ_step [(1,147),(8,401),(9,657)] rfl (by kernel_rfl)<|WZ_a (ho μ67) rfl rfl<|WZ_c rfl rfl rfl rfl hic (ho μ84) rfl rfl<|WZ_a (ho μ86) rfl rfl WZ_nil
  have μ88:M 9 1553 0 [2,3,30,31,36,40,46] 0:=hi<|WZ_step [(1,1555),(7,1681)] rfl (by kernel_rfl)<|WZ_a (ho μ68) rfl rfl<|WZ_a (ho μ85) rfl rfl WZ_nil
  have μ89:M 10 529 0 [2,3,30,31,36,40,45] 0:=hi<|WZ_step [(1,531),(7,657),(10,1553)] rfl (by kernel_rfl)<|WZ_a (ho μ69) rfl rfl<|WZ_a (ho μ86) rfl rfl<|WZ_v rfl rfl (y_buildSlice (xs:=[num a]) rfl (fok.sl.get rfl) ⟨Nat.le_of_ble_eq_true rfl,Nat.le_of_ble_eq_true rfl⟩ rfl rfl) rfl (ho μ88) rfl rfl WZ_nil
  have μ90:M 11 17 0 [2,3,5,30,31,36,40] 0:=hi<|WZ_step [(1,19),(7,145),(9,529)] rfl (by kernel_rfl)<|WZ_a (ho μ70) rfl rfl<|WZ_a (ho μ87) rfl rfl<|WZ_a (ho μ89) rfl rfl WZ_nil
  have μ91:M 7 3969 0 [3,4,30,31,36,47] 2:=hi<|WZ_step [(1,3971),(4,3985)] rfl (by kernel_rfl)<|WZ_a (ho μ71) rfl rfl<|WZ_a (ho μ81) rfl rfl WZ_nil
  have μ92:M 8 1921 0 [3,4,30,31,36,44,46] 1:=hi<|WZ_step [(1,1923),(4,1937),(11,3969)] rfl (by kernel_rfl)<|WZ_a (ho μ72) rfl rfl<|WZ_a (ho μ82) rfl rfl<|WZ_l rfl rfl (Loud.to (σ:=[some (.row 3 1 pre.length (intsP pre))]) (p':=.own 1) (σ'':=[none,some (.row 3 1 (pre++[a]).length (intsP (pre++[a])))]) (l_append (e:=3) (s:=1) (by':=8) (i:=0) (m:=1) (n:=pre.length) (xs:=intsP pre) (ys:=[num a]) rfl (fok.rk.get rfl) rfl rfl rfl rfl ⟨by unfold maxLen;omega,by omega⟩) rfl (by rw[List.length_append,←intsP_append];rfl)) rfl (ho μ91) rfl rfl WZ_nil
  have μ93:M 9 897 0 [3,4,30,31,36,44,45] 1:=hi<|WZ_step [(1,899),(4,913),(10,1921)] rfl (by kernel_rfl)<|WZ_a (ho μ73) rfl rfl<|WZ_a (ho μ83) rfl rfl<|WZ_v rfl rfl (y_buildSlice (xs:=[num a]) rfl (fok.sl.get rfl) ⟨Nat.le_of_ble_eq_true rfl,Nat.le_of_ble_eq_true rfl⟩ rfl rfl) rfl (ho μ92) rfl rfl WZ_nil
  have μ94:M 10 385 0 [3,4,5,30,31,36,44] 1:=hi<|WZ_step [(1,387),(4,401),(9,897)] rfl (by kernel_rfl)<|WZ_a (ho μ74) rfl rfl<|WZ_a (ho μ84) rfl rfl<|WZ_a (ho μ93) rfl rfl WZ_nil
  have μ95:M 9 1665 0 [3,4,30,31,36,43,46] 0:=hi<|WZ_step [(1,1667),(4,1681),(8,1921)] rfl (by kernel_rfl)<|WZ_a (ho μ75) rfl rfl<|WZ_a (ho μ85) rfl rfl<|WZ_c rfl rfl rfl rfl hic (ho μ92) rfl rfl WZ_nil
  have μ96:M 10 641 0 [3,4,30,31,36,43,45] 0:=hi<|WZ_step [(1,643),(4,657),(8,897),(10,1665)] rfl (by kernel_rfl)<|WZ_a (ho μ76) rfl rfl<|WZ_a (ho μ86) rfl rfl<|WZ_c rfl rfl rfl rfl hic (ho μ93) rfl rfl<|WZ_v rfl rfl (y_buildSlice (xs:=[num a]) rfl (fok.sl.get rfl) ⟨Nat.le_of_ble_eq_true rfl,Nat.le_of_ble_eq_true rfl⟩ rfl rfl) rfl (ho μ95) rfl rfl WZ_nil
  have μ97:M 11 129 0 [3,4,5,30,31,36,43] 0:=hi<|WZ_step [(1,131),(4,145),(8,385),(9,641)] rfl (by kernel_rfl)<|WZ_a (ho μ77) rfl rfl<|WZ_a (ho μ87) rfl rfl<|WZ_c rfl rfl rfl rfl hic (ho μ94) rfl rfl<|WZ_a (ho μ96) rfl rfl WZ_nil
  have μ98:M 10 1537 0 [2,3,4,30,31,36,46] 0:=hi<|WZ_step [(1,1539),(4,1553),(7,1665)] rfl (by kernel_rfl)<|WZ_a (ho μ78) rfl rfl<|WZ_a (ho μ88) rfl rfl<|WZ_a (ho μ95) rfl rfl WZ_nil
  have μ99:M 11 513 0 [2,3,4,30,31,36,45] 0:=hi<|WZ_step [(1,515),(4,529),(7,641),(10,1537)] rfl (by kernel_rfl)<|WZ_a (ho μ79) rfl rfl<|WZ_a (ho μ89) rfl rfl<|WZ_a (ho μ96) rfl rfl<|WZ_v rfl rfl (y_buildSlice (xs:=[num a]) rfl (fok.sl.get rfl) ⟨Nat.le_of_ble_eq_true rfl,Nat.le_of_ble_eq_true rfl⟩ rfl rfl) rfl (ho μ98) rfl rfl WZ_nil
  have μ100:M 12 1 0 [2,3,4,5,30,31,36] 0:=hi<|WZ_step [(1,3),(4,17),(7,129),(9,513)] rfl (by kernel_rfl)<|WZ_a (ho μ80) rfl rfl<|WZ_a (ho μ90) rfl rfl<|WZ_a (ho μ97) rfl rfl<|WZ_a (ho μ99) rfl rfl WZ_nil
  have μ101:M 7 3984 0 [1,3,30,31,40,47] 2:=hi<|WZ_step [(0,3985)] rfl (by kernel_rfl)<|WZ_a (ho μ81) rfl rfl WZ_nil
  have μ102:M 8 1936 0 [1,3,30,31,40,44,46] 1:=hi<|WZ_step [(0,1937),(11,3984)] rfl (by kernel_rfl)<|WZ_a (ho μ82) rfl rfl<|WZ_l rfl rfl (Loud.to (σ:=[some (.row 3 1 pre.length (intsP pre))]) (p':=.own 1) (σ'':=[none,some (.row 3 1 (pre++[a]).length (intsP (pre++[a])))]) (l_append (e:=3) (s:=1) (by':=8) (i:=0) (m:=1) (n:=pre.length) (xs:=intsP pre) (ys:=[num a]) rfl (fok.rk.get rfl) rfl rfl rfl rfl ⟨by unfold maxLen;omega,by omega⟩) rfl (by rw[List.length_append,←intsP_append];rfl)) rfl (ho μ101) rfl rfl WZ_nil
  have μ103:M 9 912 0 [1,3,30,31,40,44,45] 1:=hi<|WZ_step [(0,913),(10,1936)] rfl (by kernel_rfl)<|WZ_a (ho μ83) rfl rfl<|WZ_v rfl rfl (y_buildSlice (xs:=[num a]) rfl (fok.sl.get rfl) ⟨Nat.le_of_ble_eq_true rfl,Nat.le_of_ble_eq_true rfl⟩ rfl rfl) rfl (ho μ102) rfl rfl WZ_nil
  have μ104:M 10 400 0 [1,3,5,30,31,40,44] 1:=hi<|WZ_step [(0,401),(9,912)] rfl (by kernel_rfl)<|WZ_a (ho μ84) rfl rfl<|WZ_a (ho μ103) rfl rfl WZ_nil
  have μ105:M 9 1680 0 [1,3,30,31,40,43,46] 0:=hi<|WZ_step [(0,1681),(8,1936)] rfl (by kernel_rfl)<|WZ_a (ho μ85) rfl rfl<|WZ_c rfl rfl rfl rfl hic (ho μ102) rfl rfl WZ_nil
  have μ106:M 10 656 0 [1,3,30,31,40,43,45] 0:=hi<|WZ_step [(0,657),(8,912),(10,1680)] rfl (by kernel_rfl)<|WZ_a (ho μ86) rfl rfl<|WZ_c rfl rfl rfl rfl hic (ho μ103) rfl rfl<|WZ_v rfl rfl (y_buildSlice (xs:=[num a]) rfl (fok.sl.get rfl) ⟨Nat.le_of_ble_eq_true rfl,Nat.le_of_ble_eq_true rfl⟩ rfl rfl) rfl (ho μ105) rfl rfl WZ_nil
  have μ107:M 11 144 0 [1,3,5,30,31,40,43] 0:=hi<|WZ_step [(0,145),(8,400),(9,656)] rfl (by kernel_rfl)<|WZ_a (ho μ87) rfl rfl<|WZ_c rfl rfl rfl rfl hic (ho μ104) rfl rfl<|WZ_a (ho μ106) rfl rfl WZ_nil
  have μ108:M 10 1552 0 [1,2,3,30,31,40,46] 0:=hi<|WZ_step [(0,1553),(7,1680)] rfl (by kernel_rfl)<|WZ_a (ho μ88) rfl rfl<|WZ_a (ho μ105) rfl rfl WZ_nil
  have μ109:M 11 528 0 [1,2,3,30,31,40,45] 0:=hi<|WZ_step [(0,529),(7,656),(10,1552)] rfl (by kernel_rfl)<|WZ_a (ho μ89) rfl rfl<|WZ_a (ho μ106) rfl rfl<|WZ_v rfl rfl (y_buildSlice (xs:=[num a]) rfl (fok.sl.get rfl) ⟨Nat.le_of_ble_eq_true rfl,Nat.le_of_ble_eq_true rfl⟩ rfl rfl) rfl (ho μ108) rfl rfl WZ_nil
  have μ110:M 12 16 0 [1,2,3,5,30,31,40] 0:=hi<|WZ_step [(0,17),(7,144),(9,528)] rfl (by kernel_rfl)<|WZ_a (ho μ90) rfl rfl<|WZ_a (ho μ107) rfl rfl<|WZ_a (ho μ109) rfl rfl WZ_nil
  have μ111:M 8 3968 0 [1,3,4,30,31,47] 2:=hi<|WZ_step [(0,3969),(4,3984)] rfl (by kernel_rfl)<|WZ_a (ho μ91) rfl rfl<|WZ_a (ho μ101) rfl rfl WZ_nil
  have μ112:M 9 1920 0 [1,3,4,30,31,44,46] 1:=hi<|WZ_step [(0,1921),(4,1936),(11,3968)] rfl (by kernel_rfl)<|WZ_a (ho μ92) rfl rfl<|WZ_a (ho μ102) rfl rfl<|WZ_l rfl rfl (Loud.to (σ:=[some (.row 3 1 pre.length (intsP pre))]) (p':=.own 1) (σ'':=[none,some (.row 3 1 (pre++[a]).length (intsP (pre++[a])))]) (l_append (e:=3) (s:=1) (by':=8) (i:=0) (m:=1) (n:=pre.length) (xs:=intsP pre) (ys:=[num a]) rfl (fok.rk.get rfl) rfl rfl rfl rfl ⟨by unfold maxLen;omega,by omega⟩) rfl (by rw[List.length_append,←intsP_append];rfl)) rfl (ho μ111) rfl rfl WZ_nil
  have μ113:M 10 896 0 [1,3,4,30,31,44,45] 1:=hi<|WZ_step [(0,897),(4,912),(10,1920)] rfl (by kernel_rfl)<|WZ_a (ho μ93) rfl rfl<|WZ_a (ho μ103) rfl rfl<|WZ_v rfl rfl (y_buildSlice (xs:=[num a]) rfl (fok.sl.get rfl) ⟨Nat.le_of_ble_eq_true rfl,Nat.le_of_ble_eq_true rfl⟩ rfl rfl) rfl (ho μ112) rfl rfl WZ_nil
  have μ114:M 11 384 0 [1,3,4,5,30,31,44] 1:=hi<|WZ_step [(0,385),(4,400),(9,896)] rfl (by kernel_rfl)<|WZ_a (ho μ94) rfl rfl<|WZ_a (ho μ104) rfl rfl<|WZ_a (ho μ113) rfl rfl WZ_nil
  have μ115:M 10 1664 0 [1,3,4,30,31,43,46] 0:=hi<|WZ_step [(0,1665),(4,1680),(8,1920)] rfl (by kernel_rfl)<|WZ_a (ho μ95) rfl rfl<|WZ_a (ho μ105) rfl rfl<|WZ_c rfl rfl rfl rfl hic (ho μ112) rfl rfl WZ_nil
  have μ116:M 11 640 0 [1,3,4,30,31,43,45] 0:=hi<|WZ_step [(0,641),(4,656),(8,896),(10,1664)] rfl (by kernel_rfl)<|WZ_a (ho μ96) rfl rfl<|WZ_a (ho μ106) rfl rfl<|WZ_c rfl rfl rfl rfl hic (ho μ113) rfl rfl<|WZ_v rfl rfl (y_buildSlice (xs:=[num a]) rfl (fok.sl.get rfl) ⟨Nat.le_of_ble_eq_true rfl,Nat.le_of_ble_eq_true rfl⟩ rfl rfl) rfl (ho μ115) rfl rfl WZ_nil
  have μ117:M 12 128 0 [1,3,4,5,30,31,43] 0:=hi<|WZ_step [(0,129),(4,144),(8,384),(9,640)] rfl (by kernel_rfl)<|WZ_a (ho μ97) rfl rfl<|WZ_a (ho μ107) rfl rfl<|WZ_c rfl rfl rfl rfl hic (ho μ114) rfl rfl<|WZ_a (ho μ116) rfl rfl WZ_nil
  have μ118:M 11 1536 0 [1,2,3,4,30,31,46] 0:=hi<|WZ_step [(0,1537),(4,1552),(7,1664)] rfl (by kernel_rfl)<|WZ_a (ho μ98) rfl rfl<|WZ_a (ho μ108) rfl rfl<|WZ_a (ho μ115) rfl rfl WZ_nil
  have μ119:M 12 512 0 [1,2,3,4,30,31,45] 0:=hi<|WZ_step [(0,513),(4,528),(7,640),(10,1536)] rfl (by kernel_rfl)<|WZ_a (ho μ99) rfl rfl<|WZ_a (ho μ109) rfl rfl<|WZ_a (ho μ116) rfl rfl<|WZ_v rfl rfl (y_buildSlice (xs:=[num a]) rfl (fok.sl.get rfl) ⟨Nat.le_of_ble_eq_true rfl,Nat.le_of_ble_eq_true rfl⟩ rfl rfl) rfl (ho μ118) rfl rfl WZ_nil
  have μ120:M 13 0 0 [1,2,3,4,5,30,31] 0:=hi<|WZ_step [(0,1),(4,16),(7,128),(9,512)] rfl (by kernel_rfl)<|WZ_a (ho μ100) rfl rfl<|WZ_a (ho μ110) rfl rfl<|WZ_a (ho μ117) rfl rfl<|WZ_a (ho μ119) rfl rfl WZ_nil
  exact μ120
end PW
end Go.Proofs.YtnegbdpggideiaaGreatDoor

namespace Go.Proofs.YtnegbdpggideiaaGreatDoor
set_option linter.unusedVariables false
set_option linter.unusedSimpArgs false
namespace PW
open Go.RowKit Go.Shelf Reg Mem Net Rng
attribute [local go_sem] Oper.semAt_some
theorem cell_loop {w:World} {l:Nat} {r:Loop} {o:Obj} (hl:w.heap[l]? =some (.loop r)) {a:Addr} {x:Value} (h:w.cell? a=some x):(w.putObj l o).cell? a=some x:=by
 have hne:a.block≠l:=fun e=>by
  unfold World.cell? at h
  rw[e,hl]at h
  simp at h
 rw[cell_same (World.putObj_heap_other hne)]
 exact h
theorem Rep.loop {E:Env} {w:World} {l:Nat} {r:Loop} {o:Obj} (hl:w.heap[l]? =some (.loop r)) {v:Value} {p:PV} (h:Rep E w v p):Rep E (w.putObj l o) v p:=by
 induction h with
 |any v=>exact .any v
 |raw v=>exact .raw v
 |nils=>exact .nils
 |empty a c h=>exact .empty a c h
 |slice b off n c cs xs h0 h1 h2 hb hM hc hl2 _ ih=>exact .slice b off n c cs xs h0 h1 h2 (by simpa using hb) hM (fun i x hx=>cell_loop hl (hc i x hx)) hl2 ih
 |pin b o' off cs xs hb hM hc hl2 _ ih=>exact .pin b o' off cs xs (by simpa using hb) hM (fun i x hx=>cell_loop hl (hc i x hx)) hl2 ih
 |agg cs xs hl2 _ ih=>exact .agg cs xs hl2 ih
 |tuple cs xs hl2 _ ih=>exact .tuple cs xs hl2 ih
 |func f cs xs hl2 _ ih=>exact .func f cs xs hl2 ih
 |ptr i off b hi h=>exact .ptr i off b hi h
 |own i hi v h hs=>exact .own i hi v h hs
def resP (e:Nat) (why:Int) (path:List Int):List PV:=[num e,num why,intsV path]
theorem resP_pure (e:Nat) (why:Int) (path:List Int):IsPure (.agg (resP e why path)):=by unfold resP;infer_instance
def GR (F0:Nat→Prop) (e:Nat) (why:Int) (path:List Int) (x:Value) (W:World):Prop:=Rep (EF F0) W x (.agg (resP e why path))
theorem GR.calm (F0:Nat→Prop) (e:Nat) (why:Int) (path:List Int):Rng.Calm (GR F0 e why path):=fun _ _ _ _ _ h hl=>Rep.loop hl h
theorem ops_yield {P:Program} {ops:Array Oper} {n i l:Nat} {o:Oper} {a:Act} {w:World} {Q:Exit→Act→World→Prop} {x y:Operand} {ats:Array TypeId} {R:Ending→World→Prop} (ho:ops[i]? =some o) (hg:o.guard=none) (hop:o.op= .call {callee:=.value x,args:= #[y],argTypes:=ats})
  (hx:a.eval x= .func (.yield l) #[] #[]) (hy:YieldAt Fence.wide (n - 1) P l #[a.eval y] w R) (hR:∀e w',R e w'→∃v,e= .returned v∧Q .normal (a.put o.dst v) w'):wpOpsIn Fence.wide n P ops Q [i] a w:=by
 obtain⟨fn,tmps,assign,body,h1,h2⟩:=hy
 rw[wpOpsIn_cons]
 unfold wpOpIn
 rw[ho]
 simp only
 rw[if_pos (by unfold Region.wanted;rw[hg])]
 refine⟨fun _ _=>trivial,?_⟩
 rw[show Fence.wide.round=none from rfl,Oper.semAt_none]
 have hr:(execOp a.eval o).run P w= .ok (.round l fn tmps assign body) w:=by
  simp[execOp,hop,resolve,hx,Deferred.ofValue,invoke,h1]
 rw[hr]
 refine⟨fun h=>by simp[Fence.wide]at h,h2.mono fun e w' he=>?_⟩
 obtain⟨v,rfl,hq⟩:=hR e w' he
 exact hq
section
variable {T:Topo} {tb:Nat→Tab} {p0:Pkt} {Φ:Nat→Nat→List Seg→Prop}
set_option maxRecDepth 100000 in
set_option maxHeartbeats 4000000 in
theorem br_leaf {n:Nat} {o:Out} {vs:List PV} {c:Int} {pre:List Int} (ha:o.arcs=[]) (hpl:pre.length≤1000) [hvs:IsPureL vs] {xb pb:Value} {W₀:World} {F0:Nat→Prop} (hF:∀b,F0 b→b<W₀.heap.size) (gl:Glob F0 W₀) (hX:Rep (EF F0) W₀ xb (.pin [.pin (plcP n o vs c) 0] 0)) (hP:Rep (EF F0) W₀ pb (.pin [intsV pre] 0)):
  Once Tryz.prog 165 #[xb,pb] (GR F0 n o.why pre) W₀:=by
 intro n' l W R hW hkeep hY
 have hargs:RepL (EF F0) W (#[Value.func (.yield l) #[] #[]]++ #[xb,pb]).toList [.raw (.func (.yield l) #[] #[]),.pin [.pin (plcP n o vs c) 0] 0,.pin [intsV pre] 0]:=
  RepL.cons (.raw _) (RepL.cons (hX.ext hW) (RepL.cons (hP.ext hW) (RepL.nil _ _)))
 have hF':∀b,F0 b→b<W.heap.size:=fun b hb=>Nat.lt_of_lt_of_le (hF b hb) hW.size
 have gl':Glob F0 W:=gl.goes (E:=EF F0) (E':=EF F0) (.ext hW)
 refine callsIn_of_wp_marks Tryz.func165 rfl trivial ?_ rfl
 have hs0:=enter_sat (N:=55) (Sat.start F0 W hF' gl') hargs (by simp)
 have hc0:Came W.heap.size 0 (EF F0) W (EF F0) W:=⟨rfl,Goes.refl _ _,Below.refl _ _⟩
 refine wpIn_seq (piece (K:=fun s=>s=⟨[(1,.pin [.pin (plcP n o vs c) 0] 0),(2,.pin [intsV pre] 0),(3,.pin [.raw (.func (.yield l) #[] #[])] 0)],[]⟩) hc0 hs0 ?_ ?_)
 ·skip
  refine W_chain (.a 1 rfl<|.k [1,2,3] rfl) ?_
  exact rfl
 rintro _ E1 a1 w1 rfl hs1 g1 b1
 refine wpIn_seq (wpIn_seq (piece (K:=fun s=>s=⟨[(1,.pin [.pin (plcP n o vs c) 0] 0),(2,.pin [intsV pre] 0),(3,.pin [.raw (.func (.yield l) #[] #[])] 0),(12,flag true)],[]⟩) ⟨rfl,g1,b1⟩ hs1 ?_ ?_))
 ·skip
  refine W_chain (.a 5 rfl<|.v (y_eql rfl rfl rfl (decide_eq_true (by rw[ha];rfl))) rfl<|.k [1,2,3,12] rfl) ?_
  exact rfl
 rintro _ E2 a2 w2 rfl hs2 g2 b2
 refine wpIn_cond_true (rep_raw (hs2.tmp 12 _ rfl)) ?_
 refine wpIn_seq ?_
 skip
 refine wpIn_frontSeq 12 20 [13,14,15,16,17,18,19,20,21,22,23,24] mixed (by kernel_rfl) (by kernel_rfl) (by kernel_rfl) rfl (hs2) (.a 4 rfl<|.v [16] (y_ld rfl (rfl)) rfl rfl<|.a 3 rfl<|.v [20] (y_ld rfl (rfl)) rfl rfl<|.a 1 rfl<|.v [22] (y_c rfl (iclone_can pre hpl)) rfl rfl<|.a 1 rfl<|.k [13,24] rfl) ?_
 intro a3 w3 hE3 hs3
 have hEW:Ext W w3:=Ext.trans b2 hE3
 have h24:=hs3.tmp 24 (.agg (resP n o.why pre)) rfl
 have hv:GR F0 n o.why pre (a3.eval (.tmp 24)) w3:=(resP_pure n o.why pre).out _ F0 _ _ (fun b hb=>(hs3.sat.mm b).2 (.inl hb)) h24
 refine ops_yield (x:=.tmp 13) (y:=.tmp 24) rfl rfl rfl (rep_raw (hs3.tmp 13 _ rfl)) (hY _ _ w3 hEW hv) ?_
 rintro e w4 ⟨rfl,hr⟩
 refine⟨_,rfl,wpIn_ret ?_⟩
 show LeavesInM _ _ _ _ _ _ (a3.put (some 25) (.bool true)).defers _ _
 rw[show(a3.put (some 25) (.bool true)).defers=[] from hs3.dfr]
 exact⟨_,results_none rfl _ _ _,⟨_,rfl⟩,w3,w4,hEW,hr,Rest.refl _ _ _⟩
end
end PW
end Go.Proofs.YtnegbdpggideiaaGreatDoor

namespace Go.Proofs.YtnegbdpggideiaaGreatDoor
set_option linter.unusedVariables false
set_option linter.unusedSimpArgs false
namespace PW
open Go.RowKit Go.Shelf Reg Mem Net Rng
attribute [local go_sem] Oper.semAt_some
theorem RepT.one {E:Env} {w:World} {ρ:Operand→Value} {k:Nat} {p:PV} {t:Tms} (h:Rep E w (ρ (.tmp k)) p) (ht:RepT E w ρ t):RepT E w ρ ((k,p)::t):=ht.put' h
theorem RepT.nil' {E:Env} {w:World} {ρ:Operand→Value}:RepT E w ρ []:=fun k p h=>by cases h
theorem put_get {a:Act} {k:Nat} {v:Value} (h:k<a.tmps.size):(a.put (some k) v).eval (.tmp k)=v:=by
 show(a.tmps.setIfInBounds k v).getD k undef=v
 simp[h]
theorem put_get_ne {a:Act} {k j:Nat} {v:Value} (h:j≠k):(a.put (some k) v).eval (.tmp j)=a.eval (.tmp j):=by
 show(a.tmps.setIfInBounds k v).getD j undef=a.tmps.getD j undef
 simp[Array.getD_eq_getD_getElem?,Array.getElem?_setIfInBounds_ne (Ne.symm h)]
set_option maxRecDepth 100000 in
set_option maxHeartbeats 8000000 in
theorem br_node {n:Nat} {o:Out} {ys:List PV} {c:Int} {pre q:List Int} {a:Int} {e:Nat} {why:Int} (ha:o.arcs=[a]) (hpl:pre.length+1≤1000) [hv1:IsPureL ys] {xb pb:Value} {W₀:World} {F0:Nat→Prop} (hF:∀b,F0 b→b<W₀.heap.size) (gl:Glob F0 W₀) (hX:Rep (EF F0) W₀ xb (.pin [.pin (plcP n o [.pin ys 0] c) 0] 0)) (hP:Rep (EF F0) W₀ pb (.pin [intsV pre] 0))
  (hin:∀(xb' pb':Value) (W':World),(∀b,F0 b→b<W'.heap.size)→Glob F0 W'→Rep (EF F0) W' xb' (.pin [.pin ys 0] 0)→Rep (EF F0) W' pb' (.pin [intsV (pre++[a])] 0)→Once Tryz.prog 165 #[xb',pb'] (GR F0 e why ((pre++[a])++q)) W'):
  Once Tryz.prog 165 #[xb,pb] (GR F0 e why (pre++a::q)) W₀:=by
 intro n' l W R hW hkeep hY
 have hargs:RepL (EF F0) W (#[Value.func (.yield l) #[] #[]]++ #[xb,pb]).toList [.raw (.func (.yield l) #[] #[]),.pin [.pin (plcP n o [.pin ys 0] c) 0] 0,.pin [intsV pre] 0]:=
  RepL.cons (.raw _) (RepL.cons (hX.ext hW) (RepL.cons (hP.ext hW) (RepL.nil _ _)))
 have hF':∀b,F0 b→b<W.heap.size:=fun b hb=>Nat.lt_of_lt_of_le (hF b hb) hW.size
 have gl':Glob F0 W:=gl.goes (E:=EF F0) (E':=EF F0) (.ext hW)
 refine callsIn_of_wp_marks Tryz.func165 rfl trivial ?_ rfl
 have hs0:=enter_sat (N:=55) (Sat.start F0 W hF' gl') hargs (by simp)
 have hc0:Came W.heap.size 0 (EF F0) W (EF F0) W:=⟨rfl,Goes.refl _ _,Below.refl _ _⟩
 refine wpIn_seq (piece (K:=fun s=>s=⟨[(1,.pin [.pin (plcP n o [.pin ys 0] c) 0] 0),(2,.pin [intsV pre] 0),(3,.pin [.raw (.func (.yield l) #[] #[])] 0)],[]⟩) hc0 hs0 ?_ ?_)
 ·skip
  refine W_chain (.a 1 rfl<|.k [1,2,3] rfl) ?_
  exact rfl
 rintro _ E1 a1 w1 rfl hs1 g1 b1
 refine wpIn_seq (wpIn_seq (piece (K:=fun s=>s=⟨[(1,.pin [.pin (plcP n o [.pin ys 0] c) 0] 0),(2,.pin [intsV pre] 0),(3,.pin [.raw (.func (.yield l) #[] #[])] 0),(12,flag false)],[]⟩) ⟨rfl,g1,b1⟩ hs1 ?_ ?_))
 ·skip
  refine W_chain (.a 5 rfl<|.v (y_eql rfl rfl rfl (decide_eq_false (by rw[ha];simp))) rfl<|.k [1,2,3,12] rfl) ?_
  exact rfl
 rintro _ E2 a2 w2 rfl hs2 g2 b2
 refine wpIn_cond_false (rep_raw (hs2.tmp 12 _ rfl)) (wpIn_skip ?_)
 refine wpIn_seq (piece (K:=fun s=>s=⟨[(1,.pin [.pin (plcP n o [.pin ys 0] c) 0] 0),(2,.pin [intsV pre] 0),(3,.pin [.raw (.func (.yield l) #[] #[])] 0),(29,intsV o.arcs),(30,num o.arcs.length),(31,num 0)],[]⟩) ⟨rfl,g2,b2⟩ hs2 ?_ ?_)
 ·skip
  refine W_chain (.a 6 rfl<|.k [1,2,3,29,30,31] rfl) ?_
  exact rfl
 rintro _ E3 a3 w3 rfl hs3 g3 b3
 rw[ha]at hs3
 refine wpIn_block ?_
 refine loop_two (fun a' w'=>∃D W1 W2,a'.defers=[{target:=.collected D,args:= #[]}]∧a'.tmps.size=55∧a'.eval (.tmp 31)= .int .i64 1∧a'.eval (.tmp 30)= .int .i64 1∧w'.heap[D]? =some (.deferred (some []))∧Ext W W1∧R W1 W2∧Rng.Rest W.heap.size W1.heap.size W2 w'∧W.heap.size≤D∧D<W1.heap.size) ?_ ?_
 ·
  refine wpIn_seq (piece (K:=fun s=>s=⟨[(1,.pin [.pin (plcP n o [.pin ys 0] c) 0] 0),(2,.pin [intsV pre] 0),(3,.pin [.raw (.func (.yield l) #[] #[])] 0),(29,intsV [a]),(30,num ([a]:List Int).length),(31,num 0),(32,flag true)],[]⟩) ⟨rfl,g3,b3⟩ hs3 ?_ ?_)
  ·skip
   refine W_chain (.a 1 rfl<|.k [1,2,3,29,30,31,32] rfl) ?_
   exact rfl
  rintro _ E4 a4 w4 rfl hs4 g4 b4
  refine wpIn_seq (wpIn_cond_true (rep_raw (hs4.tmp 32 _ rfl)) (wpIn_skip ?_))
  refine wpIn_seq (wpIn_block ?_)
  refine wpIn_seq (piece (K:=fun s=>s=⟨[(1,.pin [.pin (plcP n o [.pin ys 0] c) 0] 0),(2,.pin [intsV pre] 0),(3,.pin [.raw (.func (.yield l) #[] #[])] 0),(4,num 0),(5,num a),(30,num ([a]:List Int).length),(31,num 0)],[]⟩) ⟨rfl,g4,b4⟩ hs4 ?_ ?_)
  ·skip
   refine W_chain (.a 1 rfl<|.v (y_ix (0) rfl (by simp) (by simp)) rfl<|.v (y_ld rfl ((rfl:(intsP [a])[0]? =some (num a)))) rfl<|.a 2 rfl<|.k [1,2,3,4,5,30,31] rfl) ?_
   exact rfl
  rintro _ E5 a5 w5 rfl hs5 g5 b5
  refine wpIn_seq (piece (L:=0) (K:=sixK ys pre a l) ⟨rfl,g5,b5⟩ hs5 (six_can ys pre a l n o c hpl) ?_)
  rintro⟨t6,σ6⟩ E6 a6 w6 ⟨hσ6,hsub6⟩ hs6 g6 b6
  simp only at hσ6 hsub6
  subst hσ6
  have ht6:=hs6.tmp.sub hsub6
  have hpl2:IsPureL (intsP (pre++[a])):=inferInstance
  have h48:=(Pur.funcL (f:=165) (PurL.cons (Pur.ptrL (i:=2) (k:=0) (blk:=.cells 147 [.pin ys 0]) (ys:=[.pin ys 0]) rfl (show PurL _ [.pin ys 0] [.pin ys 0] from PurL.pure))<|PurL.cons (Pur.ptrL (i:=3) (k:=0) (blk:=.cells 37 [.own 1]) (ys:=[intsV (pre++[a])]) rfl (PurL.cons (Pur.ownL (i:=1) rfl PurL.pure) PurL.nil)) PurL.nil)).rep hs6.sat (G:=F0) (fun b hb=>(hs6.sat.mm b).2 (.inl hb)) (fun b hb=>(hs6.sat.fb b hb).2) _ (ht6 48 _ rfl)
  have h3:Rep (EF F0) w6 (a6.eval (.tmp 3)) (.pin [.raw (.func (.yield l) #[] #[])] 0):=(inferInstance:IsPure (.pin [.raw (.func (.yield l) #[] #[])] 0)).out _ F0 _ _ (fun b hb=>(hs6.sat.mm b).2 (.inl hb)) (ht6 3 _ rfl)
  have h30:a6.eval (.tmp 30)= .int .i64 1:=rep_raw (ht6 30 _ rfl)
  have h31:a6.eval (.tmp 31)= .int .i64 0:=rep_raw (ht6 31 _ rfl)
  have hd6:a6.defers=[]:=hs6.dfr
  have hz6:a6.tmps.size=55:=hs6.size
  have hE6:Ext W w6:=b6
  have hF6:∀b,F0 b→b<w6.heap.size:=fun b hb=>Nat.lt_of_lt_of_le (hF' b hb) hE6.size
  have gl6:Glob F0 w6:=gl'.goes (E:=EF F0) (E':=EF F0) (.ext hE6)
  clear ht6 hs6 g6 b6 hsub6
  generalize hz48:a6.eval (.tmp 48)=z48 at h48
  cases h48 with
  |func _ cs _ hcl hcr=>
  obtain⟨cs⟩:=cs
  match cs,hcl,hcr with
  | [xb',pb'],_,hcr=>
  have hxb:=hcr 0 xb' _ rfl rfl
  have hpb:=hcr 1 pb' _ rfl rfl
  refine wpIn_block ?_
  refine wpIn_rangeOnce hz48 (enters_of Tryz.func165 (by kernel_rfl) rfl) (GR.calm F0 e why ((pre++[a])++q)) (fun v A B h hE=>Rep.ext hE h) (hin xb' pb' w6 hF6 gl6 hxb hpb) (Below.refl _ _) rfl (fun Wb W3=>∃Wc,Ext Wb Wc∧R Wc W3) ?_ ?_
  ·intro m l2 v W1 hl2 hloop hE1 hv
   obtain⟨rl,hrl⟩:=hloop
   obtain⟨arr6,ds6⟩:=a6
   simp only at hd6 hz6
   subst hd6
   have hF1:∀b,F0 b→b<W1.heap.size:=fun b hb=>Nat.lt_of_lt_of_le (hF6 b hb) hE1.size
   have gl1:Glob F0 W1:=gl6.goes (E:=EF F0) (E':=EF F0) (.ext hE1)
   have hsA:SatSt F0 W1.heap.size 55 ⟨[(49,.agg (resP e why ((pre++[a])++q))),(3,.pin [.raw (.func (.yield l) #[] #[])] 0)],[]⟩ (EF F0) ((⟨arr6,[]⟩:Act).put (some 49) v) W1:=
    ⟨Sat.start F0 W1 hF1 gl1,RepT.put (RepT.one (h3.ext hE1) RepT.nil') hv (by simp[hz6]),rfl,by simp[Act.put,hz6]⟩
   rw[show({tmps:=(#[49].zip #[v]).foldl (fun t (p,v)=>t.setIfInBounds p v) arr6,defers:=[]}:Act)=(⟨arr6,[]⟩:Act).put (some 49) v from by simp[Act.put]]
   refine round_cut (m:=2) (K:=fun s=>s=⟨[(3,.pin [.raw (.func (.yield l) #[] #[])] 0),(6,.ptr 0 0)],[some (.cells 107 (resP e why ((pre++[a])++q)))]⟩) rfl rfl hsA rfl (by refine WR_a 2 rfl ?_;refine WR_k [3,6] rfl ?_;rfl) ?_
   rintro _ Ea a7 Wa rfl hsB gB bB
   refine⟨bB,fun Wb hlb hEb hzb hoth hvb=>?_⟩
   have hla:Wa.heap[l2]? =some (.loop rl):=(bB.block _ (Array.getElem?_eq_some_iff.1 hrl).1).trans hrl
   have hpr:IsPureL (resP e why ((pre++[a])++q)):=by unfold resP;infer_instance
   have r6:=((Pur.ptrL (i:=0) (k:=0) (blk:=.cells 107 (resP e why ((pre++[a])++q))) (ys:=resP e why ((pre++[a])++q)) rfl (show PurL _ (resP e why ((pre++[a])++q)) (resP e why ((pre++[a])++q)) from PurL.pure)).rep hsB.sat (G:=F0) (fun b hb=>(hsB.sat.mm b).2 (.inl hb)) (fun b hb=>(hsB.sat.fb b hb).2) _ (hsB.tmp 6 _ rfl)).other hla hzb hoth
   have r3:=((inferInstance:IsPure (.pin [.raw (.func (.yield l) #[] #[])] 0)).out _ F0 _ _ (fun b hb=>(hsB.sat.mm b).2 (.inl hb)) (hsB.tmp 3 _ rfl)).other hla hzb hoth
   have hFb:∀b,F0 b→b<Wb.heap.size:=fun b hb=>Nat.lt_of_lt_of_le (hF6 b hb) hEb.size
   have glb:Glob F0 Wb:=(gl1.goes (E:=EF F0) (E':=EF F0) (.ext (w':=Wa) bB)).other hla hoth
   have hsC:SatSt F0 Wb.heap.size 55 ⟨[(3,.pin [.raw (.func (.yield l) #[] #[])] 0),(6,.pin (resP e why ((pre++[a])++q)) 0)],[]⟩ (EF F0) a7 Wb:=
    ⟨Sat.start F0 Wb hFb glb,RepT.one r3 (RepT.one r6 RepT.nil'),hsB.dfr,hsB.size⟩
   refine wpIn_block (wpIn_seq ?_)
   refine round_cut (m:=2) (K:=fun s=>s=⟨[(50,.raw (.func (.yield l) #[] #[])),(51,.agg (resP e why ((pre++[a])++q)))],[]⟩) rfl rfl hsC rfl (by refine WR_a 2 rfl ?_;refine WR_k [50,51] rfl ?_;rfl) ?_
   rintro _ Ed a8 Wc rfl hsD gD bD
   have hEbc:Ext Wb Wc:=bD
   have hEWc:Ext W Wc:=(hE6.trans hEb).trans hEbc
   have h51:=(resP_pure e why ((pre++[a])++q)).out _ F0 _ _ (fun b hb=>(hsD.sat.mm b).2 (.inl hb)) (hsD.tmp 51 _ rfl)
   rw[show(pre++[a])++q=pre++a::q by simp]at h51
   have hz8:a8.tmps.size=55:=hsD.size
   show wpOpsIn _ _ _ _ _ [2,3] a8 Wc
   refine ops_round (x:=.tmp 50) (y:=.tmp 51) rfl rfl rfl (rep_raw (hsD.tmp 50 _ rfl)) (hY _ _ Wc hEWc h51) ?_
   rintro e4 W4 ⟨rfl,hr4⟩
   refine⟨_,rfl,?_⟩
   refine ops_val (.inr ⟨_,rfl⟩) rfl rfl (fun c e=>by cases e) (exec_not rfl (put_get (by omega))) ?_
   refine wpIn_cond_false (put_get (by simp[Act.put,hz8])) (wpIn_skip ?_)
   obtain⟨k1,k2⟩:=hkeep _ _ hr4
   have hs1:=hE6.size
   have hs2:=hEbc.size
   exact⟨⟨by omega,fun k h1 h2=>(k2 k (by omega) (by omega)).trans (hEbc.block k h2)⟩,Wc,hEbc,hr4⟩
  ·intro Wb W3 W' hEb hlt hle hrx hrest hD
   obtain⟨Wc,hEbc,hr⟩:=hrx
   have hs1:=hE6.size
   have hs2:=hEbc.size
   refine wpIn_region ?_
   refine ops_val (.inl rfl) rfl rfl (fun c e=>by cases e) (exec_int rfl (show Act.eval {a6 with defers:=_} (.tmp 31)=_ from h31) rfl (v:=.int .i64 1) (by simp[binOp,Op.intArith,wrap_in (show In64 1 by unfold In64;omega)])) ?_
   refine ops_val (.inl rfl) rfl rfl (fun c e=>by cases e) (exec_move rfl) ?_
   refine⟨w6.heap.size,Wc,W3,by show _::a6.defers=_;rw[hd6],by show((a6.tmps.setIfInBounds 54 _).setIfInBounds 31 _).size=55;simp[hz6],?_,?_,hD,(hE6.trans hEb).trans hEbc,hr,hrest.wide hs1 hs2,hs1,by omega⟩
   ·refine(put_get (k:=31) (by show 31<(a6.tmps.setIfInBounds 54 _).size;simp[hz6])).trans ?_
    exact put_get (k:=54) (by show 54<a6.tmps.size;omega)
   ·refine(put_get_ne (k:=31) (j:=30) (by decide)).trans ?_
    refine(put_get_ne (k:=54) (j:=30) (by decide)).trans ?_
    exact h30
 ·rintro a' w' ⟨D,W1,W2,hd,hz,h31,h30,hD,hE,hR,hrest,hD1,hD2⟩
  refine wpIn_seq (wpIn_region ?_)
  refine ops_val (.inl rfl) rfl rfl (fun c e=>by cases e) (exec_int rfl h31 h30 (v:=.bool false) (by simp[binOp,Op.intCmp])) ?_
  have h32:(a'.put (some 32) (.bool false)).eval (.tmp 32)= .bool false:=by
   show(a'.tmps.setIfInBounds 32 _).getD 32 _=_
   simp[hz]
  refine wpIn_seq (wpIn_cond_false h32 (wpIn_exit ?_))
  show LeavesInM _ _ _ _ _ _ (a'.put (some 32) (.bool false)).defers _ _
  rw[show(a'.put (some 32) (.bool false)).defers=[{target:=.collected D,args:= #[]}] from hd]
  refine⟨by simp,.inl ⟨_,_,rfl,run_takeDeferred hD,?_⟩⟩
  exact⟨_,results_none rfl _ _ _,⟨_,rfl⟩,W1,W2,hE,hR,hrest.trans (Rest.put hD rfl hD1 hD2)⟩
end PW
end Go.Proofs.YtnegbdpggideiaaGreatDoor
