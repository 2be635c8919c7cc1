/- Pure walks: all orders of a region, one by one. No program in sight. -/
import Derived.Test.YtkaalpdfppbdeaaDoorPWy
namespace Go.Proofs.YtkaalpdfppbdeaaDoor
namespace PW
open Go.RowKit Reg Mem
section
variable {P : Program} {N L : Nat} {ops : Array Oper}
/-- All orders of the operations that are left. -/
def WA (P : Program) (N L : Nat) (ops : Array Oper) : Nat → Array Bool → St → (St → Prop) → Prop
  | 0, ls, st, K => Region.ready .any ops ls = [] ∧ K st
  | n + 1, ls, st, K => Region.ready .any ops ls ≠ [] ∧ ∀ i ∈ Region.ready .any ops ls, ∃ o, ops[i]? = some o ∧ o.guard = none ∧ WR P N L [o].toArray [o] st (fun s => WA P N L ops n (ls.setIfInBounds i true) s K)
def WAs (P : Program) (N L : Nat) (ops : Array Oper) (n : Nat) (ls : Array Bool) (st : St) (K : St → Prop) (is : List Nat) : Prop :=
  ∀ i ∈ is, ∃ o, ops[i]? = some o ∧ o.guard = none ∧ WR P N L [o].toArray [o] st (fun s => WA P N L ops n (ls.setIfInBounds i true) s K)
theorem WA_nil {ls : Array Bool} {st : St} {K : St → Prop} (h : Region.ready .any ops ls = []) (hk : K st) : WA P N L ops 0 ls st K := ⟨h, hk⟩
theorem WA_step {n : Nat} {ls : Array Bool} {st : St} {K : St → Prop} (i : Nat) (is : List Nat) (h : Region.ready .any ops ls = i :: is) (hk : WAs P N L ops n ls st K (i :: is)) : WA P N L ops (n + 1) ls st K :=
  ⟨by rw [h]; simp, fun j hj => hk j (by rw [← h]; exact hj)⟩
theorem WAs_nil {n : Nat} {ls : Array Bool} {st : St} {K : St → Prop} : WAs P N L ops n ls st K [] := fun i hi => by simp at hi
theorem WAs_cons {n : Nat} {ls : Array Bool} {st : St} {K : St → Prop} {i : Nat} {is : List Nat} {o : Oper} (ho : ops[i]? = some o) (hg : o.guard = none) (h : WR P N L [o].toArray [o] st (fun s => WA P N L ops n (ls.setIfInBounds i true) s K)) (hs : WAs P N L ops n ls st K is) : WAs P N L ops n ls st K (i :: is) := fun j hj => by
  rcases List.mem_cons.1 hj with rfl | hj
  · exact ⟨o, ho, hg, h⟩
  · exact hs j hj
/-- What follows an operation. -/
def Qnext (K : Act → World → Prop) (Q : Exit → Act → World → Prop) : Exit → Act → World → Prop
  | .normal, a, w => K a w
  | e, a, w => Q e a w
theorem oper_wp_next {o : Oper} {a : Act} {w : World} {K K' K'' : Act → World → Prop} {Q : Exit → Act → World → Prop} (h : ∀ a w, K a w → K' a w) (hh : o.wp P a w K (Qnext K'' Q)) : o.wp P a w K' Q := by
  unfold Oper.wp at *
  generalize (execOp a.eval o).run P w = x at *
  cases x with
  | ok n w' =>
    cases n <;> simp only [Oper.upon] at hh ⊢ <;>
      first
        | exact h _ _ hh
        | exact Calls.mono hh (fun e w'' he => by cases e <;> first | exact h _ _ he | exact he)
        | exact Rows.mono hh (fun _ _ he => h _ _ he)
  | halt x w' => cases x <;> simp only [Oper.upon] at hh ⊢ <;> exact hh
theorem WA.any : ∀ {n : Nat} {ls : Array Bool} {st : St} {K : St → Prop}, WA P N L ops n ls st K → ∀ F base E₀ w₀ E a w, Came base L E₀ w₀ E w → SatSt F base N st E a w → ∀ (Q : Exit → Act → World → Prop), (∀ a' w', Post F base N E₀ w₀ K a' w' → Q .normal a' w') → wpAny P .any ops Q n ls a w
  | 0, ls, st, K, h, F, base, E₀, w₀, E, a, w, hc, hs, Q, hQ => ⟨h.1, hQ a w ⟨st, E, h.2, hs, hc.g, hc.b⟩⟩
  | n + 1, ls, st, K, h, F, base, E₀, w₀, E, a, w, hc, hs, Q, hQ => by
    refine ⟨fun h0 => absurd h0 h.1, fun i hi => ?_⟩
    obtain ⟨o, ho, hg, hw⟩ := h.2 i hi
    have h1 := hw F base E₀ w₀ E a w hc hs (Qnext (wpAny P .any ops Q n (ls.setIfInBounds i true)) Q) 0 (fun a' w' ⟨s, E', k1, k2, k3, k4⟩ => by
      show wpAny P .any ops Q n (ls.setIfInBounds i true) a' w'
      exact WA.any k1 F base E₀ w₀ E' a' w' ⟨hc.L, k3, k4⟩ k2 Q hQ) (fun j => by simp)
    simp only [List.length_singleton] at h1
    rw [List.range'_succ, wpOps_cons] at h1
    unfold wpOp at h1 ⊢
    have hw1 : ∀ y, Region.wanted o y = true := fun y => by unfold Region.wanted; rw [hg]
    simp only [List.getElem?_toArray, List.getElem?_cons_zero, hw1, if_true] at h1
    simp only [ho, hw1, if_true]
    rcases h1 with h1 | ⟨h1, h2⟩
    · exact .inl (oper_wp_next (fun a w h => h) h1)
    · exact .inr ⟨h1, h2⟩
theorem W_orders {id : Nat} {l : List Oper} {st : St} {Q : Exit → St → Prop} (hm : P.follows .mixedOrders = true) (h : WA P N L l.toArray l.length (Array.replicate l.length false) st (fun s => Q .normal s)) : W P N L (.region id l.toArray true) st Q := fun F base E₀ w₀ E a w hc hs => by
  refine wp_region_any hm ?_
  have hE : Ext w { w with drawn := w.drawn + 1 } := ⟨rfl, rfl, rfl, Nat.le_refl _, fun _ _ => rfl⟩
  have := h.any F base E₀ w₀ E a { w with drawn := w.drawn + 1 } (hc.on (.ext hE) (Below.ofExt hE hs.sat.bl)) ⟨hs.sat.ext hE, hs.tmp.goes (.ext hE), hs.dfr, hs.size⟩ (fun e a' w' => Post F base N E₀ w₀ (Q e) a' w') (fun a' w' h => h)
  simpa using this
theorem W_orders1 {id : Nat} {l : List Oper} {y : Code} {st : St} {Q : Exit → St → Prop} (hm : P.follows .mixedOrders = true) (h : WA P N L l.toArray l.length (Array.replicate l.length false) st (fun s => W P N L y s Q)) : W P N L (.seq (.region id l.toArray true) y) st Q := W_seq (W_orders hm h)
theorem set_eq_of {α : Type} {l : List α} {k : Nat} {x : α} (h : l[k]? = some x) : l.set k x = l := by
  obtain ⟨hk, rfl⟩ := List.getElem?_eq_some_iff.1 h
  simp
/-- A nil slice in a cell of the store is taken for an empty row of the call's own. -/
theorem W_adoptCell {c : Code} {t : Tms} {σ : Sto} {Q : Exit → St → Prop} (i k e s : Nat) {ty : TypeId} {xs : List PV} (hi : σ[i]? = some (some (.cells ty xs))) (hk : xs[k]? = some (.raw (.slice none 0 0)))
    (h : W P N L c ⟨t, (σ ++ [some (Blk.row e s 0 [])]).set i (some (.cells ty (xs.set k (.own σ.length))))⟩ Q) : W P N L c ⟨t, σ⟩ Q := fun F base E₀ w₀ E a w hc hs => by
  obtain ⟨a1, a2, a3⟩ := adopt hs.sat e s
  have hil := (List.getElem?_eq_some_iff.1 hi).1
  have hi' : (σ ++ [some (Blk.row e s 0 [])])[i]? = some (some (.cells ty xs)) := by rw [List.getElem?_append_left hil]; exact hi
  obtain ⟨b, cs, hb, h1, h2, h3⟩ := a1.blk i _ hi'
  obtain ⟨cv, hcv, hrep⟩ := h3.get hk
  cases hrep
  obtain ⟨b1, b2⟩ := a1.turn hi' (b := b) (by rw [hb]; rfl) (Nat.le_refl _) (fun _ _ _ => rfl) (bi' := .cells ty (xs.set k (.own σ.length))) ⟨b, cs, hb, h1, h2, by
    have := h3.set k a3
    rw [set_eq_of hcv] at this
    exact this⟩
  exact h F base E₀ w₀ _ a w (hc.on (a2.trans b2) (Below.refl _ _)) ⟨b1, (hs.tmp.goes a2).goes b2, hs.dfr, hs.size⟩
/-- The store is frozen: its blocks are read only from now on. -/
inductive TPur (σ : Sto) (t : Tms) : Tms → Prop
  | nil : TPur σ t []
  | cons {t' : Tms} (k : Nat) {p q : PV} : look k t = some p → Pur σ p q → TPur σ t t' → TPur σ t ((k, q) :: t')
theorem TPur.get {σ : Sto} {t t' : Tms} (h : TPur σ t t') : ∀ k q, look k t' = some q → ∃ p, look k t = some p ∧ Pur σ p q := by
  induction h with
  | nil => intro k q h; cases h
  | cons k h1 h2 _ ih =>
    intro j q hj
    simp only [look] at hj
    rw [Bool.cond_eq_ite] at hj
    split at hj
    · rename_i he
      have := Nat.eq_of_beq_eq_true he
      subst this
      cases hj
      exact ⟨_, h1, h2⟩
    · exact ih j q hj
theorem W_freeze {c : Code} {t t' : Tms} {σ : Sto} {Q : Exit → St → Prop} (hT : TPur σ t t') (h : W P N 0 c ⟨t', []⟩ Q) : W P N 0 c ⟨t, σ⟩ Q := fun F base E₀ w₀ E a w hc hs => by
  have hF : ∀ b, F b → E.M b := fun b hb => (hs.sat.mm b).2 (.inl hb)
  refine h F base E₀ w₀ (EF F) a w ⟨hc.L, ⟨by rw [hc.L]; exact Nat.zero_le _, fun i hi => by rw [hc.L] at hi; omega, fun b h1 h2 hf => hc.g.M b h1 h2 (hF b hf), hc.g.size, hc.g.heap⟩, hc.b⟩
    ⟨⟨hs.sat.bl, fun b hb => ⟨(hs.sat.fb b hb).1, fun i blk h => by simp at h⟩, rfl, fun b => by simp [EF], fun i blk h => by simp at h, fun i j bi bj b h => by simp at h⟩, fun k q hq => ?_, hs.dfr, hs.size⟩
  obtain ⟨p, h1, h2⟩ := hT.get k q hq
  exact h2.rep hs.sat hF (fun b hb => (hs.sat.fb b hb).2) _ (hs.tmp k p h1)
end
end PW
end Go.Proofs.YtkaalpdfppbdeaaDoor
