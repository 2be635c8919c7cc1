/- Pure walks: regions that draw the order of their first operations, and carry out the others behind them one after the other. No program in sight. -/
import Derived.Test.YtkaalpdfppbdeaaDoorPWu
namespace Go.Proofs.YtkaalpdfppbdeaaDoor
namespace PW
open Go.RowKit Reg Mem

/-- The operations that bind an operation. -/
def aft (ops : Array Oper) (i : Nat) : List Nat :=
  match ops[i]? with
  | some o => (o.after.toList.filter (Region.binds .any)).map (·.on)
  | none => []
def reachB (ops : Array Oper) : Nat → Nat → Nat → Bool
  | 0, _, _ => false
  | f + 1, i, j => (aft ops i).contains j || (aft ops i).any fun k => reachB ops f k j
/-- From m on, every operation stands behind all that stand before it. -/
def barB (ops : Array Oper) (f m : Nat) : Bool :=
  (List.range ops.size).all fun i => ((aft ops i).all fun k => decide (k < i)) && (((ops[i]?).all fun o => o.guard.all fun g => decide (g.1 < i)) && (decide (i < m) || (List.range i).all fun j => reachB ops f i j))

section
variable {P : Program} {ops : Array Oper}
def Down (ops : Array Oper) (ls : Array Bool) : Prop := ∀ i, ls.getD i true = true → i < ops.size → ∀ k ∈ aft ops i, ls.getD k false = true
theorem reach_listed {ls : Array Bool} (hs : ls.size = ops.size) (hd : Down ops ls) (ha : ∀ i, i < ops.size → ∀ k ∈ aft ops i, k < i) : ∀ (f i j : Nat), i < ops.size → reachB ops f i j = true → (∀ k ∈ aft ops i, ls.getD k false = true) → ls.getD j false = true
  | 0, _, _, _, h, _ => by cases h
  | f + 1, i, j, hi, h, hk => by
    simp only [reachB, Bool.or_eq_true] at h
    rcases h with h | h
    · exact hk j (by simpa using h)
    · obtain ⟨k, h1, h2⟩ := List.any_eq_true.1 h
      have hki := ha i hi k h1
      have hk1 := hk k h1
      have hklt : k < ls.size := by rw [hs]; omega
      refine reach_listed hs hd ha f k j (by omega) h2 (hd k ?_ (by omega))
      simp only [Array.getD_eq_getD_getElem?] at hk1 ⊢
      simp [hklt] at hk1 ⊢
      exact hk1
theorem ready_iff {ls : Array Bool} {i : Nat} : i ∈ Region.ready .any ops ls ↔ i < ops.size ∧ ls.getD i true = false ∧ ∀ k ∈ aft ops i, ls.getD k false = true := by
  unfold Region.ready
  rw [List.mem_filter, List.mem_range]
  constructor
  · rintro ⟨h1, h2⟩
    simp only [Bool.and_eq_true, Bool.not_eq_true'] at h2
    refine ⟨h1, h2.1, fun k hk => ?_⟩
    have h3 := h2.2
    unfold aft at hk
    cases ho : ops[i]? with
    | none => rw [ho] at hk; simp at hk
    | some o =>
      rw [ho] at h3 hk
      simp only [Option.map_some, Option.getD_some] at h3
      obtain ⟨e, he, rfl⟩ := List.mem_map.1 hk
      obtain ⟨he1, he2⟩ := List.mem_filter.1 he
      have := Array.all_eq_true'.1 h3 e (by simpa using he1)
      simpa [he2] using this
  · rintro ⟨h1, h2, h3⟩
    refine ⟨h1, ?_⟩
    simp only [Bool.and_eq_true, Bool.not_eq_true']
    refine ⟨h2, ?_⟩
    have ho : ops[i]? = some ops[i] := by simp [h1]
    rw [ho]
    simp only [Option.map_some, Option.getD_some]
    apply Array.all_eq_true'.2
    intro e he
    cases hb : Region.binds .any e with
    | false => rfl
    | true =>
      simp only [Bool.not_true, Bool.false_or]
      refine h3 e.on ?_
      unfold aft
      rw [ho]
      exact List.mem_map.2 ⟨e, List.mem_filter.2 ⟨by simpa using he, hb⟩, rfl⟩

/-- The first k are listed. -/
def upto (n k : Nat) : Array Bool := ((List.range n).map fun i => decide (i < k)).toArray
theorem upto_get (n k i : Nat) (hi : i < n) (b : Bool) : (upto n k).getD i b = decide (i < k) := by simp [upto, hi]
theorem upto_set (n k : Nat) : (upto n k).setIfInBounds k true = upto n (k + 1) := by
  apply Array.ext
  · simp [upto]
  · intro i h1 h2
    simp [upto] at h2
    by_cases e : k = i
    · subst e; simp [upto]
    · rw [Array.getElem_setIfInBounds (by simpa [upto] using h2), if_neg e]
      simp [upto]; omega
section
variable {f m : Nat} (hB : barB ops f m = true)
include hB
theorem bar_aft : ∀ i, i < ops.size → ∀ k ∈ aft ops i, k < i := fun i hi k hk => by
  have := List.all_eq_true.1 hB i (List.mem_range.2 hi)
  simp only [Bool.and_eq_true] at this
  have := List.all_eq_true.1 this.1 k hk
  simpa using this
theorem bar_reach : ∀ i, i < ops.size → m ≤ i → ∀ j, j < i → reachB ops f i j = true := fun i hi hm j hj => by
  have := List.all_eq_true.1 hB i (List.mem_range.2 hi)
  simp only [Bool.and_eq_true, Bool.or_eq_true, decide_eq_true_eq] at this
  rcases this.2.2 with h | h
  · omega
  · exact List.all_eq_true.1 h j (List.mem_range.2 hj)
theorem bar_guard : ∀ (i : Nat) (o : Oper) (j : Nat) (b : Bool), ops[i]? = some o → o.guard = some (j, b) → j < i := fun i o j b ho hg => by
  have hi : i < ops.size := (Array.getElem?_eq_some_iff.1 ho).1
  have := List.all_eq_true.1 hB i (List.mem_range.2 hi)
  simp only [Bool.and_eq_true] at this
  have h1 := this.2.1
  rw [ho] at h1
  simp only [Option.all_some, hg, decide_eq_true_eq] at h1
  exact h1
theorem ready_upto (k : Nat) (hk : k < ops.size) (hm : m ≤ k) : Region.ready .any ops (upto ops.size k) = [k] := by
  have hd : Down ops (upto ops.size k) := fun i hi hi' j hj => by
    have := bar_aft hB i hi' j hj
    rw [upto_get _ _ _ hi'] at hi
    rw [upto_get _ _ _ (by omega)]
    simp at hi ⊢; omega
  have key : ∀ i, i ∈ Region.ready .any ops (upto ops.size k) ↔ i = k := fun i => by
    rw [ready_iff]
    constructor
    · rintro ⟨h1, h2, h3⟩
      rw [upto_get _ _ _ h1] at h2
      simp at h2
      rcases Nat.lt_or_ge k i with h | h
      · have := reach_listed (by simp [upto]) hd (bar_aft hB) f i k h1 (bar_reach hB i h1 (by omega) k h) h3
        rw [upto_get _ _ _ hk] at this
        simp at this
      · omega
    · rintro rfl
      exact ⟨hk, by rw [upto_get _ _ _ hk]; simp, fun j hj => by
        have := bar_aft hB i hk j hj
        rw [upto_get _ _ _ (by omega)]; simpa using this⟩
  -- one element, once
  have hnd : (Region.ready .any ops (upto ops.size k)).Nodup := List.Pairwise.filter _ List.nodup_range
  generalize Region.ready .any ops (upto ops.size k) = l at *
  match l, key, hnd with
  | [], key, _ => exact absurd ((key k).2 rfl) (by simp)
  | [x], key, _ => rw [(key x).1 (by simp)]
  | x :: y :: l, key, hnd =>
    have h1 := (key x).1 (by simp)
    have h2 := (key y).1 (by simp)
    subst h1; subst h2
    simp at hnd
omit hB in
theorem ready_all : Region.ready .any ops (upto ops.size ops.size) = [] := by
  apply List.eq_nil_iff_forall_not_mem.2
  intro i hi
  obtain ⟨h1, h2, _⟩ := ready_iff.1 hi
  rw [upto_get _ _ _ h1] at h2
  simp at h2; omega
/-- Behind the first m operations there is one order. -/
theorem wpAny_tail {Q : Exit → Act → World → Prop} : ∀ (r k : Nat) (a : Act) (w : World), k + r = ops.size → m ≤ k → wpOps P ops Q (List.range' k r) a w → wpAny P .any ops Q r (upto ops.size k) a w
  | 0, k, a, w, hk, _, h => by
    obtain rfl : k = ops.size := by omega
    exact ⟨ready_all, h⟩
  | r + 1, k, a, w, hk, hm, h => by
    have hr := ready_upto hB k (by omega) hm
    refine ⟨fun h0 => absurd (hr.symm.trans h0) (by simp), fun i hi => ?_⟩
    rw [hr] at hi
    simp at hi
    subst hi
    rw [List.range'_succ, wpOps_cons] at h
    rw [upto_set]
    exact wpOp_mono (fun a w h => wpAny_tail r (i + 1) a w (by omega) (by omega) h) h
end
/-- What follows the first operations. -/
def Qtail (P : Program) (ops : Array Oper) (Q : Exit → Act → World → Prop) (m r : Nat) : Exit → Act → World → Prop
  | .normal, a, w => wpOps P ops Q (List.range' m r) a w
  | e, a, w => Q e a w
theorem oper_wp_tail {o : Oper} {a : Act} {w : World} {K K' : Act → World → Prop} {Q : Exit → Act → World → Prop} {m r : Nat} (h : ∀ a w, K a w → K' a w) (hh : o.wp P a w K (Qtail P ops Q m r)) : o.wp P a w K' Q := by
  unfold Oper.wp at *
  generalize (execOp a.eval o).run P w = x at *
  cases x with
  | ok n w' =>
    cases n <;> simp only [Oper.upon] at hh ⊢ <;>
      first
        | exact h _ _ hh
        | exact Calls.mono hh (fun e w'' he => by cases e <;> first | exact h _ _ he | exact he)
        | exact Rows.mono hh (fun _ _ he => h _ _ he)
  | halt x w' => cases x <;> simp only [Oper.upon] at hh ⊢ <;> exact hh
def unlisted (ls : Array Bool) : Nat → Nat
  | 0 => 0
  | m + 1 => unlisted ls m + if ls.getD m true then 0 else 1
theorem unlisted_zero {ls : Array Bool} : ∀ {m : Nat}, unlisted ls m = 0 → ∀ i, i < m → ls.getD i true = true
  | 0, _, i, hi => by omega
  | m + 1, h, i, hi => by
    simp only [unlisted] at h
    by_cases e : i = m
    · subst e
      cases hb : ls.getD i true with
      | true => rfl
      | false => rw [hb] at h; simp at h
    · exact unlisted_zero (m := m) (by omega) i (by omega)
theorem unlisted_pos {ls : Array Bool} : ∀ {m : Nat}, 0 < unlisted ls m → ∃ i, i < m ∧ ls.getD i true = false ∧ ∀ j, j < i → ls.getD j true = true
  | 0, h => by simp [unlisted] at h
  | m + 1, h => by
    simp only [unlisted] at h
    by_cases hp : 0 < unlisted ls m
    · obtain ⟨i, h1, h2, h3⟩ := unlisted_pos hp
      exact ⟨i, by omega, h2, h3⟩
    · refine ⟨m, by omega, ?_, unlisted_zero (m := m) (by omega)⟩
      cases hb : ls.getD m true with
      | true => rw [hb] at h; simp at h; omega
      | false => rfl
theorem unlisted_set {ls : Array Bool} {i : Nat} (hi : ls.getD i true = false) : ∀ {m : Nat}, i < m → m ≤ ls.size → unlisted (ls.setIfInBounds i true) m + 1 = unlisted ls m
  | 0, h, _ => by omega
  | m + 1, h, hs => by
    simp only [unlisted]
    by_cases e : i = m
    · subst e
      have h1 : (ls.setIfInBounds i true).getD i true = true := by simp [show i < ls.size by omega]
      have h2 : unlisted (ls.setIfInBounds i true) i = unlisted ls i := by
        have : ∀ k, k ≤ i → unlisted (ls.setIfInBounds i true) k = unlisted ls k := by
          intro k
          induction k with
          | zero => intro _; rfl
          | succ k ih =>
            intro hk
            simp only [unlisted]
            rw [ih (by omega), Array.getD_eq_getD_getElem?, Array.getD_eq_getD_getElem?, Array.getElem?_setIfInBounds_ne (by omega)]
        exact this i (Nat.le_refl _)
      rw [h1, hi, h2]; simp
    · have h1 : (ls.setIfInBounds i true).getD m true = ls.getD m true := by
        rw [Array.getD_eq_getD_getElem?, Array.getD_eq_getD_getElem?, Array.getElem?_setIfInBounds_ne e]
      rw [h1]
      have := unlisted_set hi (m := m) (by omega) (by omega)
      omega
theorem wpAny_front {f m : Nat} (hB : barB ops f m = true) (hm : m ≤ ops.size) {Q : Exit → Act → World → Prop} : ∀ (fuel : Nat) (l₁ ls : Array Bool) (a : Act) (w : World), l₁.size = m → ls.size = ops.size → (∀ i, i < m → ls.getD i true = l₁.getD i true) → (∀ i, m ≤ i → i < ops.size → ls.getD i true = false) → Down ops ls → unlisted ls m = fuel →
    wpAny P .any (ops.extract 0 m) (Qtail P ops Q m (ops.size - m)) fuel l₁ a w → wpAny P .any ops Q (fuel + (ops.size - m)) ls a w := by
  have hsz : (ops.extract 0 m).size = m := by simp; omega
  have hget : ∀ i, i < m → (ops.extract 0 m)[i]? = ops[i]? := fun i hi => by rw [Array.getElem?_extract]; simp; omega
  have haft : ∀ i, i < m → aft (ops.extract 0 m) i = aft ops i := fun i hi => by unfold aft; rw [hget i hi]
  intro fuel
  induction fuel with
  | zero =>
    intro l₁ ls a w hs1 hs2 hsame hrest hd hu h
    have : ls = upto ops.size m := by
      apply Array.ext
      · simp [upto, hs2]
      · intro i h1 h2
        have hi : i < ops.size := by omega
        have e : ls.getD i true = (upto ops.size m).getD i true := by
          rw [upto_get _ _ _ hi]
          by_cases him : i < m
          · rw [unlisted_zero hu i him]; simp [him]
          · rw [hrest i (by omega) hi]; simp [him]
        simpa [h1, h2] using e
    rw [this]
    simpa using wpAny_tail hB (ops.size - m) m a w (by omega) (Nat.le_refl _) h.2
  | succ fuel ih =>
    intro l₁ ls a w hs1 hs2 hsame hrest hd hu h
    have hf : ∀ b c (i : Nat), i < ops.size → ls.getD i b = ls.getD i c := fun b c i hi => by simp [show i < ls.size by omega]
    obtain ⟨i0, hi0, hi1, hi2⟩ := unlisted_pos (ls := ls) (m := m) (by omega)
    have hrd : ∀ i, i ∈ Region.ready .any ops ls → i < m := fun i hi => by
      obtain ⟨h1, h2, h3⟩ := ready_iff.1 hi
      rcases Nat.lt_or_ge i m with h' | h'
      · exact h'
      · have := reach_listed hs2 hd (bar_aft hB) f i i0 h1 (bar_reach hB i h1 h' i0 (by omega)) h3
        rw [hf false true i0 (by omega), hi1] at this
        cases this
    have hin : ∀ i, i ∈ Region.ready .any ops ls → i ∈ Region.ready .any (ops.extract 0 m) l₁ := fun i hi => by
      have him := hrd i hi
      obtain ⟨h1, h2, h3⟩ := ready_iff.1 hi
      refine ready_iff.2 ⟨by omega, by rw [← hsame i him]; exact h2, fun k hk => ?_⟩
      rw [haft i him] at hk
      have hki := bar_aft hB i h1 k hk
      have := h3 k hk
      rw [hf false true k (by omega), hsame k (by omega)] at this
      simpa [show k < l₁.size by omega] using this
    have hi0r : i0 ∈ Region.ready .any ops ls := ready_iff.2 ⟨by omega, hi1, fun k hk => by
      have := bar_aft hB i0 (by omega) k hk
      rw [hf false true k (by omega)]; exact hi2 k this⟩
    rw [show fuel + 1 + (ops.size - m) = (fuel + (ops.size - m)) + 1 by omega]
    refine ⟨fun h0 => absurd hi0r (by rw [h0]; simp), fun i hi => ?_⟩
    have him := hrd i hi
    obtain ⟨h1, h2, h3⟩ := ready_iff.1 hi
    have hstep := h.2 i (hin i hi)
    have next : ∀ a w, wpAny P .any (ops.extract 0 m) (Qtail P ops Q m (ops.size - m)) fuel (l₁.setIfInBounds i true) a w → wpAny P .any ops Q (fuel + (ops.size - m)) (ls.setIfInBounds i true) a w := fun a w hh => by
      refine ih _ _ a w (by simpa using hs1) (by simpa using hs2) (fun j hj => ?_) (fun j hj hj' => ?_) (fun j hj hj' k hk => ?_) (by have := unlisted_set h2 him (by omega); omega) hh
      · by_cases e : i = j
        · subst e; simp [show i < ls.size by omega, show i < l₁.size by omega]
        · have := hsame j hj
          simp only [Array.getD_eq_getD_getElem?, Array.getElem?_setIfInBounds_ne e] at this ⊢
          exact this
      · have := hrest j hj hj'
        simp only [Array.getD_eq_getD_getElem?, Array.getElem?_setIfInBounds_ne (show i ≠ j by omega)] at this ⊢
        exact this
      · by_cases e : i = j
        · subst e
          have hki := bar_aft hB i h1 k hk
          have := h3 k hk
          simp only [Array.getD_eq_getD_getElem?, Array.getElem?_setIfInBounds_ne (show i ≠ k by omega)] at this ⊢
          exact this
        · have hj2 : ls.getD j true = true := by
            simp only [Array.getD_eq_getD_getElem?, Array.getElem?_setIfInBounds_ne e] at hj ⊢
            exact hj
          have := hd j hj2 hj' k hk
          by_cases e2 : i = k
          · subst e2; simp [show i < ls.size by omega]
          · simp only [Array.getD_eq_getD_getElem?, Array.getElem?_setIfInBounds_ne e2] at this ⊢
            exact this
    unfold wpOp at hstep ⊢
    rw [hget i him] at hstep
    have ho : ops[i]? = some ops[i] := by simp [h1]
    rw [ho] at hstep ⊢
    simp only at hstep ⊢
    have hy : Region.wanted ops[i] (yielded (ops.extract 0 m) a.tmps) = Region.wanted ops[i] (yielded ops a.tmps) := by
      unfold Region.wanted
      cases hg : (ops[i]).guard with
      | none => rfl
      | some g =>
        obtain ⟨j, wt⟩ := g
        have := bar_guard hB i ops[i] j wt ho hg
        simp only [yielded]
        rw [hget j (by omega)]
    rw [hy] at hstep
    split
    · rename_i hw
      rw [if_pos hw] at hstep
      rcases hstep with hh | ⟨hh, a0, w0, hq⟩
      · exact .inl (oper_wp_tail next hh)
      · exact .inr ⟨hh, a0, w0, hq⟩
    · rename_i hw
      rw [if_neg hw] at hstep
      exact next _ _ hstep

theorem rep_get (n i : Nat) (h : i < n) (b : Bool) : (Array.replicate n false).getD i b = false := by simp [h]
theorem chain_any {N : Nat} {l : List Oper} {t t' : Tms} {σ : Sto} {F : Nat → Prop} {base : Nat} {E : Env} {arr : Array Value} {ds : List Deferred} {w : World} {Q : Exit → Act → World → Prop} (hs : SatSt F base N ⟨t, σ⟩ E ⟨arr, ds⟩ w) (D : List Nat) (hB : Region.lexB .any l.toArray = true)
    (hn : (l.all fun o => o.dst.all fun e => decide (e < N) && D.contains e) = true) (h : ChainD P N l.toArray σ l t t') (hq : ∀ b w', Ext w w' → SatSt F base N ⟨t', σ⟩ E ⟨b, ds⟩ w' → Q .normal ⟨b, ds⟩ w') :
    wpAny P .any l.toArray Q l.length (Array.replicate l.length false) ⟨arr, ds⟩ { w with drawn := w.drawn + 1 } := by
  have hsz : arr.size = N := hs.size
  have hn' : ∀ o ∈ l, ∀ e, o.dst = some e → e < arr.size ∧ e ∈ D := fun o ho e he => by
    have := List.all_eq_true.1 hn o ho
    rw [he] at this
    simp at this
    rw [hsz]; exact this
  have h1 := h.abs (E := E) (w := w) (F := F) (base := base) (C := fun w' => Ext w w' ∧ Sat F base σ E w') (fun w' hw' => hw') (G := fun β => Knows E w β t') (fun β hβ => hβ) (fun t v _ => v = arr.getD t undef) (fun k p hk v w' hE hv => by
    subst hv
    have := hs.tmp k p hk
    simpa [Act.eval] using this.ext hE)
  have h2 := wpAbs_off (D := D) l _ (fun t v _ => v = arr.getD t undef) (fun _ _ => rfl) (fun o ho e he => (hn' o ho e he).2) h1
  simp only [Region.lexB, Bool.and_eq_true] at hB
  have h3 := wpAnyA_lex (md := .any) (ops := l.toArray) l 0 (Array.replicate l.toArray.size false) _ (by simp) (by simpa using hB.2) h2
  have hE : Ext w { w with drawn := w.drawn + 1 } := ⟨rfl, rfl, rfl, Nat.le_refl _, fun _ _ => rfl⟩
  have h4 := wpAny_of_abs (P := P) (ops := l.toArray) (md := .any) (n := arr.size) (d := ds) (Q := Q) (C := fun w' => Ext w w' ∧ Sat F base σ E w') (fun w₁ w₂ h12 h13 => ⟨h12.1.trans h13, h12.2.ext h13⟩)
    (fun i o ho e he => (hn' o (by simpa using Array.mem_of_getElem? ho) e he).1) (fun β a w' hw' hs' hF => ?_) l.length _ _ ⟨arr, ds⟩ { w with drawn := w.drawn + 1 } (fun t => mono_fix _) ⟨hE, hs.sat.ext hE⟩ ⟨fun t => rfl, rfl, rfl⟩ h3
  · simpa using h4
  · obtain ⟨hK, hoff⟩ := hF
    obtain ⟨hs1, hs2, hs3⟩ := hs'
    obtain ⟨b, dd⟩ := a
    simp only at hs2 hs3
    subst hs2
    exact hq b w' hw'.1 ⟨hw'.2, fun k p hk => hK k p hk _ w' hw'.1 (hs1 k), hs.dfr, by rw [← hsz]; exact hs3⟩
theorem W_drawSeq {N L : Nat} {id : Nat} {l : List Oper} {t t' : Tms} {σ : Sto} {Q : Exit → St → Prop} (m f : Nat) (D : List Nat) (hm : P.follows .mixedOrders = true) (hB : Region.lexB .any (l.take m).toArray = true)
    (hn : ((l.take m).all fun o => o.dst.all fun e => decide (e < N) && D.contains e) = true) (hbar : barB l.toArray f m = true) (hml : Nat.ble m l.length = true)
    (h : ChainD P N (l.take m).toArray σ (l.take m) t t') (hw : WR P N L l.toArray (l.drop m) ⟨t', σ⟩ (fun s => Q .normal s)) : W P N L (.region id l.toArray true) ⟨t, σ⟩ Q := fun F base E₀ w₀ E a w hc hs => by
  obtain ⟨arr, ds⟩ := a
  have hmle : m ≤ l.length := Nat.ble_eq.mp hml
  have hlt : (l.take m).length = m := by simp; omega
  refine wp_region_any hm ?_
  have hfr := chain_any (Q := Qtail P l.toArray (fun e a' w' => Post F base N E₀ w₀ (Q e) a' w') m (l.toArray.size - m)) hs D hB hn h (fun b w' hE hs' => by
    have := hw F base E₀ w₀ E ⟨b, ds⟩ w' (hc.on (.ext hE) (Below.ofExt hE hs.sat.bl)) hs' (fun e a' w' => Post F base N E₀ w₀ (Q e) a' w') m (fun a' w' hp => hp) (fun j => by simp)
    simpa [Qtail] using this)
  have he : l.toArray.extract 0 m = (l.take m).toArray := by simp
  have := wpAny_front (P := P) hbar (by simpa using hmle) (Q := fun e a' w' => Post F base N E₀ w₀ (Q e) a' w') m (Array.replicate m false) (Array.replicate l.toArray.size false) ⟨arr, ds⟩ { w with drawn := w.drawn + 1 } (by simp) (by simp) (fun i hi => by rw [rep_get _ _ hi, rep_get _ _ (by simp; omega)]) (fun i _ hi => rep_get _ _ hi _) (fun i hi hi' => by
      have : (Array.replicate l.toArray.size false).getD i true = false := rep_get _ _ hi' _
      rw [this] at hi; cases hi) (by
      have : ∀ k, k ≤ l.length → unlisted (Array.replicate l.toArray.size false) k = k := by
        intro k
        induction k with
        | zero => intro _; rfl
        | succ k ih =>
          intro hk
          simp only [unlisted]
          rw [ih (by omega)]
          have : (Array.replicate l.toArray.size false).getD k true = false := rep_get _ _ (by simp; omega) _
          rw [this]; simp
      exact this m hmle) (by rw [he]; rw [hlt] at hfr; exact hfr)
  rw [show m + (l.toArray.size - m) = l.toArray.size by simp; omega] at this
  exact this
theorem W_dss {N L : Nat} {id : Nat} {l : List Oper} {y : Code} {t t' : Tms} {σ : Sto} {Q : Exit → St → Prop} (m f : Nat) (D : List Nat) (hm : P.follows .mixedOrders = true) (hB : Region.lexB .any (l.take m).toArray = true)
    (hn : ((l.take m).all fun o => o.dst.all fun e => decide (e < N) && D.contains e) = true) (hbar : barB l.toArray f m = true) (hml : Nat.ble m l.length = true)
    (h : ChainD P N (l.take m).toArray σ (l.take m) t t') (hw : WR P N L l.toArray (l.drop m) ⟨t', σ⟩ (fun s => W P N L y s Q)) : W P N L (.seq (.region id l.toArray true) y) ⟨t, σ⟩ Q := W_seq (W_drawSeq m f D hm hB hn hbar hml h hw)
end
end PW
end Go.Proofs.YtkaalpdfppbdeaaDoor
