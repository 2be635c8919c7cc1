/- Arguments that came in, as plain values. No program in sight. -/
import Derived.Test.YtkaalpdfppbdeaaDoorPWd
import Derived.Deep.Slices
import Derived.Lib.SmallJoins
namespace Go.Proofs.YtkaalpdfppbdeaaDoor
namespace PW
open Go.RowKit Reg Mem
open Go.Deep
section
variable {P : Program} {H : Type} {enc : TypeId × Value → H} {W : World}
/-- Nothing may change. -/
abbrev EN : Env := EF fun _ => False
/-- A slice, by its elements. -/
theorem rd_slice {α : Type} {f : α → List PV} {s : Nat} {t e : TypeId} {fuel : Nat} {v : Value} {x : DataW H × List MemPlace} (ht : P.underlying t = some (.slice e)) (hc : P.cellsOf e = s) (hs0 : 0 < s)
    (hel : ∀ n cs y, DataW.trod enc P W 0 (fun _ => true) true n e cs = some y → cs.length = s → ∃ a, RepL EN W cs (f a))
    (h : DataW.trod enc P W 0 (fun _ => true) true fuel t [v] = some x) : ∃ L : List α, Rep EN W v (.slice L.length (L.flatMap f)) := by
  rcases open_slice ht h with ⟨hcs, _⟩ | ⟨a, len, cap, m, n, D, Pl, hcs, _, hl, hm, hmm, _, hx⟩
  · simp at hcs; subst hcs
    exact ⟨[], .nils⟩
  · simp at hcs; subst hcs
    rw [hc] at hx
    simp only [if_true] at hmm
    subst hmm
    have hall : ∀ k, k ≤ len → ∃ (L : List α) (cs : List Value), L.length = k ∧ cs.length = k * s ∧ RepL EN W cs (L.flatMap f) ∧ ∀ (i : Nat) u, cs[i]? = some u → W.cell? (a.add i) = some u := by
      intro k
      induction k with
      | zero => intro _; exact ⟨[], [], rfl, by simp, RepL.nil _ _, fun i u h => by simp at h⟩
      | succ k ih =>
        intro hk
        obtain ⟨L, cs, h1, h2, h3, h4⟩ := ih (by omega)
        obtain ⟨cs', h5, h6⟩ := hx k (by omega)
        obtain ⟨_, hlen, hget⟩ := World.cells?_some h5
        obtain ⟨b, hb⟩ := hel n cs' _ h6 hlen
        refine ⟨L ++ [b], cs ++ cs', by simp [h1], by rw [List.length_append, h2, hlen, Nat.succ_mul], by rw [List.flatMap_append]; simpa using h3.append hb, fun i u hu => ?_⟩
        by_cases hi : i < cs.length
        · rw [List.getElem?_append_left hi] at hu; exact h4 i u hu
        · rw [List.getElem?_append_right (by omega)] at hu
          have hj : i - cs.length < s := by have := (List.getElem?_eq_some_iff.1 hu).1; omega
          have := hget (i - cs.length) hj
          rw [hu] at this
          rw [← this]
          rw [Addr.add_add]
          congr 2
          omega
    obtain ⟨L, cs, h1, h2, h3, h4⟩ := hall len (Nat.le_refl _)
    by_cases h0 : len = 0
    · subst h0
      have : L = [] := List.eq_nil_of_length_eq_zero h1
      subst this
      exact ⟨[], .empty _ _ hm⟩
    · obtain ⟨b, off, spot⟩ := a
      have hlt : 0 < cs.length := by rw [h2]; exact Nat.mul_pos (by omega) hs0
      have hc0 := h4 0 cs[0] (by simp [hlt])
      have hspot : spot = none := by simpa [Addr.add] using World.cell?_spot hc0
      subst hspot
      have hbs : b < W.heap.size := by
        unfold World.cell? at hc0
        split at hc0
        · rename_i hh; exact (Array.getElem?_eq_some_iff.1 hh).1
        · cases hc0
      refine ⟨L, ?_⟩
      rw [h1]
      exact .slice b off len _ cs _ (by omega) hl hm hbs (fun hf => hf) (fun i u hu => by have := h4 i u hu; rw [Addr.add_lit] at this; exact this) h3.1 h3.2
end
end PW
end Go.Proofs.YtkaalpdfppbdeaaDoor
