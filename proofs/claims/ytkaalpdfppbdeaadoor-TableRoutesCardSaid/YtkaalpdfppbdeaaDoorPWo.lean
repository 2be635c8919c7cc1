/- Pure walks: all orders of a region, to one state; a row is sealed. No program in sight. -/
import Derived.Test.YtkaalpdfppbdeaaDoorPWw
namespace Go.Proofs.YtkaalpdfppbdeaaDoor
namespace PW
open Go.RowKit Reg Mem
section
variable {P : Program} {N L : Nat} {ops : Array Oper}
theorem WA.mono : ∀ {n : Nat} {ls : Array Bool} {st : St} {K K' : St → Prop}, WA P N L ops n ls st K → (∀ s, K s → K' s) → WA P N L ops n ls st K'
  | 0, _, _, _, _, h, hk => ⟨h.1, hk _ h.2⟩
  | _ + 1, _, _, _, _, h, hk => ⟨h.1, fun i hi => by
      obtain ⟨o, h1, h2, h3⟩ := h.2 i hi
      exact ⟨o, h1, h2, h3.mono fun s hs => WA.mono hs hk⟩⟩
/-- Whatever the order, the state is the same one. -/
theorem W_ordersTo {id : Nat} {l : List Oper} {y : Code} {st : St} {Q : Exit → St → Prop} (t' : Tms) (σ' : Sto) (hm : P.follows .mixedOrders = true) (h : WA P N L l.toArray l.length (Array.replicate l.length false) st (fun s => s.σ = σ' ∧ Sub s.t t')) (hq : W P N L y ⟨t', σ'⟩ Q) : W P N L (.seq (.region id l.toArray true) y) st Q :=
  W_orders1 hm (h.mono fun s hs => by
    obtain ⟨t, σ⟩ := s
    obtain ⟨h1, h2⟩ := hs
    subst h1
    exact W_sub h2 hq)
/-- A row of the call's own is no longer written to. -/
theorem Sat.seal {F : Nat → Prop} {base : Nat} {σ : Sto} {E : Env} {w : World} (hS : Sat F base σ E w) {i e s n : Nat} {xs : List PV} (hi : σ[i]? = some (some (.row e s n xs))) {v : Value} (hv : Rep E w v (.own i)) : Rep (E.kill i) w v (.slice n xs) := by
  obtain ⟨_, g⟩ := hS.kill i hi
  cases hv with
  | own _ hiL _ h _ =>
    obtain ⟨cs, k1, k2⟩ := hS.blk i _ hi
    rw [h] at k1
    have k3 := k1
    rcases k1.2 with ⟨rfl, h0⟩ | ⟨b, cap, cur, rfl, hb, hg, hn, hc, hs', ht⟩
    · subst h0
      have : xs = [] := by
        have := k3.1; simp at this; subst this
        exact List.eq_nil_of_length_eq_zero k2.1.symm
      subst this
      exact .nils
    · by_cases h0 : n = 0
      · subst h0
        have : xs = [] := by
          have := k3.1; simp at this; subst this
          exact List.eq_nil_of_length_eq_zero k2.1.symm
        subst this
        exact .empty _ _ hc
      · refine .slice b 0 n cap cs xs (by omega) hn hc (Array.getElem?_eq_some_iff.1 hg).1 (fun hM => hM.2 (by rw [h]; rfl)) (fun j x hx => ?_) k2.1 (fun j x u h1 h2 => (k2.2 j x u h1 h2).goes g)
        have := k3.cells (g := b) rfl j x hx
        rw [Addr.add_lit] at this
        exact this
theorem W_seal {c : Code} {t : Tms} {σ : Sto} {Q : Exit → St → Prop} (k i : Nat) {e s n : Nat} {xs : List PV} (hk : look k t = some (.own i)) (hi : σ[i]? = some (some (.row e s n xs))) (h : W P N L c ⟨(k, .slice n xs) :: t, σ.set i none⟩ Q) : W P N L c ⟨t, σ⟩ Q := fun F base E₀ w₀ E a w hc hs => by
  obtain ⟨a1, a2⟩ := hs.sat.kill i hi
  exact h F base E₀ w₀ _ a w (hc.on a2 (Below.refl _ _)) ⟨a1, (hs.tmp.goes a2).put' (hs.sat.seal hi (hs.tmp k _ hk)), hs.dfr, hs.size⟩
theorem WR_seal {l : List Oper} {t : Tms} {σ : Sto} {K : St → Prop} (k i : Nat) {e s n : Nat} {xs : List PV} (hk : look k t = some (.own i)) (hi : σ[i]? = some (some (.row e s n xs))) (h : WR P N L ops l ⟨(k, .slice n xs) :: t, σ.set i none⟩ K) : WR P N L ops l ⟨t, σ⟩ K := by
  intro F base E₀ w₀ E a w hc hs Q j hQ hl
  obtain ⟨a1, a2⟩ := hs.sat.kill i hi
  exact h F base E₀ w₀ _ a w (hc.on a2 (Below.refl _ _)) ⟨a1, (hs.tmp.goes a2).put' (hs.sat.seal hi (hs.tmp k _ hk)), hs.dfr, hs.size⟩ Q j hQ hl
theorem W_sealPtr {c : Code} {t : Tms} {σ : Sto} {Q : Exit → St → Prop} (k i off : Nat) {ty : TypeId} {xs : List PV} (hk : look k t = some (.ptr i off)) (hi : σ[i]? = some (some (.cells ty xs))) (h : W P N L c ⟨(k, .pin xs off) :: t, σ.set i none⟩ Q) : W P N L c ⟨t, σ⟩ Q := fun F base E₀ w₀ E a w hc hs => by
  obtain ⟨a1, a2⟩ := hs.sat.kill i hi
  have hv := hs.tmp k _ hk
  obtain ⟨b, cs, h1, h2, h3, h4⟩ := hs.sat.blk i _ hi
  have hp : Rep (E.kill i) w (a.eval (.tmp k)) (.pin xs off) := by
    generalize a.eval (.tmp k) = z at hv
    cases hv with
    | ptr _ _ b' hi' h =>
      have hb : b' = b := by
        rcases h with h | ⟨n, c, h⟩ <;> rw [h1] at h <;> cases h
        rfl
      subst hb
      have := Rep.pin (E := E.kill i) (w := w) b' 0 off cs.toList xs (Array.getElem?_eq_some_iff.1 h3).1 (fun hM => hM.2 (by rw [h1]; rfl)) (fun j x hx => by rw [Nat.zero_add]; unfold World.cell?; simp only [h3]; simpa using hx) h4.1 (fun j x u k1 k2 => (h4.2 j x u k1 k2).goes a2)
      rw [Nat.zero_add] at this
      exact this
  exact h F base E₀ w₀ _ a w (hc.on a2 (Below.refl _ _)) ⟨a1, (hs.tmp.goes a2).put' hp, hs.dfr, hs.size⟩
end
end PW
end Go.Proofs.YtkaalpdfppbdeaaDoor
