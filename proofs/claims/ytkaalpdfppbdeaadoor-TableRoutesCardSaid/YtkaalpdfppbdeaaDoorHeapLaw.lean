/- A binary heap: plain laws on ranks along the tree. No program in sight. -/
namespace Go.Proofs.YtkaalpdfppbdeaaDoor
namespace Heap

/-- The parent of a place. -/
def par (q : Nat) : Nat := (q - 1) / 2
theorem par_lt {q : Nat} (h : 0 < q) : par q < q := by unfold par; omega
theorem par_kid {p c : Nat} (h : 0 < c) (hc : par c = p) : c = 2 * p + 1 ∨ c = 2 * p + 2 := by unfold par at hc; omega
theorem kid1 (p : Nat) : par (2 * p + 1) = p := by unfold par; omega
theorem kid2 (p : Nat) : par (2 * p + 2) = p := by unfold par; omega

def Heapy (f : Nat → Int) (len : Nat) : Prop := ∀ q, 0 < q → q < len → f (par q) ≤ f q
def Grand (f : Nat → Int) (len p : Nat) : Prop := 0 < p → ∀ c, 0 < c → c < len → par c = p → f (par p) ≤ f c
def Loose (f : Nat → Int) (len p : Nat) : Prop := (∀ q, 0 < q → q < len → q ≠ p → par q ≠ p → f (par q) ≤ f q) ∧ Grand f len p
def Downy (f : Nat → Int) (len p : Nat) : Prop := (∀ q, 0 < q → q < len → par q ≠ p → f (par q) ≤ f q) ∧ Grand f len p

/-- f with the places p and q exchanged. -/
def fsw (f : Nat → Int) (p q x : Nat) : Int := if x = p then f q else if x = q then f p else f x
theorem fsw_p (f : Nat → Int) (p q : Nat) : fsw f p q p = f q := by simp [fsw]
theorem fsw_q (f : Nat → Int) (p q : Nat) : fsw f p q q = f p := by
  unfold fsw; split
  · rename_i h; rw [h]
  · simp
theorem fsw_ne (f : Nat → Int) {p q x : Nat} (h1 : x ≠ p) (h2 : x ≠ q) : fsw f p q x = f x := by simp [fsw, h1, h2]

theorem loose_up {f : Nat → Int} {len p : Nat} (h : Loose f len p) (hp : 0 < p) (hl : p < len) (_ : f p < f (par p)) : Loose (fsw f p (par p)) len (par p) := by
  have hpp := par_lt hp
  refine ⟨fun q h0 hq h1 h2 => ?_, fun hg c h0 hc hpc => ?_⟩
  · by_cases e : par q = p
    · have hqp := par_lt h0
      rw [e, fsw_p, fsw_ne f (by omega) h1]
      exact h.2 hp q h0 hq e
    · have hqp : q ≠ p := fun e' => h2 (by rw [e'])
      rw [fsw_ne f e h2, fsw_ne f hqp h1]
      exact h.1 q h0 hq hqp e
  · have hgg := par_lt hg
    rw [fsw_ne f (by omega) (by omega)]
    have h3 := h.1 (par p) hg (by omega) (by omega) (by omega)
    by_cases e : c = p
    · rw [e, fsw_p]; exact h3
    · have := par_lt h0
      rw [fsw_ne f e (by omega)]
      have := h.1 c h0 hc e (by omega)
      rw [hpc] at this
      omega

theorem loose_down {f : Nat → Int} {len p : Nat} (h : Loose f len p) (hp : p = 0 ∨ f (par p) ≤ f p) : Downy f len p :=
  ⟨fun q h0 hq h2 => by
    by_cases e : q = p
    · subst e
      rcases hp with h' | h'
      · omega
      · exact h'
    · exact h.1 q h0 hq e h2, h.2⟩

theorem downy_heap {f : Nat → Int} {len p : Nat} (h : Downy f len p) (hk : ∀ c, 0 < c → c < len → par c = p → f p ≤ f c) : Heapy f len := fun q h0 hq => by
  by_cases e : par q = p
  · rw [e]; exact hk q h0 hq e
  · exact h.1 q h0 hq e

theorem downy_step {f : Nat → Int} {len p c : Nat} (h : Downy f len p) (hc0 : 0 < c) (hcl : c < len) (hcp : par c = p) (hlt : f c < f p) (hk : ∀ c', 0 < c' → c' < len → par c' = p → f c ≤ f c') : Downy (fsw f p c) len c := by
  have hpc := par_lt hc0
  refine ⟨fun q h0 hq h2 => ?_, fun _ d h0 hd hdc => ?_⟩
  · have hqq := par_lt h0
    by_cases e : par q = p
    · rw [e, fsw_p]
      by_cases e' : q = c
      · rw [e', fsw_q]; omega
      · rw [fsw_ne f (by omega) e']; exact hk q h0 hq e
    · rw [fsw_ne f e h2]
      by_cases e' : q = p
      · rw [e', fsw_p]
        exact h.2 (by omega) c hc0 hcl hcp
      · rw [fsw_ne f e' (fun e2 => e (by rw [e2]; exact hcp))]
        exact h.1 q h0 hq e
  · have hdd := par_lt h0
    rw [hcp, fsw_p, fsw_ne f (by omega) (by omega)]
    have := h.1 d h0 hd (by omega)
    rw [hdc] at this
    exact this

theorem heapy_min {f : Nat → Int} {len : Nat} (h : Heapy f len) : ∀ q, q < len → f 0 ≤ f q := by
  intro q
  induction q using Nat.strongRecOn with
  | _ q ih =>
    intro hq
    by_cases e : q = 0
    · rw [e]; exact Int.le_refl _
    · have := par_lt (q := q) (by omega)
      exact Int.le_trans (ih (par q) this (by omega)) (h q (by omega) hq)

/-- One place is turned. -/
theorem heapy_loose {f g : Nat → Int} {len p : Nat} (h : Heapy f len) (he : ∀ q, q < len → q ≠ p → g q = f q) (hp : p < len) : Loose g len p := by
  refine ⟨fun q h0 hq h1 h2 => ?_, fun hp0 c h0 hc hcp => ?_⟩
  · have := par_lt h0
    rw [he q hq h1, he (par q) (by omega) h2]; exact h q h0 hq
  · have := par_lt h0
    have := par_lt hp0
    rw [he (par p) (by omega) (by omega), he c hc (by omega)]
    have h1 := h c h0 hc
    rw [hcp] at h1
    exact Int.le_trans (h p hp0 hp) h1
/-- One place more. -/
theorem heapy_more {f g : Nat → Int} {len : Nat} (h : Heapy f len) (he : ∀ q, q < len → g q = f q) : Loose g (len + 1) len := by
  refine ⟨fun q h0 hq h1 _ => ?_, fun hp0 c h0 hc hcp => ?_⟩
  · have := par_lt h0
    rw [he q (by omega), he (par q) (by omega)]; exact h q h0 (by omega)
  · have := par_lt h0; omega
/-- The first place is turned, and the last one gone. -/
theorem heapy_less {f g : Nat → Int} {len : Nat} (h : Heapy f (len + 1)) (he : ∀ q, q < len → q ≠ 0 → g q = f q) : Loose g len 0 := by
  refine ⟨fun q h0 hq h1 h2 => ?_, fun hp0 => by omega⟩
  have := par_lt h0
  rw [he q hq h1, he (par q) (by omega) h2]; exact h q h0 (by omega)

/-- An item's rank: by its key, then by its number. -/
def rank (K : List Int) (i : Int) : Int := K.getD i.toNat 0 * 65536 + i
def rk (K O : List Int) (p : Nat) : Int := rank K (O.getD p 0)
theorem rank_lt {K : List Int} {i j : Int} (hi : 0 ≤ i) (hi' : i < 65536) (hj : 0 ≤ j) (hj' : j < 65536) :
    decide (rank K i < rank K j) = (if K.getD i.toNat 0 = K.getD j.toNat 0 then decide (i < j) else decide (K.getD i.toNat 0 < K.getD j.toNat 0)) := by
  unfold rank
  generalize K.getD i.toNat 0 = a
  generalize K.getD j.toNat 0 = b
  split
  · simp only [decide_eq_decide]; omega
  · simp only [decide_eq_decide]; omega
theorem rank_key {K : List Int} {i j : Int} (hi : 0 ≤ i) (hj' : j < 65536) (h : rank K i ≤ rank K j) : K.getD i.toNat 0 ≤ K.getD j.toNat 0 := by
  unfold rank at h; omega

def swapL (O : List Int) (p q : Nat) : List Int := (O.set p (O.getD q 0)).set q (O.getD p 0)
theorem swapL_len (O : List Int) (p q : Nat) : (swapL O p q).length = O.length := by simp [swapL]
theorem getD_set (L : List Int) (i j : Nat) (c : Int) (hi : i < L.length) : (L.set i c).getD j 0 = if j = i then c else L.getD j 0 := by
  simp only [List.getD_eq_getElem?_getD, List.getElem?_set]
  by_cases h : i = j
  · subst h; simp [hi]
  · rw [if_neg h, if_neg (Ne.symm h)]
theorem swapL_get (O : List Int) (p q x : Nat) (hp : p < O.length) (hq : q < O.length) : (swapL O p q).getD x 0 = if x = q then O.getD p 0 else if x = p then O.getD q 0 else O.getD x 0 := by
  unfold swapL
  rw [getD_set _ _ _ _ (by simpa using hq), getD_set _ _ _ _ hp]
theorem rk_swap (K O : List Int) (p q : Nat) (hp : p < O.length) (hq : q < O.length) : rk K (swapL O p q) = fsw (rk K O) p q := by
  funext x
  unfold rk fsw
  rw [swapL_get O p q x hp hq]
  by_cases h1 : x = q
  · subst h1
    rw [if_pos rfl]
    by_cases h2 : x = p
    · rw [if_pos h2, h2]
    · rw [if_neg h2, if_pos rfl]
  · rw [if_neg h1]
    by_cases h2 : x = p
    · rw [if_pos h2, if_pos h2]
    · rw [if_neg h2, if_neg h2, if_neg h1]

/-- The item i is held. -/
def Held (O : List Int) (i : Int) : Prop := ∃ p, p < O.length ∧ O.getD p 0 = i
theorem held_swap (O : List Int) (p q : Nat) (hp : p < O.length) (hq : q < O.length) (i : Int) : Held (swapL O p q) i ↔ Held O i := by
  unfold Held
  rw [swapL_len]
  constructor
  · rintro ⟨x, hx, rfl⟩
    rw [swapL_get O p q x hp hq]
    split
    · exact ⟨p, hp, rfl⟩
    · split
      · exact ⟨q, hq, rfl⟩
      · exact ⟨x, hx, rfl⟩
  · rintro ⟨x, hx, rfl⟩
    by_cases h1 : x = p
    · exact ⟨q, hq, by rw [swapL_get O p q q hp hq, if_pos rfl, h1]⟩
    · by_cases h2 : x = q
      · exact ⟨p, hp, by
          rw [swapL_get O p q p hp hq]
          by_cases h3 : p = q
          · omega
          · rw [if_neg h3, if_pos rfl, h2]⟩
      · exact ⟨x, hx, by rw [swapL_get O p q x hp hq, if_neg h2, if_neg h1]⟩

/-- The places of the items are told by P. -/
structure Placed (N : Nat) (P O : List Int) : Prop where
  len : P.length = N
  item : ∀ p, p < O.length → 0 ≤ O.getD p 0 ∧ O.getD p 0 < N ∧ P.getD (O.getD p 0).toNat 0 = (p : Int) + 1
  place : ∀ i, i < N → P.getD i 0 = 0 ∨ ∃ p, p < O.length ∧ O.getD p 0 = (i : Int)

theorem Placed.inj {N : Nat} {P O : List Int} (h : Placed N P O) {p q : Nat} (hp : p < O.length) (hq : q < O.length) (he : O.getD p 0 = O.getD q 0) : p = q := by
  have h1 := (h.item p hp).2.2
  have h2 := (h.item q hq).2.2
  rw [he] at h1
  omega
/-- The list of places behind an exchange. -/
def placeL (P O : List Int) (p q : Nat) : List Int := (P.set (O.getD q 0).toNat ((p : Int) + 1)).set (O.getD p 0).toNat ((q : Int) + 1)
theorem Placed.swap {N : Nat} {P O : List Int} (h : Placed N P O) {p q : Nat} (hp : p < O.length) (hq : q < O.length) : Placed N (placeL P O p q) (swapL O p q) := by
  have ip := h.item p hp
  have iq := h.item q hq
  have hl := h.len
  refine ⟨by simp [placeL, h.len], fun x hx => ?_, fun i hi => ?_⟩
  · rw [swapL_len] at hx
    have ix := h.item x hx
    have e : ∀ j : Int, 0 ≤ j → j < N → (placeL P O p q).getD j.toNat 0 = if j = O.getD p 0 then (q : Int) + 1 else if j = O.getD q 0 then (p : Int) + 1 else P.getD j.toNat 0 := fun j h0 h1 => by
      unfold placeL
      rw [getD_set _ _ _ _ (by rw [List.length_set]; omega), getD_set _ _ _ _ (by omega)]
      have e1 : (j.toNat = (O.getD p 0).toNat) = (j = O.getD p 0) := by apply propext; omega
      have e2 : (j.toNat = (O.getD q 0).toNat) = (j = O.getD q 0) := by apply propext; omega
      simp only [e1, e2]
    rw [swapL_get O p q x hp hq]
    by_cases h1 : x = q
    · rw [if_pos h1, e _ ip.1 ip.2.1, if_pos rfl]
      exact ⟨ip.1, ip.2.1, by rw [h1]⟩
    · rw [if_neg h1]
      by_cases h2 : x = p
      · rw [if_pos h2, e _ iq.1 iq.2.1, if_neg (fun e => by have := h.inj hq hp e; omega), if_pos rfl]
        exact ⟨iq.1, iq.2.1, by rw [h2]⟩
      · rw [if_neg h2, e _ ix.1 ix.2.1, if_neg (fun e => h2 (h.inj hx hp e)), if_neg (fun e => h1 (h.inj hx hq e))]
        exact ix
  · by_cases hH : Held O (i : Int)
    · exact .inr ((held_swap O p q hp hq (i : Int)).2 hH)
    · rcases h.place i hi with h0 | h0
      · refine .inl ?_
        unfold placeL
        rw [getD_set _ _ _ _ (by rw [List.length_set]; omega), getD_set _ _ _ _ (by omega), if_neg (fun e => hH ⟨p, hp, by omega⟩), if_neg (fun e => hH ⟨q, hq, by omega⟩)]
        exact h0
      · exact absurd h0 hH

theorem Placed.zero {N : Nat} {P O : List Int} (h : Placed N P O) {i : Nat} (hi : i < N) : P.getD i 0 = 0 ↔ ¬ Held O (i : Int) := by
  constructor
  · rintro h0 ⟨p, hp, he⟩
    have := (h.item p hp).2.2
    rw [he, Int.toNat_natCast, h0] at this
    omega
  · intro hn
    rcases h.place i hi with h0 | h0
    · exact h0
    · exact absurd h0 hn

/-- One item more, behind the others. -/
theorem Placed.push {N : Nat} {P O : List Int} (h : Placed N P O) {i : Nat} (hi : i < N) (hn : ¬ Held O (i : Int)) : Placed N (P.set i ((O.length : Int) + 1)) (O ++ [(i : Int)]) := by
  have hl := h.len
  refine ⟨by simp [h.len], fun x hx => ?_, fun j hj => ?_⟩
  · rw [getD_set _ _ _ _ (by omega)]
    by_cases h1 : x < O.length
    · have ix := h.item x h1
      have e : (O ++ [(i : Int)]).getD x 0 = O.getD x 0 := by simp [List.getD_eq_getElem?_getD, List.getElem?_append_left h1]
      rw [e, if_neg (fun e => hn ⟨x, h1, by omega⟩)]
      exact ix
    · have : x = O.length := by simp at hx; omega
      subst this
      have e : (O ++ [(i : Int)]).getD O.length 0 = i := by simp
      rw [e, Int.toNat_natCast, if_pos rfl]
      exact ⟨by omega, by omega, rfl⟩
  · rw [getD_set _ _ _ _ (by omega)]
    by_cases hji : j = i
    · exact .inr ⟨O.length, by simp, by simp [hji]⟩
    · rw [if_neg hji]
      rcases h.place j hj with h0 | ⟨p, hp, he⟩
      · exact .inl h0
      · exact .inr ⟨p, by simp; omega, by simp [List.getD_eq_getElem?_getD, List.getElem?_append_left hp] at he ⊢; exact he⟩
theorem held_push (O : List Int) (i j : Int) : Held (O ++ [i]) j ↔ j = i ∨ Held O j := by
  constructor
  · rintro ⟨p, hp, rfl⟩
    by_cases h1 : p < O.length
    · exact .inr ⟨p, h1, by simp [List.getD_eq_getElem?_getD, List.getElem?_append_left h1]⟩
    · have : p = O.length := by simp at hp; omega
      subst this
      exact .inl (by simp)
  · rintro (rfl | ⟨p, hp, rfl⟩)
    · exact ⟨O.length, by simp, by simp⟩
    · exact ⟨p, by simp; omega, by simp [List.getD_eq_getElem?_getD, List.getElem?_append_left hp]⟩

/-- The last item goes. -/
theorem take_get (O : List Int) (m x : Nat) (h : x < m) : (O.take m).getD x 0 = O.getD x 0 := by
  simp [List.getD_eq_getElem?_getD, h]
theorem Placed.pop {N : Nat} {P O : List Int} {m : Nat} (h : Placed N P O) (hm : O.length = m + 1) : Placed N (P.set (O.getD m 0).toNat 0) (O.take m) := by
  have hl := h.len
  have im := h.item m (by omega)
  refine ⟨by simp [h.len], fun x hx => ?_, fun j hj => ?_⟩
  · have hx' : x < m := by simp at hx; omega
    rw [take_get O m x hx', getD_set _ _ _ _ (by omega)]
    have ix := h.item x (by omega)
    rw [if_neg (fun e => by have := h.inj (p := x) (q := m) (by omega) (by omega) (by omega); omega)]
    exact ix
  · rw [getD_set _ _ _ _ (by omega)]
    by_cases hjm : j = (O.getD m 0).toNat
    · exact .inl (if_pos hjm)
    · rw [if_neg hjm]
      rcases h.place j hj with h0 | ⟨p, hp, he⟩
      · exact .inl h0
      · have : p ≠ m := fun e => hjm (by rw [← e, he]; rfl)
        exact .inr ⟨p, by simp; omega, by rw [take_get O m p (by omega)]; exact he⟩
theorem held_pop {N : Nat} {P O : List Int} {m : Nat} (h : Placed N P O) (hm : O.length = m + 1) (j : Int) : Held (O.take m) j ↔ Held O j ∧ j ≠ O.getD m 0 := by
  constructor
  · rintro ⟨p, hp, rfl⟩
    have hp' : p < m := by simp at hp; omega
    rw [take_get O m p hp']
    exact ⟨⟨p, by omega, rfl⟩, fun e => by have := h.inj (p := p) (q := m) (by omega) (by omega) e; omega⟩
  · rintro ⟨⟨p, hp, rfl⟩, hne⟩
    have : p ≠ m := fun e => hne (by rw [e])
    exact ⟨p, by simp; omega, take_get O m p (by omega)⟩
theorem pigeon : ∀ (N m : Nat) (f : Nat → Nat), (∀ p, p < m → f p < N) → (∀ p q, p < m → q < m → f p = f q → p = q) → m ≤ N
  | 0, m, f, h, _ => by
    rcases Nat.eq_zero_or_pos m with h0 | h0
    · omega
    · have := h 0 h0; omega
  | N + 1, m, f, h, hi => by
    by_cases hx : ∃ p, p < m ∧ f p = N
    · obtain ⟨p0, hp0, he⟩ := hx
      have := pigeon N (m - 1) (fun p => if p = p0 then f (m - 1) else f p) (fun p hp => by
        by_cases e : p = p0
        · simp only [e, if_true]
          have h1 := h (m - 1) (by omega)
          have h2 : f (m - 1) ≠ N := fun e' => by have := hi (m - 1) p0 (by omega) hp0 (by omega); omega
          omega
        · simp only [e, if_false]
          have h1 := h p (by omega)
          have h2 : f p ≠ N := fun e' => e (hi p p0 (by omega) hp0 (by omega))
          omega) (fun p q hp hq hpq => by
        by_cases e : p = p0 <;> by_cases e' : q = p0
        · omega
        · simp only [e, e', if_true, if_false] at hpq
          have := hi (m - 1) q (by omega) (by omega) hpq
          omega
        · simp only [e, e', if_true, if_false] at hpq
          have := hi p (m - 1) (by omega) (by omega) hpq
          omega
        · simp only [e, e', if_false] at hpq
          exact hi p q (by omega) (by omega) hpq)
      omega
    · have := pigeon N m f (fun p hp => by
        have h1 := h p hp
        have h2 : f p ≠ N := fun e => hx ⟨p, hp, e⟩
        omega) hi
      omega
theorem placed_len {N : Nat} {P O : List Int} (h : Placed N P O) : O.length ≤ N :=
  pigeon N O.length (fun p => (O.getD p 0).toNat) (fun p hp => by have := h.item p hp; omega) (fun p q hp hq e => by
    have h1 := h.item p hp
    have h2 := h.item q hq

    exact h.inj hp hq (by omega))
end Heap
end Go.Proofs.YtkaalpdfppbdeaaDoor
