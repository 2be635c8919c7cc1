/- Dijkstra's search, as plain mathematics. No program in sight. -/
import Derived.Test.YtkaalpdfppbdeaaDoorRelax
namespace Go.Proofs.YtkaalpdfppbdeaaDoor
namespace Net

/-- What is known between two steps of the search: out: the distances of the settled nodes, K: the keys, H: the nodes in the queue, S: arcs that have still to be looked at. -/
structure Dij (T : Topo) (D : List Bool) (n : Nat) (dir : Bool) (out K : List Int) (H : Nat → Prop) (S : Nat → Prop) : Prop where
  len : (out.length : Int) = T.nodes
  ge : ∀ x : Nat, (x : Int) < T.nodes → -1 ≤ at' out (x : Int)
  root : at' out (n : Int) = 0 ∨ (H n ∧ K.getD n 0 = 0)
  hneg : ∀ y, H y → (y : Int) < T.nodes ∧ at' out (y : Int) = -1
  mono : ∀ x y : Nat, (x : Int) < T.nodes → H y → at' out (x : Int) ≤ K.getD y 0
  suppH : ∀ y, H y → (y = n ∧ K.getD y 0 = 0) ∨ ∃ a, a < 2 * T.links.length ∧ arcX T dir a = (y : Int) ∧ Way T D n dir out a ∧ K.getD y 0 = at' out (arcY T dir a) + costN T a
  supp : ∀ x : Nat, (x : Int) < T.nodes → 0 ≤ at' out (x : Int) → x = n ∨ ∃ a, a < 2 * T.links.length ∧ arcX T dir a = (x : Int) ∧ Way T D n dir out a ∧ at' out (x : Int) = at' out (arcY T dir a) + costN T a
  closed : ∀ a, a < 2 * T.links.length → ¬ S a → Way T D n dir out a → (0 ≤ at' out (arcX T dir a) ∧ at' out (arcX T dir a) ≤ at' out (arcY T dir a) + costN T a) ∨ (H (arcX T dir a).toNat ∧ K.getD (arcX T dir a).toNat 0 ≤ at' out (arcY T dir a) + costN T a)
  ub : ∀ x : Nat, (x : Int) < T.nodes → at' out (x : Int) ≤ 65535 * (cnt out : Int)
  ubH : ∀ y, H y → K.getD y 0 ≤ 65535 * (cnt out : Int)
theorem Dij.key {T : Topo} (hT : Sound T) {D : List Bool} {n : Nat} {dir : Bool} {out K : List Int} {H S : Nat → Prop} (h : Dij T D n dir out K H S) {y : Nat} (hy : H y) : 0 ≤ K.getD y 0 := by
  rcases h.suppH y hy with ⟨_, h0⟩ | ⟨a, ha, _, hw, he⟩
  · omega
  · have := hT.cost a ha
    have := hw.2.1
    omega

theorem getK (L : List Int) (i j : Nat) (c : Int) (hi : i < L.length) : (L.set i c).getD j 0 = if j = i then c else L.getD j 0 := by
  by_cases h : j = i
  · subst h; simp [List.getD_eq_getElem?_getD, hi]
  · simp [List.getD_eq_getElem?_getD, List.getElem?_set, Ne.symm h, h]

theorem cnt_neg (N : Nat) : cnt (List.replicate N (-1)) = 0 := by
  induction N with
  | zero => rfl
  | succ N ih => rw [List.replicate_succ]; simp [cnt, ih]
theorem at_neg (N x : Nat) : at' (List.replicate N (-1)) (x : Int) = -1 := by
  unfold at'
  rw [List.getD_eq_getElem?_getD, List.getElem?_replicate]
  split <;> rfl

/-- At first the root alone is in the queue. -/
theorem dij_start {T : Topo} {D : List Bool} {N n : Nat} {dir : Bool} (hN : (N : Int) = T.nodes) (hn : n < N) {K : List Int} {H : Nat → Prop} (hK : K.getD n 0 = 0) (hH : ∀ y, H y ↔ y = n) : Dij T D n dir (List.replicate N (-1)) K H (fun _ => False) where
  len := by simpa using hN
  ge x _ := by rw [at_neg]; omega
  root := .inr ⟨(hH n).2 rfl, hK⟩
  hneg y hy := by have := (hH y).1 hy; subst this; exact ⟨by omega, at_neg N y⟩
  mono x y _ hy := by have := (hH y).1 hy; subst this; rw [at_neg, hK]; omega
  suppH y hy := by have := (hH y).1 hy; subst this; exact .inl ⟨rfl, hK⟩
  supp x _ h := by rw [at_neg] at h; omega
  closed a _ _ hw := by
    have := hw.2.1
    have h2 : at' (List.replicate N (-1)) (arcY T dir a) = -1 := by
      unfold at'
      rw [List.getD_eq_getElem?_getD, List.getElem?_replicate]
      split <;> rfl
    rw [h2] at this; omega
  ub x _ := by rw [at_neg, cnt_neg]; omega
  ubH y hy := by have := (hH y).1 hy; subst this; rw [hK, cnt_neg]; omega

/-- The node with the least key is settled. -/
theorem dij_pop {T : Topo} (hT : Sound T) {D : List Bool} {n : Nat} {dir : Bool} {out K : List Int} {H : Nat → Prop} (h : Dij T D n dir out K H (fun _ => False)) {i : Nat} (hi : H i) (hmin : ∀ j, H j → K.getD i 0 ≤ K.getD j 0) (hKl : i < K.length) {H' : Nat → Prop} (hH' : ∀ j, H' j ↔ H j ∧ j ≠ i) :
    Dij T D n dir (out.set i (K.getD i 0)) (K.set i 0) H' (fun a => arcY T dir a = (i : Int)) ∧ cnt (out.set i (K.getD i 0)) = cnt out + 1 ∧ (∀ x : Nat, (x : Int) < T.nodes → at' (out.set i (K.getD i 0)) (x : Int) ≤ K.getD i 0) ∧ at' (out.set i (K.getD i 0)) (i : Int) = K.getD i 0 ∧ 0 ≤ K.getD i 0 ∧ K.getD i 0 ≤ 65535 * (cnt out : Int) := by
  obtain ⟨hin, hineg⟩ := h.hneg i hi
  have hil : i < out.length := by have := h.len; omega
  have hd := h.key hT hi
  have hdu := h.ubH i hi
  have hat := fun x : Nat => at_set out i x (K.getD i 0) hil
  have hK : ∀ j, j ≠ i → (K.set i 0).getD j 0 = K.getD j 0 := fun j hj => by rw [getK _ _ _ _ hKl, if_neg hj]
  have hcnt : cnt (out.set i (K.getD i 0)) = cnt out + 1 := by
    rw [cnt_set out i _ hil hd, if_neg]
    have : out.getD i (-1) = at' out (i : Int) := by simp [at']
    rw [this, hineg]; omega
  -- where a settled node was settled before
  have hy : ∀ a, a < 2 * T.links.length → Way T D n dir out a → Way T D n dir (out.set i (K.getD i 0)) a ∧ at' (out.set i (K.getD i 0)) (arcY T dir a) = at' out (arcY T dir a) := fun a ha hw => by
    obtain ⟨y, hy⟩ := Int.eq_ofNat_of_zero_le (hT.y dir a ha).1
    have hne : y ≠ i := fun e => by
      have := hw.2.1
      rw [hy, e, hineg] at this; omega
    have e1 : at' (out.set i (K.getD i 0)) (arcY T dir a) = at' out (arcY T dir a) := by rw [hy, hat y, if_neg hne]
    exact ⟨⟨hw.1, by rw [e1]; exact hw.2.1, hw.2.2⟩, e1⟩
  refine ⟨⟨by simpa using h.len, fun x hx => ?_, ?_, fun y hy' => ?_, fun x y hx hy' => ?_, fun y hy' => ?_, fun x hx h0 => ?_, fun a ha hs hw => ?_, fun x hx => ?_, fun y hy' => ?_⟩, hcnt, fun x hx => ?_, by rw [hat i, if_pos rfl], hd, hdu⟩
  · rw [hat x]; split
    · omega
    · exact h.ge x hx
  · by_cases e : n = i
    · subst e
      left
      rw [hat n, if_pos rfl]
      rcases h.root with h0 | ⟨_, h0⟩
      · omega
      · exact h0
    · rcases h.root with h0 | ⟨h1, h0⟩
      · left; rw [hat n, if_neg e]; exact h0
      · right; exact ⟨(hH' n).2 ⟨h1, e⟩, by rw [hK n e]; exact h0⟩
  · obtain ⟨h1, h2⟩ := (hH' y).1 hy'
    obtain ⟨h3, h4⟩ := h.hneg y h1
    exact ⟨h3, by rw [hat y, if_neg h2]; exact h4⟩
  · obtain ⟨h1, h2⟩ := (hH' y).1 hy'
    rw [hat x, hK y h2]
    split
    · exact hmin y h1
    · exact h.mono x y hx h1
  · obtain ⟨h1, h2⟩ := (hH' y).1 hy'
    rw [hK y h2]
    rcases h.suppH y h1 with h3 | ⟨a, ha, hx, hw, he⟩
    · exact .inl h3
    · obtain ⟨k1, k2⟩ := hy a ha hw
      exact .inr ⟨a, ha, hx, k1, by rw [k2]; exact he⟩
  · rw [hat x] at h0 ⊢
    by_cases e : x = i
    · subst e
      rw [if_pos rfl]
      rcases h.suppH x hi with ⟨h3, _⟩ | ⟨a, ha, hx, hw, he⟩
      · exact .inl h3
      · obtain ⟨k1, k2⟩ := hy a ha hw
        exact .inr ⟨a, ha, hx, k1, by rw [k2]; exact he⟩
    · rw [if_neg e] at h0 ⊢
      rcases h.supp x hx h0 with h3 | ⟨a, ha, hx, hw, he⟩
      · exact .inl h3
      · obtain ⟨k1, k2⟩ := hy a ha hw
        exact .inr ⟨a, ha, hx, k1, by rw [k2]; exact he⟩
  · obtain ⟨y, hya⟩ := Int.eq_ofNat_of_zero_le (hT.y dir a ha).1
    have hne : y ≠ i := fun e => hs (by rw [hya, e])
    have e1 : at' (out.set i (K.getD i 0)) (arcY T dir a) = at' out (arcY T dir a) := by rw [hya, hat y, if_neg hne]
    have hw0 : Way T D n dir out a := ⟨hw.1, by rw [← e1]; exact hw.2.1, hw.2.2⟩
    obtain ⟨x, hxa⟩ := Int.eq_ofNat_of_zero_le (hT.x dir a ha).1
    have hc := h.closed a ha (fun f => f) hw0
    rw [e1]
    rw [hxa] at hc ⊢
    rw [Int.toNat_natCast] at hc ⊢
    rw [hat x]
    by_cases e : x = i
    · subst e
      left
      rw [if_pos rfl]
      rcases hc with ⟨h1, _⟩ | ⟨_, h2⟩
      · rw [hineg] at h1; omega
      · exact ⟨hd, h2⟩
    · rw [if_neg e]
      rcases hc with h1 | ⟨h1, h2⟩
      · exact .inl h1
      · exact .inr ⟨(hH' x).2 ⟨h1, e⟩, by rw [hK x e]; exact h2⟩
  · rw [hat x, hcnt]
    split
    · omega
    · have := h.ub x hx; omega
  · obtain ⟨h1, h2⟩ := (hH' y).1 hy'
    rw [hK y h2, hcnt]
    have := h.ubH y h1; omega
  · rw [hat x]
    split
    · omega
    · exact h.mono x i hx hi

/-- No arc leads on from a node that is passed by no path. -/
theorem dij_over {T : Topo} {D : List Bool} {n : Nat} {dir : Bool} {out K : List Int} {H : Nat → Prop} {i : Nat} (h : Dij T D n dir out K H (fun a => arcY T dir a = (i : Int))) (hi : i ≠ n) (ho : overN T i = true) : Dij T D n dir out K H (fun _ => False) :=
  { h with closed := fun a ha _ hw => h.closed a ha (fun e => by
      rcases hw.2.2 with h1 | h1
      · rw [h1] at e; exact hi (by omega)
      · rw [e, Int.toNat_natCast, ho] at h1; cases h1) hw }
/-- An arc has been looked at, and tells nothing new. -/
theorem dij_old {T : Topo} {D : List Bool} {n : Nat} {dir : Bool} {out K : List Int} {H S S' : Nat → Prop} (h : Dij T D n dir out K H S) {a : Nat} (hS : ∀ b, b < 2 * T.links.length → S b → S' b ∨ b = a)
    (hc : Way T D n dir out a → (0 ≤ at' out (arcX T dir a) ∧ at' out (arcX T dir a) ≤ at' out (arcY T dir a) + costN T a) ∨ (H (arcX T dir a).toNat ∧ K.getD (arcX T dir a).toNat 0 ≤ at' out (arcY T dir a) + costN T a)) : Dij T D n dir out K H S' :=
  ⟨h.len, h.ge, h.root, h.hneg, h.mono, h.suppH, h.supp, fun b hb hs hw => by
      by_cases e : b = a
      · subst e
        exact hc hw
      · exact h.closed b hb (fun hb' => (hS b hb hb').elim hs e) hw, h.ub, h.ubH⟩
/-- An arc leads to a node with a new key. -/
theorem dij_set {T : Topo} (hT : Sound T) {D : List Bool} {n : Nat} {dir : Bool} {out K : List Int} {H H' S S' : Nat → Prop} (h : Dij T D n dir out K H S) {a m : Nat} (ha : a < 2 * T.links.length) (hS : ∀ b, b < 2 * T.links.length → S b → S' b ∨ b = a)
    (hw : Way T D n dir out a) (hm : arcX T dir a = (m : Int)) (hneg : at' out (m : Int) < 0) (htop : ∀ x : Nat, (x : Int) < T.nodes → at' out (x : Int) ≤ at' out (arcY T dir a)) (hub : at' out (arcY T dir a) + 65535 ≤ 65535 * (cnt out : Int))
    (hnew : ¬ H m ∨ at' out (arcY T dir a) + costN T a < K.getD m 0) (hml : m < K.length) (hH' : ∀ j, H' j ↔ H j ∨ j = m) :
    Dij T D n dir out (K.set m (at' out (arcY T dir a) + costN T a)) H' S' := by
  have hc := hT.cost a ha
  have hmN : (m : Int) < T.nodes := by have := (hT.x dir a ha).2; omega
  have hK : ∀ j, (K.set m (at' out (arcY T dir a) + costN T a)).getD j 0 = if j = m then at' out (arcY T dir a) + costN T a else K.getD j 0 := fun j => getK _ _ _ _ hml
  have hy0 := hw.2.1
  refine ⟨h.len, h.ge, ?_, fun y hy => ?_, fun x y hx hy => ?_, fun y hy => ?_, h.supp, fun b hb hs hwb => ?_, h.ub, fun y hy => ?_⟩
  · rcases h.root with h0 | ⟨h1, h0⟩
    · exact .inl h0
    · right
      refine ⟨(hH' n).2 (.inl h1), ?_⟩
      rw [hK n, if_neg, h0]
      intro e
      subst e
      rcases hnew with h2 | h2
      · exact h2 h1
      · omega
  · rcases (hH' y).1 hy with h1 | rfl
    · exact h.hneg y h1
    · have := h.ge y hmN
      exact ⟨hmN, by omega⟩
  · rw [hK y]
    have := htop x hx
    split
    · omega
    · rename_i e
      exact h.mono x y hx (((hH' y).1 hy).resolve_right e)
  · rw [hK y]
    by_cases e : y = m
    · subst e
      rw [if_pos rfl]
      exact .inr ⟨a, ha, hm, hw, rfl⟩
    · rw [if_neg e]
      exact h.suppH y (((hH' y).1 hy).resolve_right e)
  · obtain ⟨x, hx⟩ := Int.eq_ofNat_of_zero_le (hT.x dir b hb).1
    by_cases e : b = a
    · subst e
      right
      rw [hm, Int.toNat_natCast]
      exact ⟨(hH' m).2 (.inr rfl), by rw [hK m, if_pos rfl]; exact Int.le_refl _⟩
    · have h1 := h.closed b hb (fun hb' => (hS b hb hb').elim hs e) hwb
      rw [hx, Int.toNat_natCast] at h1 ⊢
      rcases h1 with h1 | ⟨h1, h2⟩
      · exact .inl h1
      · right
        refine ⟨(hH' x).2 (.inl h1), ?_⟩
        rw [hK x]
        split
        · rename_i e'
          subst e'
          rcases hnew with h3 | h3
          · exact absurd h1 h3
          · omega
        · exact h2
  · rw [hK y]
    split
    · omega
    · rename_i e
      exact h.ubH y (((hH' y).1 hy).resolve_right e)
/-- With an empty queue, the distances are found. -/
theorem dij_end {T : Topo} {D : List Bool} {n : Nat} {dir : Bool} {out K : List Int} {H : Nat → Prop} (h : Dij T D n dir out K H (fun _ => False)) (hH : ∀ y, ¬ H y) : IsDist T D n dir out :=
  ⟨h.len, h.root.resolve_right (fun k => hH n k.1), h.ge, fun a ha hw => (h.closed a ha (fun f => f) hw).resolve_right (fun k => hH _ k.1), h.supp⟩
end Net
end Go.Proofs.YtkaalpdfppbdeaaDoor
