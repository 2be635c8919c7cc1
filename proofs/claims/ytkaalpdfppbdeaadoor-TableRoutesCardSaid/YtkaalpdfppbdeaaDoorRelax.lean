/- Relaxation of arcs, as plain mathematics: what holds while distances are improved arc by arc; that it ends; that the end is the list of distances. No program in sight. -/
import Derived.Test.YtkaalpdfppbdeaaDoorDist
namespace Go.Proofs.YtkaalpdfppbdeaaDoor
namespace Net

/-- How many nodes are reached. -/
def cnt : List Int → Nat
  | [] => 0
  | v :: l => (if 0 ≤ v then 1 else 0) + cnt l
theorem cnt_le (l : List Int) : cnt l ≤ l.length := by
  induction l with
  | nil => exact Nat.le_refl _
  | cons v l ih => simp only [cnt, List.length_cons]; split <;> omega
theorem cnt_set : ∀ (l : List Int) (i : Nat) (c : Int), i < l.length → 0 ≤ c → cnt (l.set i c) = cnt l + (if 0 ≤ l.getD i (-1) then 0 else 1)
  | [], i, c, h, _ => by simp at h
  | v :: l, 0, c, _, hc => by
    simp only [List.set_cons_zero, cnt, List.getD_cons_zero]
    rw [if_pos hc]
    by_cases h : 0 ≤ v
    · rw [if_pos h, if_pos h]; omega
    · rw [if_neg h, if_neg h]; omega
  | v :: l, i + 1, c, h, hc => by
    simp only [List.set_cons_succ, cnt, List.getD_cons_succ]
    rw [cnt_set l i c (by simpa using h) hc]
    omega

/-- What is still to be gained. -/
def wgt (v : Int) : Nat := if v < 0 then 4194241 else v.toNat
def mu : List Int → Nat
  | [] => 0
  | v :: l => wgt v + mu l
theorem mu_set : ∀ (l : List Int) (i : Nat) (c : Int), i < l.length → mu (l.set i c) + wgt (l.getD i (-1)) = mu l + wgt c
  | [], i, c, h => by simp at h
  | v :: l, 0, c, _ => by simp only [List.set_cons_zero, mu, List.getD_cons_zero]; omega
  | v :: l, i + 1, c, h => by
    have := mu_set l i c (by simpa using h)
    simp only [List.set_cons_succ, mu, List.getD_cons_succ]
    omega

structure Inv (T : Topo) (D : List Bool) (n : Nat) (dir : Bool) (out : List Int) : Prop where
  len : (out.length : Int) = T.nodes
  root : at' out (n : Int) = 0
  ge : ∀ x : Nat, (x : Int) < T.nodes → -1 ≤ at' out (x : Int)
  bnd : ∀ x : Nat, (x : Int) < T.nodes → at' out (x : Int) ≤ 65535 * (cnt out : Int)
  supp : ∀ x : Nat, (x : Int) < T.nodes → 0 ≤ at' out (x : Int) → x = n ∨ ∃ a, a < 2 * T.links.length ∧ arcX T dir a = (x : Int) ∧ Way T D n dir out a ∧ at' out (arcY T dir a) + costN T a ≤ at' out (x : Int)

/-- The arc a improves what is known of its end. -/
def Gains (T : Topo) (D : List Bool) (n : Nat) (dir : Bool) (out : List Int) (a : Nat) : Prop :=
  Way T D n dir out a ∧ (at' out (arcX T dir a) < 0 ∨ at' out (arcY T dir a) + costN T a < at' out (arcX T dir a))
def gain (T : Topo) (dir : Bool) (out : List Int) (a : Nat) : List Int := out.set (arcX T dir a).toNat (at' out (arcY T dir a) + costN T a)

theorem at_set (out : List Int) (x y : Nat) (c : Int) (hx : x < out.length) : at' (out.set x c) (y : Int) = if y = x then c else at' out (y : Int) := by
  simp only [at', Int.toNat_natCast, List.getD_eq_getElem?_getD, List.getElem?_set]
  by_cases h : x = y
  · subst h; simp [hx]
  · rw [if_neg h, if_neg (Ne.symm h)]

theorem gain_inv {T : Topo} (hT : Sound T) {D : List Bool} {n : Nat} {dir : Bool} {out : List Int} (h : Inv T D n dir out) (a : Nat) (ha : a < 2 * T.links.length) (hg : Gains T D n dir out a) :
    Inv T D n dir (gain T dir out a) ∧ mu (gain T dir out a) < mu out := by
  obtain ⟨⟨w1, w2, w3⟩, hb⟩ := hg
  have hc := hT.cost a ha
  obtain ⟨x, hx⟩ := Int.eq_ofNat_of_zero_le (hT.x dir a ha).1
  obtain ⟨y, hy⟩ := Int.eq_ofNat_of_zero_le (hT.y dir a ha).1
  have hxn := (hT.x dir a ha).2
  have hyn := (hT.y dir a ha).2
  unfold gain
  rw [hx, hy, Int.toNat_natCast]
  rw [hx, hy] at hb
  rw [hy] at w2 w3
  rw [hx] at hxn
  rw [hy] at hyn
  have hlen := h.len
  have hxl : x < out.length := by omega
  generalize hcc : at' out (y : Int) + costN T a = c at *
  have hby := h.bnd y hyn
  have hxr : x ≠ n := fun e => by
    rw [e, h.root] at hb
    omega
  have hcs := cnt_set out x c hxl (by omega)
  have hgx : out.getD x (-1) = at' out (x : Int) := by simp [at']
  rw [hgx] at hcs
  have at1 := fun z => at_set out x z c hxl
  have reach : ∀ z : Nat, (z : Int) < T.nodes → 0 ≤ at' out (z : Int) → 0 ≤ at' (out.set x c) (z : Int) := fun z _ hz => by
    rw [at1 z]; split <;> omega
  have less : ∀ z : Nat, (z : Int) < T.nodes → 0 ≤ at' out (z : Int) → at' (out.set x c) (z : Int) ≤ at' out (z : Int) := fun z _ hz => by
    rw [at1 z]
    split
    · rename_i e; subst e; omega
    · omega
  have way : ∀ b, b < 2 * T.links.length → Way T D n dir out b → Way T D n dir (out.set x c) b := fun b hbl ⟨v1, v2, v3⟩ => by
    obtain ⟨z, hz⟩ := Int.eq_ofNat_of_zero_le (hT.y dir b hbl).1
    have hzn := (hT.y dir b hbl).2
    refine ⟨v1, ?_, v3⟩
    rw [hz] at v2 hzn ⊢
    exact reach z hzn v2
  refine ⟨⟨by rw [List.length_set]; exact hlen, ?_, fun z hz => ?_, fun z hz => ?_, fun z hz h0 => ?_⟩, ?_⟩
  · rw [at1 n, if_neg (Ne.symm hxr)]; exact h.root
  · rw [at1 z]; split
    · omega
    · exact h.ge z hz
  · rw [at1 z]
    have hbz := h.bnd z hz
    have : (cnt out : Int) ≤ (cnt (out.set x c) : Int) := by rw [hcs]; split <;> omega
    split
    · rw [hcs]
      rename_i e
      subst e
      by_cases hr : 0 ≤ at' out (z : Int)
      · rw [if_pos hr]; omega
      · rw [if_neg hr]; omega
    · omega
  · by_cases e : z = x
    · subst e
      refine .inr ⟨a, ha, hx, way a ha ⟨w1, by rw [hy]; exact w2, by rw [hy]; exact w3⟩, ?_⟩
      rw [hy, at1 z, if_pos rfl]
      have := less y hyn w2
      omega
    · rw [at1 z, if_neg e] at h0
      rcases h.supp z hz h0 with e2 | ⟨b, hbl, hbx, hbw, hbe⟩
      · exact .inl e2
      · refine .inr ⟨b, hbl, hbx, way b hbl hbw, ?_⟩
        rw [at1 z, if_neg e]
        obtain ⟨u, hu⟩ := Int.eq_ofNat_of_zero_le (hT.y dir b hbl).1
        have hun := (hT.y dir b hbl).2
        have hw2 := hbw.2.1
        rw [hu] at hun hbe hw2 ⊢
        have := less u hun hw2
        omega
  · have hm := mu_set out x c hxl
    rw [hgx] at hm
    have hcl := cnt_le out
    have hnn := hT.nodes
    have hcb : c ≤ 4194240 := by
      rcases hb with hb | hb
      · have hlt : cnt out < out.length := by
          have := cnt_le (out.set x c)
          rw [List.length_set, hcs, if_neg (by omega)] at this
          omega
        omega
      · have := h.bnd x hxn; omega
    have hw1 : wgt c = c.toNat := by unfold wgt; rw [if_neg (by omega)]
    have hw2 : wgt (at' out (x : Int)) = if at' out (x : Int) < 0 then 4194241 else (at' out (x : Int)).toNat := rfl
    rw [hw1, hw2] at hm
    rcases hb with hb | hb
    · rw [if_pos hb] at hm; omega
    · by_cases hr : at' out (x : Int) < 0
      · rw [if_pos hr] at hm; omega
      · rw [if_neg hr] at hm; omega

theorem inv_dist {T : Topo} {D : List Bool} {n : Nat} {dir : Bool} {out : List Int} (h : Inv T D n dir out) (hn : ∀ a, a < 2 * T.links.length → ¬ Gains T D n dir out a) : IsDist T D n dir out := by
  have closed : ∀ a, a < 2 * T.links.length → Way T D n dir out a → 0 ≤ at' out (arcX T dir a) ∧ at' out (arcX T dir a) ≤ at' out (arcY T dir a) + costN T a := fun a ha hw => by
    have := hn a ha
    unfold Gains at this
    have h2 : ¬ (at' out (arcX T dir a) < 0 ∨ at' out (arcY T dir a) + costN T a < at' out (arcX T dir a)) := fun e => this ⟨hw, e⟩
    omega
  refine ⟨h.len, h.root, h.ge, closed, fun x hx h0 => ?_⟩
  rcases h.supp x hx h0 with e | ⟨a, ha, hax, hw, he⟩
  · exact .inl e
  · refine .inr ⟨a, ha, hax, hw, ?_⟩
    have := closed a ha hw
    rw [hax] at this
    omega

/-- The list with which a search begins. -/
def start (N n : Nat) : List Int := (List.replicate N (-1)).set n 0
theorem at_start (N n : Nat) (hn : n < N) (x : Nat) (hx : x < N) : at' (start N n) (x : Int) = if x = n then 0 else -1 := by
  unfold start
  rw [at_set _ n x 0 (by simpa using hn)]
  split
  · rfl
  · simp [at', hx]
theorem start_inv {T : Topo} {D : List Bool} {N n : Nat} {dir : Bool} (hN : (N : Int) = T.nodes) (hn : n < N) : Inv T D n dir (start N n) := by
  have hc : 1 ≤ cnt (start N n) := by
    unfold start
    rw [cnt_set _ n 0 (by simpa using hn) (by omega)]
    have : (List.replicate N (-1 : Int)).getD n (-1) = -1 := by simp [hn]
    rw [this]
    simp
  refine ⟨by simp [start]; exact hN, by rw [at_start N n hn n hn, if_pos rfl], fun x hx => ?_, fun x hx => ?_, fun x hx h0 => ?_⟩
  · rw [at_start N n hn x (by omega)]; split <;> omega
  · rw [at_start N n hn x (by omega)]; split <;> omega
  · rw [at_start N n hn x (by omega)] at h0
    by_cases e : x = n
    · exact .inl e
    · rw [if_neg e] at h0; omega

theorem dist_exists_of {T : Topo} (hT : Sound T) {D : List Bool} {n : Nat} {dir : Bool} : ∀ (k : Nat) (out : List Int), mu out = k → Inv T D n dir out → ∃ out', IsDist T D n dir out' ∧ Inv T D n dir out' := by
  intro k
  induction k using Nat.strongRecOn with
  | _ k ih =>
    intro out hk hi
    by_cases h : ∃ a, a < 2 * T.links.length ∧ Gains T D n dir out a
    · obtain ⟨a, ha, hg⟩ := h
      obtain ⟨h1, h2⟩ := gain_inv hT hi a ha hg
      exact ih _ (by omega) _ rfl h1
    · exact ⟨out, inv_dist hi fun a ha hg => h ⟨a, ha, hg⟩, hi⟩
theorem distL_is {T : Topo} (hT : Sound T) (D : List Bool) {n : Nat} (dir : Bool) (hn : (n : Int) < T.nodes) : IsDist T D n dir (distL T D n dir) := by
  obtain ⟨N, hN⟩ := Int.eq_ofNat_of_zero_le (by have := hT.nodes.1; omega : 0 ≤ T.nodes)
  obtain ⟨out, ho, _⟩ := dist_exists_of hT _ (start N n) rfl (start_inv (D := D) (dir := dir) hN.symm (by omega))
  rw [distL_eq hT ho]
  exact ho
theorem distL_inv {T : Topo} (hT : Sound T) (D : List Bool) {n : Nat} (dir : Bool) (hn : (n : Int) < T.nodes) : Inv T D n dir (distL T D n dir) := by
  obtain ⟨N, hN⟩ := Int.eq_ofNat_of_zero_le (by have := hT.nodes.1; omega : 0 ≤ T.nodes)
  obtain ⟨out, ho, hi⟩ := dist_exists_of hT _ (start N n) rfl (start_inv (D := D) (dir := dir) hN.symm (by omega))
  rw [distL_eq hT ho]
  exact hi

end Net
end Go.Proofs.YtkaalpdfppbdeaaDoor
