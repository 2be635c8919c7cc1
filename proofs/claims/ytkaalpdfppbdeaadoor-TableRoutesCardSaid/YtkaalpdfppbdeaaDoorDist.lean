/- Distances, as plain mathematics: what makes a list the list of all distances to (or from) a node; that there is one such list at most. No program in sight. -/
import Derived.Test.YtkaalpdfppbdeaaDoorTopo
namespace Go.Proofs.YtkaalpdfppbdeaaDoor
namespace Net

/-- The ends of an arc in the direction of a search: x is reached by way of y. -/
def arcX (T : Topo) (dir : Bool) (a : Nat) : Int := if dir then headN T a else tailN T a
def arcY (T : Topo) (dir : Bool) (a : Nat) : Int := if dir then tailN T a else headN T a
/-- The value of a list at a node. -/
def at' (l : List Int) (x : Int) : Int := l.getD x.toNat (-1)
/-- The arc may be used by way of y, which has been reached. -/
def Way (T : Topo) (D : List Bool) (n : Nat) (dir : Bool) (out : List Int) (a : Nat) : Prop :=
  downN D a = false ∧ 0 ≤ at' out (arcY T dir a) ∧ (arcY T dir a = (n : Int) ∨ overN T (arcY T dir a).toNat = false)

structure IsDist (T : Topo) (D : List Bool) (n : Nat) (dir : Bool) (out : List Int) : Prop where
  len : (out.length : Int) = T.nodes
  root : at' out (n : Int) = 0
  ge : ∀ x : Nat, (x : Int) < T.nodes → -1 ≤ at' out (x : Int)
  closed : ∀ a, a < 2 * T.links.length → Way T D n dir out a → 0 ≤ at' out (arcX T dir a) ∧ at' out (arcX T dir a) ≤ at' out (arcY T dir a) + costN T a
  supp : ∀ x : Nat, (x : Int) < T.nodes → 0 ≤ at' out (x : Int) → x = n ∨ ∃ a, a < 2 * T.links.length ∧ arcX T dir a = (x : Int) ∧ Way T D n dir out a ∧ at' out (x : Int) = at' out (arcY T dir a) + costN T a

/-- All that is used of a valid topology here. -/
structure Sound (T : Topo) : Prop where
  cost : ∀ a, a < 2 * T.links.length → 1 ≤ costN T a ∧ costN T a ≤ 65535
  tail : ∀ a, a < 2 * T.links.length → 0 ≤ tailN T a ∧ tailN T a < T.nodes
  head : ∀ a, a < 2 * T.links.length → 0 ≤ headN T a ∧ headN T a < T.nodes
  nodes : 1 ≤ T.nodes ∧ T.nodes ≤ 64
theorem Sound.x {T : Topo} (h : Sound T) (dir : Bool) (a : Nat) (ha : a < 2 * T.links.length) : 0 ≤ arcX T dir a ∧ arcX T dir a < T.nodes := by
  unfold arcX; cases dir
  · exact h.tail a ha
  · exact h.head a ha
theorem Sound.y {T : Topo} (h : Sound T) (dir : Bool) (a : Nat) (ha : a < 2 * T.links.length) : 0 ≤ arcY T dir a ∧ arcY T dir a < T.nodes := by
  unfold arcY; cases dir
  · exact h.head a ha
  · exact h.tail a ha

theorem dist_le {T : Topo} (hT : Sound T) {D : List Bool} {n : Nat} {dir : Bool} {out out' : List Int} (h : IsDist T D n dir out) (h' : IsDist T D n dir out') :
    ∀ (k : Nat) (x : Nat), (x : Int) < T.nodes → at' out (x : Int) = (k : Int) → 0 ≤ at' out' (x : Int) ∧ at' out' (x : Int) ≤ at' out (x : Int) := by
  intro k
  induction k using Nat.strongRecOn with
  | _ k ih =>
    intro x hx hk
    rcases h.supp x hx (by omega) with rfl | ⟨a, ha, hax, ⟨w1, w2, w3⟩, he⟩
    · rw [h'.root]; omega
    · have hc := hT.cost a ha
      obtain ⟨y, hy⟩ := Int.eq_ofNat_of_zero_le (hT.y dir a ha).1
      have hyn := (hT.y dir a ha).2
      rw [hy] at w2 w3 he hyn
      obtain ⟨j, hj⟩ := Int.eq_ofNat_of_zero_le w2
      have hlt : j < k := by omega
      have h1 := ih j hlt y hyn hj
      have h2 := h'.closed a ha ⟨w1, by rw [hy]; exact h1.1, by rw [hy]; exact w3⟩
      rw [hax, hy] at h2
      exact ⟨h2.1, by omega⟩

theorem at_eq (out : List Int) (x : Nat) (hx : x < out.length) : at' out (x : Int) = out[x] := by
  simp [at', hx]

/-- There is one list of distances at most. -/
theorem dist_unique {T : Topo} (hT : Sound T) {D : List Bool} {n : Nat} {dir : Bool} {out out' : List Int} (h : IsDist T D n dir out) (h' : IsDist T D n dir out') : out = out' := by
  have hl : out.length = out'.length := by have := h.len; have := h'.len; omega
  refine List.ext_getElem hl fun x h1 h2 => ?_
  have hx : (x : Int) < T.nodes := by have := h.len; omega
  rw [← at_eq out x h1, ← at_eq out' x h2]
  have g1 := h.ge x hx
  have g2 := h'.ge x hx
  by_cases c1 : 0 ≤ at' out (x : Int)
  · obtain ⟨k, hk⟩ := Int.eq_ofNat_of_zero_le c1
    have a1 := dist_le hT h h' k x hx hk
    obtain ⟨k', hk'⟩ := Int.eq_ofNat_of_zero_le a1.1
    have a2 := dist_le hT h' h k' x hx hk'
    omega
  · by_cases c2 : 0 ≤ at' out' (x : Int)
    · obtain ⟨k, hk⟩ := Int.eq_ofNat_of_zero_le c2
      have a1 := dist_le hT h' h k x hx hk
      omega
    · omega

open Classical in
/-- The list of distances, if there is one. -/
noncomputable def distL (T : Topo) (D : List Bool) (n : Nat) (dir : Bool) : List Int := if h : ∃ out, IsDist T D n dir out then h.choose else []
theorem distL_eq {T : Topo} (hT : Sound T) {D : List Bool} {n : Nat} {dir : Bool} {out : List Int} (h : IsDist T D n dir out) : distL T D n dir = out := by
  unfold distL
  rw [dif_pos ⟨out, h⟩]
  exact dist_unique hT (Exists.choose_spec (⟨out, h⟩ : ∃ out, IsDist T D n dir out)) h

end Net
end Go.Proofs.YtkaalpdfppbdeaaDoor
