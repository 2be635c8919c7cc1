/- The example of the laws on tables: a ring of four nodes: its routes and their text. No program in sight. -/
import Derived.Test.YtkaalpdfppbdeaaDoorTextS
namespace Go.Proofs.YtkaalpdfppbdeaaDoor
namespace PW
open Net

def ringL (k : Nat) : List Lnk := (List.range k).map fun (i : Nat) => ⟨(i : Int), (((i + 1) % 4 : Nat) : Int), 1, 1, 0, 1, 0⟩
def ringT : Topo := ⟨4, [], ringL 4⟩
def ringD (d : Nat) : List Int := match d with
  | 0 => [0, 1, 2, 1]
  | 1 => [1, 0, 1, 2]
  | 2 => [2, 1, 0, 1]
  | _ => [1, 2, 1, 0]
theorem ring_valid : validB ringT = true := by kernel_rfl
theorem ring_fits : fitsB ringT [] = true := by kernel_rfl
def wayB (T : Topo) (n : Nat) (out : List Int) (a : Nat) : Bool := decide (0 ≤ at' out (arcY T false a)) && (decide (arcY T false a = (n : Int)) || !overN T (arcY T false a).toNat)
def distB (n : Nat) (out : List Int) : Bool :=
  decide (out.length = 4) && decide (at' out (n : Int) = 0) && (List.range 4).all (fun x => decide (0 ≤ at' out (x : Int))) &&
  (List.range 8).all (fun a => !wayB ringT n out a || (decide (0 ≤ at' out (arcX ringT false a)) && decide (at' out (arcX ringT false a) ≤ at' out (arcY ringT false a) + costN ringT a))) &&
  (List.range 4).all (fun x => decide (x = n) || (List.range 8).any fun a => decide (arcX ringT false a = (x : Int)) && wayB ringT n out a && decide (at' out (x : Int) = at' out (arcY ringT false a) + costN ringT a))
theorem way_iff (n : Nat) (out : List Int) (a : Nat) : Net.Way ringT [] n false out a ↔ wayB ringT n out a = true := by
  unfold Net.Way wayB
  have : downN [] a = false := by simp [downN]
  simp [this]
theorem dist_of {n : Nat} {out : List Int} (h : distB n out = true) : IsDist ringT [] n false out := by
  simp only [distB, Bool.and_eq_true, decide_eq_true_eq, List.all_eq_true, List.mem_range, Bool.or_eq_true, Bool.not_eq_true', List.any_eq_true] at h
  obtain ⟨⟨⟨⟨h1, h2⟩, h3⟩, h4⟩, h5⟩ := h
  refine ⟨by rw [h1]; rfl, h2, fun x hx => ?_, fun a ha hw => ?_, fun x hx _ => ?_⟩
  · have := h3 x (by have : ringT.nodes = 4 := rfl; omega); omega
  · rcases h4 a (by have : ringT.links.length = 4 := rfl; omega) with h | h
    · rw [(way_iff n out a).1 hw] at h; cases h
    · exact h
  · rcases h5 x (by have : ringT.nodes = 4 := rfl; omega) with h | ⟨a, ha, ⟨h6, h7⟩, h8⟩
    · exact .inl h
    · exact .inr ⟨a, by have : ringT.links.length = 4 := rfl; omega, h6, (way_iff n out a).2 h7, h8⟩
theorem ring_dist (d : Nat) (hd : d < 4) : distL ringT [] d false = ringD d := by
  refine distL_eq (sound_of ring_valid) (dist_of ?_)
  match d, hd with
  | 0, _ => exact (show distB 0 (ringD 0) = true by kernel_rfl)
  | 1, _ => exact (show distB 1 (ringD 1) = true by kernel_rfl)
  | 2, _ => exact (show distB 2 (ringD 2) = true by kernel_rfl)
  | 3, _ => exact (show distB 3 (ringD 3) = true by kernel_rfl)
def ringN (d : Nat) : List Int := if 0 = d ∨ (ringD d).getD 0 0 < 0 then [] else passL ringT [] (ringD d) ((ringD d).getD 0 0) d (outL ringT ((0 : Nat) : Int))
def ringTab : Tab := ⟨0, [⟨[], false, []⟩, ⟨[0], false, []⟩, ⟨[0, 7], false, []⟩, ⟨[7], false, []⟩], []⟩
theorem ring_next (d : Nat) (hd : d < 4) : nextL ringT [] 0 d = ((ringTab.ents.getD d ⟨[], false, []⟩).arcs) := by
  unfold nextL
  rw [ring_dist d hd]
  match d, hd with
  | 0, _ => exact (show ringN 0 = [] by kernel_rfl)
  | 1, _ => exact (show ringN 1 = [0] by kernel_rfl)
  | 2, _ => exact (show ringN 2 = [0, 7] by kernel_rfl)
  | 3, _ => exact (show ringN 3 = [7] by kernel_rfl)
theorem ring_routes : routesE ringT [] 0 = ringTab := by
  unfold routesE
  rw [if_pos (show chkE ringT [] [0] = 0 by kernel_rfl)]
  unfold routesT
  have h : toL ringT [] 0 4 = ringTab.ents := by
    unfold toL
    simp only [List.range, List.range.loop, List.map_cons, List.map_nil, ring_next 0 (by omega), ring_next 1 (by omega), ring_next 2 (by omega), ring_next 3 (by omega)]
    rfl
  show (⟨((0 : Nat) : Int), toL ringT [] 0 4, downL [] (outL ringT 0)⟩ : Tab) = ringTab
  rw [h]
  have h2 : downL [] (outL ringT 0) = [] := by kernel_rfl
  rw [h2]
  rfl
def ringBytes : List UInt8 := [116, 97, 98, 108, 101, 32, 48, 10, 116, 111, 32, 49, 32, 111, 118, 101, 114, 32, 48, 10, 116, 111, 32, 50, 32, 111, 118, 101, 114, 32, 48, 32, 55, 10, 116, 111, 32, 51, 32, 111, 118, 101, 114, 32, 55, 10]
theorem ring_text : textS ringTab = ringBytes := by kernel_rfl
end PW
end Go.Proofs.YtkaalpdfppbdeaaDoor
