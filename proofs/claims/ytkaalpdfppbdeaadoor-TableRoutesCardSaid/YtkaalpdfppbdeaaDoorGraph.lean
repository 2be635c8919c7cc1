/- The contracts of package graph: arcs, tails, heads, costs and tests of a topology. -/
import Derived.Test.YtkaalpdfppbdeaaDoorProg
import Derived.Test.YtkaalpdfppbdeaaDoorTopo
import Derived.WalkKit
import Derived.ProofKit
import Derived.Lib.Hide
import Derived.WalkSpells
namespace Go.Proofs.YtkaalpdfppbdeaaDoor
namespace Net
open Go.ChangeShapes Go.WideShapes Go.ChangeAt Go.RowKit
open Reg Mem

theorem val_int {k : IntKind} {a b : Int} (h : a = b) : Value.int k a = .int k b := by rw [h]
theorem val_bool {a b : Bool} (h : a = b) : Value.bool a = .bool b := by rw [h]

set_option maxHeartbeats 400000 in
theorem arcs_any {T : Topo} {v : Value} {w : World} (h : TopoV w v T) (hl : T.links.length ≤ 4611686018427387903) : Calls Tryd.prog 58 #[v] w (Ret (fun x _ => x = .int .i64 (2 * (T.links.length : Int))) w) := by
  obtain ⟨so, sl, rfl, h1, h2⟩ := h
  obtain ⟨a, c, rfl, hc⟩ := row_slice h2
  clear h1 h2
  generalize T.links.length = m at *
  go_enter Tryd.func58, Tryd.ntmps58
  go_wp2
  go_ret
  exact ⟨_, rfl, (Ext.refl _).alloc _, rfl⟩

set_option maxHeartbeats 400000 in
theorem tail_any {T : Topo} {v : Value} {w : World} (h : TopoV w v T) (a : Nat) (ha : a < 2 * T.links.length) : Calls Tryd.prog 61 #[v, .int .i64 a] w (Ret (fun x _ => x = .int .i64 (tailN T a)) w) := by
  obtain ⟨so, sl, rfl, h1, h2⟩ := h
  obtain ⟨b, off, c, rfl, hc1, hc2, hcell⟩ := row_addr h2 (by omega)
  have hi : a / 2 < T.links.length := by omega
  obtain ⟨k0, k1, k2, k3, _⟩ := link_cells hcell (a / 2) hi
  clear h1 h2 hcell
  have hE := (Ext.refl w).alloc (.cells #[.int .i64 T.nodes, so, .slice (some ⟨b, off, none⟩) T.links.length c] 25)
  have e0 := hE.cell k0
  have e1 := hE.cell k1
  clear k0 k1 k2 k3 hE
  by_cases hp : a % 2 = 0
  · have HR := Lib.hid (show (lnk T.links (a / 2)).a = tailN T a by simp [tailN, hp])
    have hq : (((a : Int) % 2) == 0) = true := by simp; omega
    have hr : (a : Int) % 2 = 0 := by omega
    clear hp
    generalize (lnk T.links (a / 2)).a = x at *
    generalize (lnk T.links (a / 2)).b = y at *
    generalize T.links.length = m at *
    go_enter Tryd.func61, Tryd.ntmps61
    go_wp2
    go_ret
    exact ⟨_, rfl, (Ext.refl _).alloc _, val_int HR.out⟩
  · have HR := Lib.hid (show (lnk T.links (a / 2)).b = tailN T a by simp [tailN, hp])
    have hq : (((a : Int) % 2) == 0) = false := by simp; omega
    have hr : (a : Int) % 2 = 1 := by omega
    clear hp
    generalize (lnk T.links (a / 2)).a = x at *
    generalize (lnk T.links (a / 2)).b = y at *
    generalize T.links.length = m at *
    go_enter Tryd.func61, Tryd.ntmps61
    go_wp2
    go_ret
    exact ⟨_, rfl, (Ext.refl _).alloc _, val_int HR.out⟩

theorem xor_one (a : Nat) (ha : a < 9223372036854775806) : bits .xor .i64 (a : Int) 1 = (flip a : Int) := by
  have h1 : (a ^^^ 1) / 2 = a / 2 := by rw [Nat.xor_div_two]; simp
  have h2 : ((a ^^^ 1) % 2 = 1) ↔ ¬ ((a % 2 = 1) ↔ (1 % 2 = 1)) := Nat.xor_mod_two_eq_one
  have h3 : a ^^^ 1 = flip a := by unfold flip; split <;> omega
  have e1 : (BitVec.ofInt 64 (a : Int)).toNat = a := by rw [BitVec.ofInt_natCast, BitVec.toNat_ofNat]; exact Nat.mod_eq_of_lt (by omega)
  have e2 : (BitVec.ofInt 64 (1 : Int)).toNat = 1 := by decide
  show IntKind.i64.wrap ((BitVec.ofInt 64 (a : Int) ^^^ BitVec.ofInt 64 (1 : Int)).toNat : Int) = _
  rw [BitVec.toNat_xor, e1, e2, h3]
  exact IntWalk.i64_in _ (by unfold flip; split <;> omega)

set_option maxHeartbeats 400000 in
theorem head_any {T : Topo} {v : Value} {w : World} (h : TopoV w v T) (a : Nat) (ha : a < 2 * T.links.length) (hl : T.links.length ≤ 4611686018427387902) : Calls Tryd.prog 75 #[v, .int .i64 a] w (Ret (fun x _ => x = .int .i64 (headN T a)) w) := by
  have hx := xor_one a (by omega)
  have H := Lib.hid h
  obtain ⟨so, sl, rfl, h1, h2⟩ := h
  clear h1 h2
  go_enter Tryd.func75, Tryd.ntmps75
  go_wp2_with fail
  refine (tail_any (T := T) (H.out.mono ((Ext.refl _).alloc _)) (flip a) (by unfold flip; split <;> omega)).mono ?_
  rintro e w1 ⟨x, rfl, hE, rfl⟩
  go_wp2_with fail
  go_ret
  exact ⟨_, rfl, ((Ext.refl _).alloc _).trans hE, rfl⟩

set_option maxHeartbeats 400000 in
theorem cost_any {T : Topo} {v : Value} {w : World} (h : TopoV w v T) (a : Nat) (ha : a < 2 * T.links.length) : Calls Tryd.prog 77 #[v, .int .i64 a] w (Ret (fun x _ => x = .int .i64 (costN T a)) w) := by
  obtain ⟨so, sl, rfl, h1, h2⟩ := h
  obtain ⟨b, off, c, rfl, hc1, hc2, hcell⟩ := row_addr h2 (by omega)
  have hi : a / 2 < T.links.length := by omega
  obtain ⟨k0, k1, k2, k3, _⟩ := link_cells hcell (a / 2) hi
  clear h1 h2 hcell
  have hE := (Ext.refl w).alloc (.cells #[.int .i64 T.nodes, so, .slice (some ⟨b, off, none⟩) T.links.length c] 25)
  have e0 := hE.cell k2
  have e1 := hE.cell k3
  clear k0 k1 k2 k3 hE
  by_cases hp : a % 2 = 0
  · have HR := Lib.hid (show (lnk T.links (a / 2)).c0 = costN T a by simp [costN, hp])
    have hq : (((a : Int) % 2) == 0) = true := by simp; omega
    have hr : (a : Int) % 2 = 0 := by omega
    clear hp
    generalize (lnk T.links (a / 2)).c0 = x at *
    generalize (lnk T.links (a / 2)).c1 = y at *
    generalize T.links.length = m at *
    go_enter Tryd.func77, Tryd.ntmps77
    go_wp2
    go_ret
    exact ⟨_, rfl, (Ext.refl _).alloc _, val_int HR.out⟩
  · have HR := Lib.hid (show (lnk T.links (a / 2)).c1 = costN T a by simp [costN, hp])
    have hq : (((a : Int) % 2) == 0) = false := by simp; omega
    have hr : (a : Int) % 2 = 1 := by omega
    clear hp
    generalize (lnk T.links (a / 2)).c0 = x at *
    generalize (lnk T.links (a / 2)).c1 = y at *
    generalize T.links.length = m at *
    go_enter Tryd.func77, Tryd.ntmps77
    go_wp2
    go_ret
    exact ⟨_, rfl, (Ext.refl _).alloc _, val_int HR.out⟩

set_option maxHeartbeats 400000 in
theorem over_any {T : Topo} {v : Value} {w : World} (h : TopoV w v T) (n : Nat) (hn : T.over.length = 0 ∨ n < T.over.length) : Calls Tryd.prog 76 #[v, .int .i64 n] w (Ret (fun x _ => x = .bool (overN T n)) w) := by
  obtain ⟨so, sl, rfl, h1, h2⟩ := h
  by_cases h0 : T.over.length = 0
  · obtain ⟨a, c, rfl, hc⟩ := row_slice h1
    have HR := Lib.hid (show false = overN T n by simp [overN, List.length_eq_zero_iff.1 h0])
    have hd : decide ((0 : Int) < 0) = false := by decide
    clear h1 h2 hn
    rw [h0]
    clear h0
    go_enter Tryd.func76, Tryd.ntmps76
    go_wp2
    go_ret
    exact ⟨_, rfl, (Ext.refl _).alloc _, val_bool HR.out⟩
  · have hn' : n < T.over.length := hn.resolve_left h0
    obtain ⟨b, off, c, rfl, hc1, hc2, hcell⟩ := row_addr h1 (by omega)
    have k := bool_cell hcell n hn'
    clear h1 h2 hcell hn
    have hd : (0 : Int) < (T.over.length : Int) := by omega
    have hE := (Ext.refl w).alloc (.cells #[.int .i64 T.nodes, .slice (some ⟨b, off, none⟩) T.over.length c, sl] 25)
    have e0 := hE.cell k
    clear k hE
    have HR := Lib.hid (show T.over.getD n false = overN T n from rfl)
    generalize T.over.getD n false = x at *
    generalize T.over.length = m at *
    go_enter Tryd.func76, Tryd.ntmps76
    go_wp2
    go_ret
    exact ⟨_, rfl, (Ext.refl _).alloc _, val_bool HR.out⟩

set_option maxHeartbeats 400000 in
theorem node_any {T : Topo} {v : Value} {w : World} (h : TopoV w v T) (n : Int) : Calls Tryd.prog 29 #[v, .int .i64 n] w (Ret (fun x _ => x = .bool (nodeB T n)) w) := by
  obtain ⟨so, sl, rfl, h1, h2⟩ := h
  clear h1 h2
  by_cases h0 : 0 ≤ n
  · by_cases h1 : n < T.nodes
    · have HR := Lib.hid (show true = nodeB T n by simp [nodeB, h0, h1])
      go_enter Tryd.func29, Tryd.ntmps29
      go_wp2
      go_ret
      exact ⟨_, rfl, (Ext.refl _).alloc _, by rw [← HR.out]; simp⟩
    · have HR := Lib.hid (show false = nodeB T n by simp [nodeB, h1])
      go_enter Tryd.func29, Tryd.ntmps29
      go_wp2
      go_ret
      exact ⟨_, rfl, (Ext.refl _).alloc _, by rw [← HR.out]; simp⟩
  · have HR := Lib.hid (show false = nodeB T n by simp [nodeB, h0])
    have hd : decide (0 ≤ n) = false := by simp; omega
    go_enter Tryd.func29, Tryd.ntmps29
    go_wp2
    go_ret
    exact ⟨_, rfl, (Ext.refl _).alloc _, val_bool HR.out⟩

set_option maxHeartbeats 400000 in
theorem arc_any {T : Topo} {v : Value} {w : World} (h : TopoV w v T) (hl : T.links.length ≤ 4611686018427387903) (a : Int) : Calls Tryd.prog 70 #[v, .int .i64 a] w (Ret (fun x _ => x = .bool (arcB T a)) w) := by
  have H := Lib.hid h
  obtain ⟨so, sl, rfl, h1, h2⟩ := h
  clear h1 h2
  by_cases h0 : 0 ≤ a
  · have HR := Lib.hid (show decide (a < 2 * (T.links.length : Int)) = arcB T a by simp [arcB, h0])
    go_enter Tryd.func70, Tryd.ntmps70
    go_wp2_with fail
    refine (arcs_any (T := T) (H.out.mono ((Ext.refl _).alloc _)) hl).mono ?_
    rintro e w1 ⟨x, rfl, hE, rfl⟩
    go_wp2_with fail
    go_ret
    exact ⟨_, rfl, ((Ext.refl _).alloc _).trans hE, val_bool HR.out⟩
  · have HR := Lib.hid (show false = arcB T a by simp [arcB, h0])
    have hd : decide (0 ≤ a) = false := by simp; omega
    go_enter Tryd.func70, Tryd.ntmps70
    go_wp2_with fail
    go_ret
    exact ⟨_, rfl, (Ext.refl _).alloc _, val_bool HR.out⟩

/-- A slice of bools. -/
def Bools (w : World) (v : Value) (L : List Bool) : Prop := Row w v L.length (bools L)
theorem Bools.mono {w w' : World} {v : Value} {L : List Bool} (h : Bools w v L) (hE : Ext w w') : Bools w' v L := Row.mono h hE

set_option maxHeartbeats 400000 in
theorem fits_any {T : Topo} {v u : Value} {w : World} {D : List Bool} (h : TopoV w v T) (hl : T.links.length ≤ 4611686018427387903) (hD : Bools w u D) : Calls Tryd.prog 28 #[v, u] w (Ret (fun x _ => x = .bool (fitsB T D)) w) := by
  have H := Lib.hid h
  obtain ⟨so, sl, rfl, h1, h2⟩ := h
  clear h1 h2
  obtain ⟨a, c, rfl, hc⟩ := row_slice hD
  clear hD
  by_cases h0 : D.length = 0
  · have HR := Lib.hid (show true = fitsB T D by simp [fitsB, h0])
    rw [h0]
    clear h0
    go_enter Tryd.func28, Tryd.ntmps28
    go_wp2_with fail
    go_ret
    exact ⟨_, rfl, (Ext.refl _).alloc _, val_bool HR.out⟩
  · have HR := Lib.hid (show ((D.length : Int) == 2 * (T.links.length : Int)) = fitsB T D by
      unfold fitsB
      rw [Bool.eq_iff_iff, beq_iff_eq, decide_eq_true_iff]
      omega)
    have hd : ((D.length : Int) == 0) = false := by rw [beq_eq_false_iff_ne]; omega
    generalize D.length = m at *
    go_enter Tryd.func28, Tryd.ntmps28
    go_wp2_with fail
    refine (arcs_any (T := T) (H.out.mono ((Ext.refl _).alloc _)) hl).mono ?_
    rintro e w1 ⟨x, rfl, hE, rfl⟩
    go_wp2_with fail
    go_ret
    exact ⟨_, rfl, ((Ext.refl _).alloc _).trans hE, val_bool HR.out⟩

set_option maxHeartbeats 400000 in
theorem down_any {u : Value} {w : World} {D : List Bool} (hD : Bools w u D) (a : Nat) (ha : D.length = 0 ∨ a < D.length) : Calls Tryd.prog 32 #[u, .int .i64 a] w (Ret (fun x _ => x = .bool (downN D a)) w) := by
  by_cases h0 : D.length = 0
  · obtain ⟨x, c, rfl, hc⟩ := row_slice hD
    have HR := Lib.hid (show false = downN D a by simp [downN, List.length_eq_zero_iff.1 h0])
    have hd : decide ((0 : Int) < 0) = false := by decide
    clear hD ha
    rw [h0]
    clear h0
    go_enter Tryd.func32, Tryd.ntmps32
    go_wp2
    go_ret
    exact ⟨_, rfl, Ext.refl _, val_bool HR.out⟩
  · have ha' : a < D.length := ha.resolve_left h0
    obtain ⟨b, off, c, rfl, hc1, hc2, hcell⟩ := row_addr hD (by omega)
    have k := bool_cell hcell a ha'
    clear hD hcell ha
    have hd : (0 : Int) < (D.length : Int) := by omega
    have HR := Lib.hid (show D.getD a false = downN D a from rfl)
    generalize D.getD a false = x at *
    generalize D.length = m at *
    go_enter Tryd.func32, Tryd.ntmps32
    go_wp2
    go_ret
    exact ⟨_, rfl, Ext.refl _, val_bool HR.out⟩

def withinB (n lo hi : Int) : Bool := decide (lo ≤ n ∧ n ≤ hi)
set_option maxHeartbeats 400000 in
theorem within_same (n lo hi : Int) (w : World) : Calls Tryd.prog 57 #[.int .i64 n, .int .i64 lo, .int .i64 hi] w (fun e w' => e = .returned (.bool (withinB n lo hi)) ∧ w = w') := by
  by_cases h0 : lo ≤ n
  · have HR := Lib.hid (show decide (n ≤ hi) = withinB n lo hi by simp [withinB, h0])
    go_enter Tryd.func57, Tryd.ntmps57
    go_wp2
    go_ret
    exact ⟨congrArg Ending.returned (val_bool HR.out), rfl⟩
  · have HR := Lib.hid (show false = withinB n lo hi by simp [withinB, h0])
    have hd : decide (lo ≤ n) = false := by simp; omega
    go_enter Tryd.func57, Tryd.ntmps57
    go_wp2
    go_ret
    exact ⟨congrArg Ending.returned (val_bool HR.out), rfl⟩

theorem within_any (n lo hi : Int) (w : World) : Calls Tryd.prog 57 #[.int .i64 n, .int .i64 lo, .int .i64 hi] w (Ret (fun x _ => x = .bool (withinB n lo hi)) w) := ret_same (within_same n lo hi w)

end Net
end Go.Proofs.YtkaalpdfppbdeaaDoor
