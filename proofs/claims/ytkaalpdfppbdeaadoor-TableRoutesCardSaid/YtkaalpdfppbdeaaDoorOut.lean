/- The contracts of the functions that list the arcs of a node: graph.Out and the reference's Out. -/
import Derived.Test.YtkaalpdfppbdeaaDoorRef9b
namespace Go.Proofs.YtkaalpdfppbdeaaDoor
namespace Net
open Go.ChangeShapes Go.WideShapes Go.ChangeAt Go.RowKit
open Reg Mem

theorem info_int : (Tryd.prog.info? 3).map (fun i => (i.zero, i.size, i.bytes)) = some (some (.int .i64 0), 1, 8) := by kernel_rfl

/-- The arcs below k that begin at n. -/
def outTo (T : Topo) (n : Int) (k : Nat) : List Int := ((List.range k).filter fun a => tailN T a == n).map Int.ofNat
def outL (T : Topo) (n : Int) : List Int := outTo T n (2 * T.links.length)
theorem outTo_yes (T : Topo) (n : Int) (k : Nat) (h : (tailN T k == n) = true) : outTo T n (k + 1) = outTo T n k ++ [(k : Int)] := by
  simp [outTo, List.range_succ, List.filter_append, h]
theorem outTo_no (T : Topo) (n : Int) (k : Nat) (h : (tailN T k == n) = false) : outTo T n (k + 1) = outTo T n k := by
  simp [outTo, List.range_succ, List.filter_append, h]
theorem outTo_len (T : Topo) (n : Int) (k : Nat) : (outTo T n k).length ≤ k := by
  simp only [outTo, List.length_map]
  exact Nat.le_trans (List.length_filter_le _ _) (by simp)

set_option maxHeartbeats 1000000 in
theorem out_any {T : Topo} {v : Value} {w : World} (h : TopoV w v T) (hm : T.links.length ≤ 256) (n : Int) : Calls Tryd.prog 31 #[v, .int .i64 n] w (Ret (fun x w' => IntsV w' x (outL T n)) w) := by
  have H := Lib.hid h
  obtain ⟨so, sl, rfl, h1, h2⟩ := h
  clear h1 h2
  go_enter Tryd.func31, Tryd.ntmps31
  go_wp2_with fail
  refine (arcs_any (T := T) (H.out.mono ((Ext.refl _).alloc _)) (by omega)).mono ?_
  rintro e w1 ⟨x, rfl, hE, rfl⟩
  have b0 := hE.cell (p := ⟨w.heap.size, 0, none⟩) (v := .int .i64 T.nodes) (by simp [go_sem])
  have b1 := hE.cell (p := ⟨w.heap.size, 1, none⟩) (v := so) (by simp [go_sem])
  have b2 := hE.cell (p := ⟨w.heap.size, 2, none⟩) (v := sl) (by simp [go_sem])
  have HE := Lib.hid (((Ext.refl w).alloc _).trans hE)
  clear hE
  obtain ⟨m, hmm⟩ : ∃ m, T.links.length = m := ⟨_, rfl⟩
  have HM := Lib.hid hmm
  rw [hmm] at hm ⊢
  clear hmm
  go_wp2_with fail
  go_loopw [5, 6, 9] (fun v _ i wr => ∃ k : Nat, k ≤ 2 * m ∧ i = .int .i64 k ∧ wr.ownsRow w1.heap.size 3 1 v (outTo T n k).length (ints (outTo T n k)) ∧ Ext w1 wr) (fun _ _ i _ => 2 * m - (intOf i).toNat)
  case atStart => exact ⟨0, by omega, rfl, World.ownsRow_nil _ _ _ _, Ext.refl _⟩
  case round =>
    obtain ⟨k, hk, rfl, hown, hEw⟩ := hrel
    have HO := Lib.hid hown
    have HW := Lib.hid hEw
    have c0 := hEw.cell b0
    have c1 := hEw.cell b1
    have c2 := hEw.cell b2
    clear hown hEw
    by_cases hlt : k < 2 * m
    · go_wp2_with fail
      refine (tail_any (T := T) (H.out.mono (HE.out.trans HW.out)) k (by rw [HM.out]; exact hlt)).mono ?_
      rintro e w2 ⟨x, rfl, hE2, rfl⟩
      have HO2 := Lib.hid (ownsRow_ext HO.out hE2)
      have HW2 := Lib.hid (HW.out.trans hE2)
      clear hE2
      have hlen := outTo_len T n k
      rcases Bool.eq_false_or_eq_true (tailN T k == n) with hq | hq
      · have HS := Lib.hid (outTo_yes T n k hq)
        have HOa := Lib.hid (HO2.out.alloc (.cells #[.int .i64 (k : Int)] 3))
        have HWa := Lib.hid (HW2.out.alloc (.cells #[.int .i64 (k : Int)] 3))
        go_wp2_with (at_builtin; refine wpList_append_row rfl (.tmp 17) (.tmp 19) 29 rfl w1.heap.size 3 Tryd.underlying29 info_int rfl (by decide) rfl HOa.out rfl (Row.lit 3 (.int .i64 (k : Int))) (by simp) (by simp [Value.oneCell']) (by unfold maxLen; omega) (by omega) HWa.out.size ?_)
        intro v3 w3 hown3 hg3
        have HO3 := Lib.hid (show w3.ownsRow w1.heap.size 3 1 v3 (outTo T n (k + 1)).length (ints (outTo T n (k + 1))) by
          rw [HS.out, List.length_append, ← ints_append]; exact hown3)
        have HW3 := Lib.hid (grown_below HWa.out HOa.out (Nat.le_refl _) HWa.out.size hg3)
        clear hown3 hg3
        go_wp2_with fail
        go_roundw
        case rel => exact ⟨k + 1, by omega, by go_num, HO3.out, HW3.out⟩
        case measure => simp [intOf]; omega
      · have HS := Lib.hid (outTo_no T n k hq)
        go_wp2_with fail
        go_roundw
        case rel => exact ⟨k + 1, by omega, by go_num, by rw [HS.out]; exact HO2.out, HW2.out⟩
        case measure => simp [intOf]; omega
    · obtain rfl : k = 2 * m := by omega
      have HF := Lib.hid (show outTo T n (2 * m) = outL T n by unfold outL; rw [HM.out])
      go_wp2_with fail
      go_ret
      exact ⟨_, rfl, HE.out.trans HW.out, by rw [← HF.out]; exact IntsV.owns HO.out rfl⟩

end Net
end Go.Proofs.YtkaalpdfppbdeaaDoor
