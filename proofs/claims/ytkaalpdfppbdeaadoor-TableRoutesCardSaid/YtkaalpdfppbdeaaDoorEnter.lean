/- graph.Entering and graph.Leaving: for each node its arcs. -/
import Derived.Test.YtkaalpdfppbdeaaDoorPWv
import Derived.Test.YtkaalpdfppbdeaaDoorSearch
namespace Go.Proofs.YtkaalpdfppbdeaaDoor
namespace PW
open Go.RowKit Reg Mem Net

set_option maxRecDepth 10000 in
set_option maxHeartbeats 1000000 in
theorem entering_can (T : Topo) (hv : validB T = true) : Can Tryd.prog 84 [topoV T] (· = rowsV (rowsL (headN T) T.nodes.toNat (2 * T.links.length))) := by
  have hbd := valid_bd hv
  have hS := sound_of hv
  obtain ⟨n, hn⟩ : ∃ n : Nat, T.nodes = (n : Int) := ⟨T.nodes.toNat, by omega⟩
  rw [show T.nodes.toNat = n by omega]
  refine can_of Tryd.func84 rfl Tryd.ntmps84 rfl ?_
  refine W_cs (
    .val (y_boxPin rfl rfl rfl) rfl rfl rfl <|
    .val (y_assign rfl rfl) rfl rfl rfl <|
    .nil (.cons (k := 1) rfl <| Sub.nil _)) ?_
  refine W_rs ?_
  refine WR_val ((by first | exact y_fieldPin rfl fo_25_0 rfl | exact y_fieldPtr rfl fo_25_0 rfl)) rfl rfl rfl ?_
  refine WR_val ((by first | exact y_loadPin rfl tk_3 rfl rfl | exact y_loadPtr rfl tk_3 rfl rfl rfl)) rfl rfl rfl ?_
  refine WR_loud (l_make rfl rk_100 rfl rfl hn hn ⟨by unfold maxLen; omega, by omega⟩) rfl rfl rfl ?_
  refine WR_val (y_assign rfl rfl) rfl rfl rfl ?_
  refine WR_sub (.cons (k := 1) rfl <| .cons (k := 3) rfl <| Sub.nil _) (WR_nil ?_)
  refine W_adoptRows 29 3 n ?_
  refine W_seq ?_
  refine W_cs (
    .val ((by first | exact y_loadPinAll rfl tk_25 rfl rfl | exact y_loadPtrAll rfl tk_25 rfl rfl rfl | exact y_loadPinAgg rfl tk_25 rfl rfl rfl | exact y_loadPtrAgg rfl tk_25 rfl rfl rfl rfl)) rfl rfl rfl <|
    .val (y_call rfl en_58 rfl rfl (arcs_can T (by omega))) rfl rfl rfl <|
    .val (y_move rfl rfl) rfl rfl rfl <|
    .nil (.cons (k := 1) rfl <| .cons (k := 3) rfl <| .cons (k := 10) rfl <| .cons (k := 11) rfl <| Sub.nil _)) ?_
  refine W_block ?_
  refine W_sub (.cons (k := 1) rfl <| .cons (k := 3) rfl <| .cons (k := 10) rfl <| .cons (k := 11) rfl <| Sub.nil _) ?_
  refine W_loop (fun r s => ∃ k, k ≤ 2 * T.links.length ∧ r = 2 * T.links.length - k ∧ s = ⟨[(1, .pin (topoP T) 0), (3, .own 0), (10, num (2 * (T.links.length : Int))), (11, num k)], rsto 29 3 (rowsL (headN T) n k)⟩) (2 * T.links.length) ⟨0, by omega, by omega, by rw [rowsL_zero]; rfl⟩ ?_
  rintro r s ⟨k, hk, rfl, rfl⟩
  refine W_cs (
    .val (y_lss rfl rfl rfl rfl) rfl rfl rfl <|
    .nil (.cons (k := 1) rfl <| .cons (k := 3) rfl <| .cons (k := 10) rfl <| .cons (k := 11) rfl <| .cons (k := 12) rfl <| Sub.nil _)) ?_
  refine W_seq ?_
  refine W_cond rfl (fun hc => ?_) (fun hc => ?_)
  · have hlt : k < 2 * T.links.length := by have := of_decide_eq_true hc; omega
    obtain ⟨hd0, hhN⟩ := hS.head k hlt
    obtain ⟨m, hm⟩ := Int.eq_ofNat_of_zero_le hd0
    have hmn : m < n := by omega
    have hrl := rowsL_len (headN T) n k
    have hgl : ((rowsL (headN T) n k).getD m []).length ≤ k := by
      rw [rowsL_get _ _ _ _ hmn]
      simp only [List.length_map]
      exact Nat.le_trans (List.length_filter_le _ _) (by simp)
    refine W_skip ?_
    refine W_seq ?_
    refine W_block ?_
    refine W_cs (
      .val (y_move rfl rfl) rfl rfl rfl <|
      .val (y_assign rfl rfl) rfl rfl rfl <|
      .nil (.cons (k := 1) rfl <| .cons (k := 3) rfl <| .cons (k := 4) rfl <| .cons (k := 10) rfl <| .cons (k := 11) rfl <| Sub.nil _)) ?_
    refine W_cs (
      .val ((by first | exact y_loadPinAll rfl tk_25 rfl rfl | exact y_loadPtrAll rfl tk_25 rfl rfl rfl | exact y_loadPinAgg rfl tk_25 rfl rfl rfl | exact y_loadPtrAgg rfl tk_25 rfl rfl rfl rfl)) rfl rfl rfl <|
      .val (y_move rfl rfl) rfl rfl rfl <|
      .val (y_call rfl en_75 rfl rfl (hm ▸ head_can T k hlt (by omega))) rfl rfl rfl <|
      .val (y_assign rfl rfl) rfl rfl rfl <|
      .nil (.cons (k := 1) rfl <| .cons (k := 3) rfl <| .cons (k := 4) rfl <| .cons (k := 5) rfl <| .cons (k := 10) rfl <| .cons (k := 11) rfl <| Sub.nil _)) ?_
    refine W_region ?_
    refine WR_val (y_move rfl rfl) rfl rfl rfl ?_
    refine WR_val (y_move rfl rfl) rfl rfl rfl ?_
    refine WR_val (y_move rfl rfl) rfl rfl rfl ?_
    refine WR_val (y_move rfl rfl) rfl rfl rfl ?_
    refine WR_val ((by first | exact y_indexSlice (j := m) rfl el_100 rfl rfl (by omega) (by omega) (by omega) | exact y_indexOwn (j := m) rfl el_100 rfl rfl rfl (by omega) (by omega) (by omega))) rfl rfl rfl ?_
    refine WR_val ((by first | exact y_loadPin rfl tk_29 rfl (owns_get _ m (by omega)) | exact y_loadPtr rfl tk_29 rfl rfl (owns_get _ m (by omega)))) rfl rfl rfl ?_
    refine WR_val (y_move rfl rfl) rfl rfl rfl ?_
    refine WR_val (y_buildSlice (xs := [_]) rfl sl_29 ⟨Nat.le_of_ble_eq_true rfl, Nat.le_of_ble_eq_true rfl⟩ rfl rfl) rfl rfl rfl ?_
    refine WR_loud (l_append rfl rk_29 rfl (rsto_get _ _ _ m (by omega)) rfl rfl ⟨by unfold maxLen; omega, by omega⟩) rfl rfl rfl ?_
    refine WR_val ((by first | exact y_indexSlice (j := m) rfl el_100 rfl rfl (by omega) (by omega) (by omega) | exact y_indexOwn (j := m) rfl el_100 rfl rfl rfl (by omega) (by omega) (by omega))) rfl rfl rfl ?_
    refine WR_loud0 (l_store1 rfl tk_29 rfl rfl rfl (by show m < (ownsP _).length; simp [ownsP]; omega)) rfl rfl ?_
    refine WR_sub (.cons (k := 1) rfl <| .cons (k := 3) rfl <| .cons (k := 10) rfl <| .cons (k := 11) rfl <| Sub.nil _) (WR_nil ?_)
    refine W_ren (rfs (rowsL (headN T) n k).length m) (.cons 1 rfl Ren.pure <| .cons 3 rfl (Ren.own (i := 0) rfl) <| .cons 10 rfl Ren.pure <| .cons 11 rfl Ren.pure <| .nil) (rsto_ren 29 3 (rowsL (headN T) n k) m (by omega) (k : Int)) (rfs_nodup _ _) rfl ?_
    rw [← rowsL_step (headN T) n k m hm hmn]
    refine W_chain (
      .val (y_add rfl rfl rfl rfl (by unfold In64; omega)) rfl rfl rfl <|
      .val (y_move rfl rfl) rfl rfl rfl <|
      .nil (.cons (k := 1) rfl <| .cons (k := 3) rfl <| .cons (k := 10) rfl <| .cons (k := 11) rfl <| Sub.nil _)) ?_
    exact ⟨2 * T.links.length - (k + 1), by omega, k + 1, by omega, rfl, rfl⟩
  · have hke : k = 2 * T.links.length := by have := of_decide_eq_false hc; omega
    subst hke
    refine W_exit ?_
    refine W_cs (
      .val (y_move rfl rfl) rfl rfl rfl <|
      .val (y_assign rfl rfl) rfl rfl rfl <|
      .nil (.cons (k := 2) rfl <| Sub.nil _)) ?_
    refine W_ret ?_
    exact ⟨_, _, .cons (.tmp rfl) <| .nil, rsto_pur _ _ _, rfl⟩

end PW
end Go.Proofs.YtkaalpdfppbdeaaDoor
