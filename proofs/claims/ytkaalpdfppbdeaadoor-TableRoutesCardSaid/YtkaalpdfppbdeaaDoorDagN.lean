/- Package graph: Out; package dag: dists, Next. -/
import Derived.Test.YtkaalpdfppbdeaaDoorSpfD
namespace Go.Proofs.YtkaalpdfppbdeaaDoor
namespace PW
open Go.RowKit Reg Mem Net Heap

set_option maxRecDepth 10000 in
set_option maxHeartbeats 1000000 in
theorem out_can (T : Topo) (hl : T.links.length ≤ 256) (n : Int) : Can Tryd.prog 31 [topoV T, num n] (· = intsV (outL T n)) := by
  refine can_of Tryd.func31 rfl Tryd.ntmps31 rfl ?_
  refine W_cs (
    .val (y_boxPin rfl rfl rfl) rfl rfl rfl <|
    .val (y_assign rfl rfl) rfl rfl rfl <|
    .nil (.cons (k := 1) rfl <| .cons (k := 2) rfl <| Sub.nil _)) ?_
  refine W_cs (
    .val (y_assign rfl rfl) rfl rfl rfl <|
    .nil (.cons (k := 1) rfl <| .cons (k := 2) rfl <| .cons (k := 5) rfl <| Sub.nil _)) ?_
  refine W_adopt 5 3 1 rfl ?_
  refine W_seq ?_
  refine W_cs (
    .val ((by first | exact y_loadPinAll rfl tk_25 rfl rfl | exact y_loadPtrAll rfl tk_25 rfl rfl rfl | exact y_loadPinAgg rfl tk_25 rfl rfl rfl | exact y_loadPtrAgg rfl tk_25 rfl rfl rfl rfl)) rfl rfl rfl <|
    .val (y_call rfl en_58 rfl rfl (arcs_can T (by omega))) rfl rfl rfl <|
    .val (y_move rfl rfl) rfl rfl rfl <|
    .nil (.cons (k := 1) rfl <| .cons (k := 2) rfl <| .cons (k := 5) rfl <| .cons (k := 8) rfl <| .cons (k := 9) rfl <| Sub.nil _)) ?_
  refine W_block ?_
  refine W_sub (.cons (k := 1) rfl <| .cons (k := 2) rfl <| .cons (k := 5) rfl <| .cons (k := 8) rfl <| .cons (k := 9) rfl <| Sub.nil _) ?_
  refine W_loop (fun r s => ∃ k, k ≤ 2 * T.links.length ∧ r = 2 * T.links.length - k ∧ s = ⟨[(1, num n), (2, .pin (topoP T) 0), (5, .own 0), (8, num (2 * (T.links.length : Int))), (9, num k)], [some (.row 3 1 (outTo T n k).length (intsP (outTo T n k)))]⟩) (2 * T.links.length) ⟨0, by omega, by omega, rfl⟩ ?_
  rintro r s ⟨k, hk, rfl, rfl⟩
  refine W_cs (
    .val (y_lss rfl rfl rfl rfl) rfl rfl rfl <|
    .nil (.cons (k := 1) rfl <| .cons (k := 2) rfl <| .cons (k := 5) rfl <| .cons (k := 8) rfl <| .cons (k := 9) rfl <| .cons (k := 10) rfl <| Sub.nil _)) ?_
  refine W_seq ?_
  refine W_cond rfl (fun hc => ?_) (fun hc => ?_)
  · have hlt : k < 2 * T.links.length := by have := of_decide_eq_true hc; omega
    have hlen := outTo_len T n k
    refine W_skip ?_
    refine W_seq ?_
    refine W_block ?_
    refine W_cs (
      .val (y_move rfl rfl) rfl rfl rfl <|
      .val (y_assign rfl rfl) rfl rfl rfl <|
      .nil (.cons (k := 1) rfl <| .cons (k := 2) rfl <| .cons (k := 5) rfl <| .cons (k := 6) rfl <| .cons (k := 8) rfl <| .cons (k := 9) rfl <| Sub.nil _)) ?_
    refine W_cs (
      .val ((by first | exact y_loadPinAll rfl tk_25 rfl rfl | exact y_loadPtrAll rfl tk_25 rfl rfl rfl | exact y_loadPinAgg rfl tk_25 rfl rfl rfl | exact y_loadPtrAgg rfl tk_25 rfl rfl rfl rfl)) rfl rfl rfl <|
      .val (y_move rfl rfl) rfl rfl rfl <|
      .val (y_call rfl en_61 rfl rfl (tail_can T k hlt)) rfl rfl rfl <|
      .val (y_move rfl rfl) rfl rfl rfl <|
      .val (y_eql rfl rfl rfl rfl) rfl rfl rfl <|
      .nil (.cons (k := 1) rfl <| .cons (k := 2) rfl <| .cons (k := 5) rfl <| .cons (k := 6) rfl <| .cons (k := 8) rfl <| .cons (k := 9) rfl <| .cons (k := 16) rfl <| Sub.nil _)) ?_
    refine W_cond rfl (fun hc => ?_) (fun hc => ?_)
    · have hst := outTo_yes T n k (by simpa using of_decide_eq_true hc)
      refine W_region ?_
      refine WR_val (y_move rfl rfl) rfl rfl rfl ?_
      refine WR_val (y_move rfl rfl) rfl rfl rfl ?_
      refine WR_val (y_buildSlice (xs := [_]) rfl sl_29 ⟨Nat.le_of_ble_eq_true rfl, Nat.le_of_ble_eq_true rfl⟩ rfl rfl) rfl rfl rfl ?_
      refine WR_loud (l_append rfl rk_29 rfl rfl rfl rfl (by unfold maxLen; omega)) rfl rfl rfl ?_
      refine WR_val (y_assign rfl rfl) rfl rfl rfl ?_
      refine WR_ren [1] (.cons 1 rfl (by first | exact Ren.pure | exact Ren.own (i := 0) rfl | exact Ren.ptr (i := 0) rfl) <| .cons 2 rfl (by first | exact Ren.pure | exact Ren.own (i := 0) rfl | exact Ren.ptr (i := 0) rfl) <| .cons 5 rfl (by first | exact Ren.pure | exact Ren.own (i := 0) rfl | exact Ren.ptr (i := 0) rfl) <| .cons 8 rfl (by first | exact Ren.pure | exact Ren.own (i := 0) rfl | exact Ren.ptr (i := 0) rfl) <| .cons 9 rfl (by first | exact Ren.pure | exact Ren.own (i := 0) rfl | exact Ren.ptr (i := 0) rfl) <| .nil) (.kept rfl (.rowP rfl (intsP_snoc _ _)) <| .nil) rfl rfl (WR_nil ?_)
      refine W_chain (
        .val (y_add rfl rfl rfl rfl (by unfold In64; omega)) rfl rfl rfl <|
        .val (y_move rfl rfl) rfl rfl rfl <|
        .nil (.cons (k := 1) rfl <| .cons (k := 2) rfl <| .cons (k := 5) rfl <| .cons (k := 8) rfl <| .cons (k := 9) rfl <| Sub.nil _)) ?_
      refine ⟨2 * T.links.length - (k + 1), by omega, k + 1, by omega, rfl, ?_⟩
      rw [hst]
      first
        | rfl
        | (simp only [List.length_append, List.length_singleton]; rfl)
    · have hst := outTo_no T n k (by simpa using of_decide_eq_false hc)
      refine W_skip ?_
      refine W_chain (
        .val (y_add rfl rfl rfl rfl (by unfold In64; omega)) rfl rfl rfl <|
        .val (y_move rfl rfl) rfl rfl rfl <|
        .nil (.cons (k := 1) rfl <| .cons (k := 2) rfl <| .cons (k := 5) rfl <| .cons (k := 8) rfl <| .cons (k := 9) rfl <| Sub.nil _)) ?_
      refine ⟨2 * T.links.length - (k + 1), by omega, k + 1, by omega, rfl, ?_⟩
      rw [hst]
      first
        | rfl
        | (simp only [List.length_append, List.length_singleton]; rfl)
  · have hke : k = 2 * T.links.length := by have := of_decide_eq_false hc; omega
    subst hke
    refine W_exit ?_
    refine W_cs (
      .val (y_move rfl rfl) rfl rfl rfl <|
      .val (y_assign rfl rfl) rfl rfl rfl <|
      .nil (.cons (k := 4) rfl <| Sub.nil _)) ?_
    refine W_ret ?_
    exact ⟨_, _, .cons (.tmp rfl) <| .nil, Pur.ownL rfl PurL.pure, rfl⟩

def nodeE (T : Topo) (D : List Bool) (n d : Int) : Int := if chkE T D [d] = 0 then (if nodeB T n then 0 else 2) else chkE T D [d]
set_option maxRecDepth 10000 in
set_option maxHeartbeats 1000000 in
theorem dists_can (T : Topo) (D : List Bool) (n d : Int) : Can Tryd.prog 59 [topoV T, boolsV D, num n, num d] (· = intsE (nodeE T D n d) (distL T D d.toNat false)) := by
  refine can_of Tryd.func59 rfl Tryd.ntmps59 rfl ?_
  refine W_cs (
    .val (y_boxPin rfl rfl rfl) rfl rfl rfl <|
    .val (y_assign rfl rfl) rfl rfl rfl <|
    .val (y_assign rfl rfl) rfl rfl rfl <|
    .nil (.cons (k := 1) rfl <| .cons (k := 2) rfl <| .cons (k := 3) rfl <| .cons (k := 4) rfl <| Sub.nil _)) ?_
  refine W_cs (
    .val ((by first | exact y_loadPinAll rfl tk_25 rfl rfl | exact y_loadPtrAll rfl tk_25 rfl rfl rfl | exact y_loadPinAgg rfl tk_25 rfl rfl rfl | exact y_loadPtrAgg rfl tk_25 rfl rfl rfl rfl)) rfl rfl rfl <|
    .val (y_move rfl rfl) rfl rfl rfl <|
    .val (y_move rfl rfl) rfl rfl rfl <|
    .val (y_call rfl en_74 rfl rfl (dist_can T D d)) rfl rfl rfl <|
    .val (y_move rfl rfl) rfl rfl rfl <|
    .val (y_extract rfl rfl rfl) rfl rfl rfl <|
    .val (y_extract rfl rfl rfl) rfl rfl rfl <|
    .val (y_assign rfl rfl) rfl rfl rfl <|
    .val (y_assign rfl rfl) rfl rfl rfl <|
    .nil (.cons (k := 2) rfl <| .cons (k := 4) rfl <| .cons (k := 10) rfl <| .cons (k := 11) rfl <| Sub.nil _)) ?_
  refine W_seq ?_
  refine W_cs (
    .val (y_move rfl rfl) rfl rfl rfl <|
    .val (y_neq rfl rfl rfl rfl) rfl rfl rfl <|
    .nil (.cons (k := 2) rfl <| .cons (k := 4) rfl <| .cons (k := 10) rfl <| .cons (k := 11) rfl <| .cons (k := 20) rfl <| Sub.nil _)) ?_
  refine W_cond rfl (fun hc => ?_) (fun hc => ?_)
  · have he : chkE T D [d] ≠ 0 := of_decide_eq_true hc
    refine W_cs (
      .val (y_move rfl rfl) rfl rfl rfl <|
      .val (y_assign rfl rfl) rfl rfl rfl <|
      .val (y_assign rfl rfl) rfl rfl rfl <|
      .nil (.cons (k := 8) rfl <| .cons (k := 9) rfl <| Sub.nil _)) ?_
    refine W_ret ?_
    exact ⟨_, _, .cons (.tmp rfl) <| .cons (.tmp rfl) <| .nil, Pur.tupleL (PurL.cons Pur.nils (PurL.cons Pur.pure PurL.nil)), by unfold intsE nodeE; rw [if_neg he, if_neg he]; rfl⟩
  · have he : chkE T D [d] = 0 := by have := of_decide_eq_false hc; omega
    refine W_skip ?_
    refine W_seq ?_
    refine W_cs (
      .val ((by first | exact y_loadPinAll rfl tk_25 rfl rfl | exact y_loadPtrAll rfl tk_25 rfl rfl rfl | exact y_loadPinAgg rfl tk_25 rfl rfl rfl | exact y_loadPtrAgg rfl tk_25 rfl rfl rfl rfl)) rfl rfl rfl <|
      .val (y_move rfl rfl) rfl rfl rfl <|
      .val (y_call rfl en_29 rfl rfl (node_can T n)) rfl rfl rfl <|
      .val (y_not rfl rfl) rfl rfl rfl <|
      .nil (.cons (k := 10) rfl <| .cons (k := 25) rfl <| Sub.nil _)) ?_
    refine W_cond rfl (fun hc => ?_) (fun hc => ?_)
    · have hn : nodeB T n = false := by revert hc; cases nodeB T n <;> simp
      refine W_cs (
        .val (y_assign rfl rfl) rfl rfl rfl <|
        .val (y_assign rfl rfl) rfl rfl rfl <|
        .nil (.cons (k := 8) rfl <| .cons (k := 9) rfl <| Sub.nil _)) ?_
      refine W_ret ?_
      exact ⟨_, _, .cons (.tmp rfl) <| .cons (.tmp rfl) <| .nil, Pur.tupleL (PurL.cons Pur.nils (PurL.cons Pur.pure PurL.nil)), by unfold intsE nodeE; rw [if_pos he, hn]; rfl⟩
    · have hn : nodeB T n = true := by revert hc; cases nodeB T n <;> simp
      refine W_skip ?_
      refine W_cs (
        .val (y_move rfl rfl) rfl rfl rfl <|
        .val (y_assign rfl rfl) rfl rfl rfl <|
        .val (y_assign rfl rfl) rfl rfl rfl <|
        .nil (.cons (k := 8) rfl <| .cons (k := 9) rfl <| Sub.nil _)) ?_
      refine W_ret ?_
      exact ⟨_, _, .cons (.tmp rfl) <| .cons (.tmp rfl) <| .nil, Pur.pure, by unfold intsE nodeE; simp only [he, hn, if_true]; rfl⟩

theorem chkE_zero {T : Topo} {D : List Bool} {ns : List Int} (he : chkE T D ns = 0) : validB T = true ∧ fitsB T D = true ∧ ∀ n ∈ ns, nodeB T n = true := by
  unfold chkE at he
  split at he
  · rename_i h1
    split at he
    · rename_i h2
      obtain ⟨a, b⟩ := Bool.and_eq_true_iff.1 h1
      exact ⟨a, b, List.all_eq_true.1 h2⟩
    · omega
  · omega
theorem nodeB_iff {T : Topo} {n : Int} : nodeB T n = true ↔ 0 ≤ n ∧ n < T.nodes := by simp [nodeB]
theorem nodeE_zero {T : Topo} {D : List Bool} {n d : Int} (he : nodeE T D n d = 0) : validB T = true ∧ fitsB T D = true ∧ nodeB T n = true ∧ nodeB T d = true := by
  unfold nodeE at he
  split at he
  · rename_i h1
    obtain ⟨a, b, c⟩ := chkE_zero h1
    split at he
    · rename_i h2; exact ⟨a, b, h2, c d (by simp)⟩
    · omega
  · omega
theorem distL_bound {T : Topo} {D : List Bool} (hv : validB T = true) {d : Nat} {dir : Bool} (hd : (d : Int) < T.nodes) : ((distL T D d dir).length : Int) = T.nodes ∧ ∀ x ∈ distL T D d dir, -1 ≤ x ∧ x ≤ 4194240 := by
  have hS := sound_of hv
  have hI := distL_inv hS D dir hd
  refine ⟨hI.len, fun x hx => ?_⟩
  obtain ⟨i, hi, rfl⟩ := List.getElem_of_mem hx
  have hin : (i : Int) < T.nodes := by have := hI.len; omega
  have h1 := hI.ge i hin
  have h2 := hI.bnd i hin
  have h3 := cnt_le (distL T D d dir)
  have h4 := hS.nodes
  have h5 := hI.len
  rw [at_eq _ i hi] at h1 h2
  omega
/-- The next arcs of a node. -/
noncomputable def nextL (T : Topo) (D : List Bool) (n d : Nat) : List Int :=
  if n = d ∨ (distL T D d false).getD n 0 < 0 then [] else passL T D (distL T D d false) ((distL T D d false).getD n 0) d (outL T n)
theorem outL_mem {T : Topo} {n : Int} {a : Int} (h : a ∈ outL T n) : 0 ≤ a ∧ a < 2 * (T.links.length : Int) := by
  unfold outL outTo at h
  obtain ⟨b, hb, rfl⟩ := List.mem_map.1 h
  have := (List.mem_filter.1 hb).1
  have := List.mem_range.1 this
  simp; omega

set_option maxRecDepth 10000 in
set_option maxHeartbeats 1000000 in
theorem next_can (T : Topo) (D : List Bool) (n d : Int) : Can Tryd.prog 30 [topoV T, boolsV D, num n, num d] (· = intsE (nodeE T D n d) (nextL T D n.toNat d.toNat)) := by
  refine can_of Tryd.func30 rfl Tryd.ntmps30 rfl ?_
  refine W_cs (
    .val (y_boxPin rfl rfl rfl) rfl rfl rfl <|
    .val (y_assign rfl rfl) rfl rfl rfl <|
    .val (y_assign rfl rfl) rfl rfl rfl <|
    .nil (.cons (k := 1) rfl <| .cons (k := 2) rfl <| .cons (k := 3) rfl <| .cons (k := 4) rfl <| Sub.nil _)) ?_
  refine W_cs (
    .val ((by first | exact y_loadPinAll rfl tk_25 rfl rfl | exact y_loadPtrAll rfl tk_25 rfl rfl rfl | exact y_loadPinAgg rfl tk_25 rfl rfl rfl | exact y_loadPtrAgg rfl tk_25 rfl rfl rfl rfl)) rfl rfl rfl <|
    .val (y_move rfl rfl) rfl rfl rfl <|
    .val (y_move rfl rfl) rfl rfl rfl <|
    .val (y_move rfl rfl) rfl rfl rfl <|
    .val (y_call rfl en_59 rfl rfl (dists_can T D n d)) rfl rfl rfl <|
    .val (y_move rfl rfl) rfl rfl rfl <|
    .val (y_extract rfl rfl rfl) rfl rfl rfl <|
    .val (y_extract rfl rfl rfl) rfl rfl rfl <|
    .val (y_assign rfl rfl) rfl rfl rfl <|
    .val (y_assign rfl rfl) rfl rfl rfl <|
    .nil (.cons (k := 1) rfl <| .cons (k := 2) rfl <| .cons (k := 3) rfl <| .cons (k := 4) rfl <| .cons (k := 10) rfl <| .cons (k := 11) rfl <| Sub.nil _)) ?_
  refine W_seq ?_
  refine W_cs (
    .val (y_move rfl rfl) rfl rfl rfl <|
    .val (y_neq rfl rfl rfl rfl) rfl rfl rfl <|
    .nil (.cons (k := 1) rfl <| .cons (k := 2) rfl <| .cons (k := 3) rfl <| .cons (k := 4) rfl <| .cons (k := 10) rfl <| .cons (k := 11) rfl <| .cons (k := 21) rfl <| Sub.nil _)) ?_
  refine W_cond rfl (fun hc => ?_) (fun hc => ?_)
  · have he : nodeE T D n d ≠ 0 := of_decide_eq_true hc
    refine W_cs (
      .val (y_move rfl rfl) rfl rfl rfl <|
      .val (y_assign rfl rfl) rfl rfl rfl <|
      .val (y_assign rfl rfl) rfl rfl rfl <|
      .nil (.cons (k := 8) rfl <| .cons (k := 9) rfl <| Sub.nil _)) ?_
    refine W_ret ?_
    exact ⟨_, _, .cons (.tmp rfl) <| .cons (.tmp rfl) <| .nil, Pur.tupleL (PurL.cons Pur.nils (PurL.cons Pur.pure PurL.nil)), by unfold intsE; rw [if_neg he]; rfl⟩
  · have he : nodeE T D n d = 0 := by have := of_decide_eq_false hc; omega
    rw [he]
    obtain ⟨hv, hf, hn, hd⟩ := nodeE_zero he
    rw [nodeB_iff] at hn hd
    obtain ⟨n, rfl⟩ := Int.eq_ofNat_of_zero_le hn.1
    obtain ⟨d, rfl⟩ := Int.eq_ofNat_of_zero_le hd.1
    have hll := links_le hv
    obtain ⟨hb1, hb2⟩ := distL_bound (D := D) hv (dir := false) hd.2
    refine W_skip ?_
    refine W_ds [23, 24, 25, 26, 27, 28, 29, 30, 31, 8, 9] mixed (by kernel_rfl) (by kernel_rfl) (by kernel_rfl) (
      .val [4] rfl ((by first | exact y_loadPinAll rfl tk_25 rfl rfl | exact y_loadPtrAll rfl tk_25 rfl rfl rfl | exact y_loadPinAgg rfl tk_25 rfl rfl rfl | exact y_loadPtrAgg rfl tk_25 rfl rfl rfl rfl)) rfl rfl rfl <|
      .val [1] rfl (y_move rfl rfl) rfl rfl rfl <|
      .val [10] rfl (y_move rfl rfl) rfl rfl rfl <|
      .val [4] rfl ((by first | exact y_loadPinAll rfl tk_25 rfl rfl | exact y_loadPtrAll rfl tk_25 rfl rfl rfl | exact y_loadPinAgg rfl tk_25 rfl rfl rfl | exact y_loadPtrAgg rfl tk_25 rfl rfl rfl rfl)) rfl rfl rfl <|
      .val [2] rfl (y_move rfl rfl) rfl rfl rfl <|
      .val [26, 27] rfl (y_call rfl en_31 rfl rfl (out_can T hll _)) rfl rfl rfl <|
      .val [2] rfl (y_move rfl rfl) rfl rfl rfl <|
      .val [3] rfl (y_move rfl rfl) rfl rfl rfl <|
      .val [23, 24, 25, 28, 29, 30] rfl (y_call rfl en_60 rfl rfl (dnext_can T D (distL T D d false) (outL T n) n d hv hf hb1 hb2 hn.2 hd.2 (fun a ha => outL_mem ha) (Nat.le_trans (outTo_len T n _) (by omega)))) rfl rfl rfl <|
      .val [31] rfl (y_assign rfl rfl) rfl rfl rfl <|
      .val [] rfl (y_assign rfl rfl) rfl rfl rfl <|
      .nil (.cons (k := 8) rfl <| .cons (k := 9) rfl <| Sub.nil _)) ?_
    refine W_ret ?_
    exact ⟨_, _, .cons (.tmp rfl) <| .cons (.tmp rfl) <| .nil, Pur.pure, rfl⟩
end PW
end Go.Proofs.YtkaalpdfppbdeaaDoor
