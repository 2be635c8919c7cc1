/- Package spf: check, Dist; package dag: Next; package graph: Out. -/
import Derived.Test.YtkaalpdfppbdeaaDoorSpf
import Derived.Test.YtkaalpdfppbdeaaDoorDag
import Derived.Test.YtkaalpdfppbdeaaDoorOut
namespace Go.Proofs.YtkaalpdfppbdeaaDoor
namespace PW
open Go.RowKit Reg Mem Net Heap

theorem valid_can (T : Topo) : Can Tryd.prog 27 [topoV T] (· = flag (validB T)) := fun F w vs _ hR => by
  obtain ⟨v, rfl, h1⟩ := args1 hR
  exact can_ret (valid_any (rep_topo h1))
instance (rs : List (List Int)) : IsOne (rowsV rs) := by unfold rowsV; infer_instance
instance (T : Topo) : IsOneL (topoP T) := by unfold topoP; infer_instance
def chkE (T : Topo) (D : List Bool) (ns : List Int) : Int := if validB T && fitsB T D then (if ns.all (nodeB T) then 0 else 2) else 1
theorem links_le {T : Topo} (hv : validB T = true) : T.links.length ≤ 256 := by have := valid_bd hv; omega

set_option maxRecDepth 10000 in
set_option maxHeartbeats 1000000 in
theorem check_can (T : Topo) (D : List Bool) (ns : List Int) (hns : ns.length ≤ 1000) : Can Tryd.prog 83 [topoV T, boolsV D, intsV ns] (· = num (chkE T D ns)) := by
  refine can_of Tryd.func83 rfl Tryd.ntmps83 rfl ?_
  refine W_cs (
    .val (y_boxPin rfl rfl rfl) rfl rfl rfl <|
    .val (y_assign rfl rfl) rfl rfl rfl <|
    .nil (.cons (k := 1) rfl <| .cons (k := 2) rfl <| .cons (k := 3) rfl <| Sub.nil _)) ?_
  refine W_seq ?_
  obtain ⟨q1, hq1⟩ : ∃ q, validB T = q := ⟨_, rfl⟩
  obtain ⟨q2, hq2⟩ : ∃ q, fitsB T D = q := ⟨_, rfl⟩
  refine W_csB 17 (.raw (.bool ((!q1) || (!q2)))) ?_ ?_
  · refine .val ((by first | exact y_loadPinAll rfl tk_25 rfl rfl | exact y_loadPtrAll rfl tk_25 rfl rfl rfl | exact y_loadPinAgg rfl tk_25 rfl rfl rfl | exact y_loadPtrAgg rfl tk_25 rfl rfl rfl rfl)) rfl rfl rfl <| .val (y_call rfl en_27 rfl rfl (hq1 ▸ valid_can T)) rfl rfl rfl <| .val (y_not rfl rfl) rfl rfl rfl <| .val (y_move rfl rfl) rfl rfl rfl <| ?_
    cases q1
    · exact .skip rfl rfl rfl <| .skip rfl rfl rfl <| .skip rfl rfl rfl <| .skip rfl rfl rfl <| .val (y_pickT rfl rfl rfl) rfl rfl rfl <| .nil (.cons (k := 17) rfl (.skip rfl <| .skip rfl <| .skip rfl <| .skip rfl <| .skip rfl <| .skip rfl <| .skip rfl <| .skip rfl <| .skip rfl <| Sub.refl _))
    · exact .val ((by first | exact y_loadPinAll rfl tk_25 rfl rfl | exact y_loadPtrAll rfl tk_25 rfl rfl rfl | exact y_loadPinAgg rfl tk_25 rfl rfl rfl | exact y_loadPtrAgg rfl tk_25 rfl rfl rfl rfl)) rfl rfl rfl <| .val (y_move rfl rfl) rfl rfl rfl <| .val (y_call rfl en_28 rfl rfl (hq2 ▸ fits_can T D (by have := links_le hq1; omega))) rfl rfl rfl <| .val (y_not rfl rfl) rfl rfl rfl <| .val (y_pickF rfl rfl rfl) rfl rfl rfl <| .nil (.cons (k := 17) rfl (.skip rfl <| .skip rfl <| .skip rfl <| .skip rfl <| .skip rfl <| .skip rfl <| .skip rfl <| .skip rfl <| .skip rfl <| Sub.refl _))
  refine W_cond rfl (fun hc => ?_) (fun hc => ?_)
  · have hch : chkE T D ns = 1 := by
      unfold chkE
      rw [hq1, hq2, if_neg]
      revert hc
      cases q1 <;> cases q2 <;> simp
    refine W_cs (
      .val (y_assign rfl rfl) rfl rfl rfl <|
      .nil (.cons (k := 6) rfl <| Sub.nil _)) ?_
    refine W_ret ?_
    exact ⟨_, _, .cons (.tmp rfl) <| .nil, Pur.pure, by rw [hch]; rfl⟩
  · have hok : (validB T && fitsB T D) = true := by
      rw [hq1, hq2]
      revert hc
      cases q1 <;> cases q2 <;> simp
    refine W_skip ?_
    refine W_seq ?_
    refine W_cs (
      .val (y_move rfl rfl) rfl rfl rfl <|
      .val ((by first | exact y_lenSlice rfl el_29 rfl | exact y_lenOwn rfl el_29 rfl rfl | exact y_lenNil rfl el_29 rfl)) rfl rfl rfl <|
      .val (y_move rfl rfl) rfl rfl rfl <|
      .nil (.cons (k := 3) rfl <| .cons (k := 18) rfl <| .cons (k := 19) rfl <| .cons (k := 20) rfl <| Sub.nil _)) ?_
    refine W_block ?_
    refine W_sub (.cons (k := 3) rfl <| .cons (k := 18) rfl <| .cons (k := 19) rfl <| .cons (k := 20) rfl <| Sub.nil _) ?_
    refine W_loop (fun r s => ∃ i, i ≤ ns.length ∧ (ns.take i).all (nodeB T) = true ∧ r = ns.length - i ∧ s = ⟨[(3, .pin (topoP T) 0), (18, intsV ns), (19, num ns.length), (20, num i)], []⟩) ns.length ⟨0, by omega, by simp, by omega, rfl⟩ ?_
    rintro r s ⟨i, hi, hall, rfl, rfl⟩
    refine W_cs (
      .val (y_lss rfl rfl rfl rfl) rfl rfl rfl <|
      .nil (.cons (k := 3) rfl <| .cons (k := 18) rfl <| .cons (k := 19) rfl <| .cons (k := 20) rfl <| .cons (k := 21) rfl <| Sub.nil _)) ?_
    refine W_seq ?_
    refine W_cond rfl (fun hc => ?_) (fun hc => ?_)
    · have hlt : i < ns.length := by have := of_decide_eq_true hc; omega
      refine W_skip ?_
      refine W_seq ?_
      refine W_block ?_
      refine W_cs (
        .val ((by first | exact y_indexSlice (j := i) rfl el_29 rfl rfl (by omega) (by omega) (by omega) | exact y_indexOwn (j := i) rfl el_29 rfl rfl rfl (by omega) (by omega) (by omega))) rfl rfl rfl <|
        .val ((by first | exact y_loadPin rfl tk_3 rfl (ints_get ns i hlt) | exact y_loadPtr rfl tk_3 rfl rfl (ints_get ns i hlt))) rfl rfl rfl <|
        .val (y_assign rfl rfl) rfl rfl rfl <|
        .nil (.cons (k := 3) rfl <| .cons (k := 8) rfl <| .cons (k := 18) rfl <| .cons (k := 19) rfl <| .cons (k := 20) rfl <| Sub.nil _)) ?_
      refine W_cs (
        .val ((by first | exact y_loadPinAll rfl tk_25 rfl rfl | exact y_loadPtrAll rfl tk_25 rfl rfl rfl | exact y_loadPinAgg rfl tk_25 rfl rfl rfl | exact y_loadPtrAgg rfl tk_25 rfl rfl rfl rfl)) rfl rfl rfl <|
        .val (y_move rfl rfl) rfl rfl rfl <|
        .val (y_call rfl en_29 rfl rfl (node_can T _)) rfl rfl rfl <|
        .val (y_not rfl rfl) rfl rfl rfl <|
        .nil (.cons (k := 3) rfl <| .cons (k := 18) rfl <| .cons (k := 19) rfl <| .cons (k := 20) rfl <| .cons (k := 27) rfl <| Sub.nil _)) ?_
      refine W_cond rfl (fun hc => ?_) (fun hc => ?_)
      · have hch : chkE T D ns = 2 := by
          unfold chkE
          rw [if_pos hok, if_neg]
          intro h
          have h1 := List.all_eq_true.1 h _ (getD_mem (d := 0) hlt)
          rw [h1] at hc
          cases hc
        refine W_cs (
          .val (y_assign rfl rfl) rfl rfl rfl <|
          .nil (.cons (k := 6) rfl <| Sub.nil _)) ?_
        refine W_ret ?_
        exact ⟨_, _, .cons (.tmp rfl) <| .nil, Pur.pure, by rw [hch]; rfl⟩
      · have hall' : (ns.take (i + 1)).all (nodeB T) = true := by
          rw [take_step ns i 0 hlt, List.all_append, hall]
          have : nodeB T (ns.getD i 0) = true := by revert hc; cases nodeB T (ns.getD i 0) <;> simp
          simp only [List.all_cons, this, List.all_nil, Bool.and_self]
        refine W_skip ?_
        refine W_chain (
          .val (y_add rfl rfl rfl rfl (by unfold In64; omega)) rfl rfl rfl <|
          .val (y_move rfl rfl) rfl rfl rfl <|
          .nil (.cons (k := 3) rfl <| .cons (k := 18) rfl <| .cons (k := 19) rfl <| .cons (k := 20) rfl <| Sub.nil _)) ?_
        exact ⟨ns.length - (i + 1), by omega, i + 1, by omega, hall', rfl, rfl⟩
    · have hie : i = ns.length := by have := of_decide_eq_false hc; omega
      refine W_exit ?_
      refine W_cs (
        .val (y_assign rfl rfl) rfl rfl rfl <|
        .nil (.cons (k := 6) rfl <| Sub.nil _)) ?_
      refine W_ret ?_
      refine ⟨_, _, .cons (.tmp rfl) <| .nil, Pur.pure, ?_⟩
      unfold chkE
      rw [if_pos hok, if_pos (by rw [hie, List.take_length] at hall; exact hall)]
      rfl

set_option maxRecDepth 10000 in
set_option maxHeartbeats 1000000 in
theorem dist1_can (rs : List (List Int)) (i : Nat) (hi : i < rs.length) : Can Tryd.prog 85 ([num i] ++ [.pin [rowsV rs] 0]) (· = intsV (rs.getD i [])) := by
  refine can_of Tryd.func85 rfl Tryd.ntmps85 rfl ?_
  refine W_cs (
    .val (y_assign rfl rfl) rfl rfl rfl <|
    .nil (.cons (k := 0) rfl <| .cons (k := 1) rfl <| Sub.nil _)) ?_
  refine W_cs (
    .val ((by first | exact y_loadPin rfl tk_100 rfl rfl | exact y_loadPtr rfl tk_100 rfl rfl rfl)) rfl rfl rfl <|
    .val (y_move rfl rfl) rfl rfl rfl <|
    .val ((by first | exact y_indexSlice (j := i) rfl el_100 rfl rfl (by omega) (by omega) (by omega) | exact y_indexOwn (j := i) rfl el_100 rfl rfl rfl (by omega) (by omega) (by omega))) rfl rfl rfl <|
    .val ((by first | exact y_loadPin rfl tk_29 rfl ((show (rs.map intsV)[i]? = some (intsV (rs.getD i [])) by simp [hi])) | exact y_loadPtr rfl tk_29 rfl rfl ((show (rs.map intsV)[i]? = some (intsV (rs.getD i [])) by simp [hi])))) rfl rfl rfl <|
    .val (y_assign rfl rfl) rfl rfl rfl <|
    .nil (.cons (k := 3) rfl <| Sub.nil _)) ?_
  refine W_ret ?_
  exact ⟨_, _, .cons (.tmp rfl) <| .nil, Pur.pure, rfl⟩
set_option maxRecDepth 10000 in
set_option maxHeartbeats 1000000 in
theorem dist2_can (T : Topo) (a : Nat) (ha : a < 2 * T.links.length) : Can Tryd.prog 86 ([num a] ++ [.pin (topoP T) 0]) (· = num (tailN T a)) := by
  refine can_of Tryd.func86 rfl Tryd.ntmps86 rfl ?_
  refine W_cs (
    .val (y_assign rfl rfl) rfl rfl rfl <|
    .nil (.cons (k := 0) rfl <| .cons (k := 1) rfl <| Sub.nil _)) ?_
  refine W_cs (
    .val ((by first | exact y_loadPinAll rfl tk_25 rfl rfl | exact y_loadPtrAll rfl tk_25 rfl rfl rfl | exact y_loadPinAgg rfl tk_25 rfl rfl rfl | exact y_loadPtrAgg rfl tk_25 rfl rfl rfl rfl)) rfl rfl rfl <|
    .val (y_move rfl rfl) rfl rfl rfl <|
    .val (y_call rfl en_61 rfl rfl (tail_can T a ha)) rfl rfl rfl <|
    .val (y_assign rfl rfl) rfl rfl rfl <|
    .nil (.cons (k := 3) rfl <| Sub.nil _)) ?_
  refine W_ret ?_
  exact ⟨_, _, .cons (.tmp rfl) <| .nil, Pur.pure, rfl⟩

/-- Numbers, or an error. -/
def intsE (e : Int) (l : List Int) : PV := .tuple [intsV (if e = 0 then l else []), num e]
instance (e : Int) (l : List Int) : IsPure (intsE e l) := by unfold intsE; infer_instance
set_option maxRecDepth 10000 in
set_option maxHeartbeats 1000000 in
theorem dist_can (T : Topo) (D : List Bool) (d : Int) : Can Tryd.prog 74 [topoV T, boolsV D, num d] (· = intsE (chkE T D [d]) (distL T D d.toNat false)) := by
  refine can_of Tryd.func74 rfl Tryd.ntmps74 rfl ?_
  refine W_cs (
    .val (y_boxPin rfl rfl rfl) rfl rfl rfl <|
    .val (y_assign rfl rfl) rfl rfl rfl <|
    .val (y_assign rfl rfl) rfl rfl rfl <|
    .nil (.cons (k := 1) rfl <| .cons (k := 2) rfl <| .cons (k := 3) rfl <| Sub.nil _)) ?_
  refine W_seq ?_
  refine W_cs (
    .val ((by first | exact y_loadPinAll rfl tk_25 rfl rfl | exact y_loadPtrAll rfl tk_25 rfl rfl rfl | exact y_loadPinAgg rfl tk_25 rfl rfl rfl | exact y_loadPtrAgg rfl tk_25 rfl rfl rfl rfl)) rfl rfl rfl <|
    .val (y_move rfl rfl) rfl rfl rfl <|
    .val (y_move rfl rfl) rfl rfl rfl <|
    .val (y_buildSlice (xs := [_]) rfl sl_29 ⟨Nat.le_of_ble_eq_true rfl, Nat.le_of_ble_eq_true rfl⟩ rfl rfl) rfl rfl rfl <|
    .val (y_call rfl en_83 rfl rfl (check_can T D [d] (by simp))) rfl rfl rfl <|
    .val (y_assign rfl rfl) rfl rfl rfl <|
    .nil (.cons (k := 1) rfl <| .cons (k := 2) rfl <| .cons (k := 3) rfl <| .cons (k := 8) rfl <| Sub.nil _)) ?_
  refine W_cs (
    .val (y_move rfl rfl) rfl rfl rfl <|
    .val (y_neq rfl rfl rfl rfl) rfl rfl rfl <|
    .nil (.cons (k := 1) rfl <| .cons (k := 2) rfl <| .cons (k := 3) rfl <| .cons (k := 8) rfl <| .cons (k := 17) rfl <| Sub.nil _)) ?_
  refine W_cond rfl (fun hc => ?_) (fun hc => ?_)
  · have he : chkE T D [d] ≠ 0 := of_decide_eq_true hc
    refine W_cs (
      .val (y_move rfl rfl) rfl rfl rfl <|
      .val (y_assign rfl rfl) rfl rfl rfl <|
      .val (y_assign rfl rfl) rfl rfl rfl <|
      .nil (.cons (k := 6) rfl <| .cons (k := 7) rfl <| Sub.nil _)) ?_
    refine W_ret ?_
    exact ⟨_, _, .cons (.tmp rfl) <| .cons (.tmp rfl) <| .nil, Pur.tupleL (PurL.cons Pur.nils (PurL.cons Pur.pure PurL.nil)), by unfold intsE; rw [if_neg he]; rfl⟩
  · have he : chkE T D [d] = 0 := by have := of_decide_eq_false hc; omega
    have hok : (validB T && fitsB T D) = true ∧ nodeB T d = true := by
      unfold chkE at he
      split at he
      · rename_i h1
        split at he
        · rename_i h2; exact ⟨h1, by simpa using h2⟩
        · omega
      · omega
    obtain ⟨hvf, hnd⟩ := hok
    obtain ⟨hv, hf⟩ := Bool.and_eq_true_iff.1 hvf
    have hd : 0 ≤ d ∧ d < T.nodes := by simpa [nodeB] using hnd
    obtain ⟨n, rfl⟩ := Int.eq_ofNat_of_zero_le hd.1
    have hS := sound_of hv
    refine W_skip ?_
    refine W_rs ?_
    refine WR_val ((by first | exact y_loadPinAll rfl tk_25 rfl rfl | exact y_loadPtrAll rfl tk_25 rfl rfl rfl | exact y_loadPinAgg rfl tk_25 rfl rfl rfl | exact y_loadPtrAgg rfl tk_25 rfl rfl rfl rfl)) rfl rfl rfl ?_
    refine WR_val (y_call rfl en_84 rfl rfl (entering_can T hv)) rfl rfl rfl ?_
    refine WR_loud (l_alloc rfl zk_100) rfl rfl rfl ?_
    refine WR_loud0 ((by first | exact l_store1 rfl tk_100 rfl rfl rfl (Nat.le_of_ble_eq_true rfl) | exact l_storeInts rfl tk_100 rfl rfl rfl (by first | omega | (simp; omega)) | exact l_storeBools rfl tk_100 rfl rfl rfl (by first | omega | (simp; omega)))) rfl rfl ?_
    refine WR_sub (.cons (k := 1) rfl <| .cons (k := 2) rfl <| .cons (k := 3) rfl <| .cons (k := 9) rfl <| Sub.nil _) (WR_nil ?_)
    refine W_rs ?_
    refine WR_val ((by first | exact y_loadPinAll rfl tk_25 rfl rfl | exact y_loadPtrAll rfl tk_25 rfl rfl rfl | exact y_loadPinAgg rfl tk_25 rfl rfl rfl | exact y_loadPtrAgg rfl tk_25 rfl rfl rfl rfl)) rfl rfl rfl ?_
    refine WR_val (y_move rfl rfl) rfl rfl rfl ?_
    refine WR_val (y_move rfl rfl) rfl rfl rfl ?_
    refine WR_val (y_makeFunc rfl rfl) rfl rfl rfl ?_
    refine WR_val (y_makeFunc rfl rfl) rfl rfl rfl ?_
    refine WR_val (y_build (xs := [_, _, _, _, _, _, _]) rfl st_105 rfl rfl) rfl rfl rfl ?_
    refine WR_loud (l_alloc rfl zk_105) rfl rfl rfl ?_
    refine WR_loud0 (l_store rfl tk_105 rfl rfl rfl rfl rfl (Nat.le_of_ble_eq_true rfl)) rfl rfl ?_
    refine WR_sub (.cons (k := 10) rfl <| Sub.nil _) (WR_nil ?_)
    refine W_freeze (.cons 10 rfl (Pur.ptrL rfl (PurL.cons Pur.pure <| PurL.cons Pur.pure <| PurL.cons Pur.pure <| PurL.cons Pur.pure <| PurL.cons Pur.pure <| PurL.cons (Pur.funcL (PurL.cons (Pur.ptrL rfl (PurL.cons Pur.pure PurL.nil)) PurL.nil)) <| PurL.cons Pur.pure PurL.nil)) .nil) ?_
    refine W_cs (
      .val ((by first | exact y_loadPinAll rfl tk_105 rfl rfl | exact y_loadPtrAll rfl tk_105 rfl rfl rfl | exact y_loadPinAgg rfl tk_105 rfl rfl rfl | exact y_loadPtrAgg rfl tk_105 rfl rfl rfl rfl)) rfl rfl rfl <|
      .val (y_call rfl en_87 rfl rfl (run_can T D n false 85 86 [.pin [rowsV (rowsL (headN T) T.nodes.toNat (2 * T.links.length))] 0] [.pin (topoP T) 0] hv hf hd.2 (by kernel_rfl) (by kernel_rfl) (fun i hi => by have h := dist1_can (rowsL (headN T) T.nodes.toNat (2 * T.links.length)) i (by rw [rowsL_len]; omega); rw [rowsL_get _ _ _ _ (by omega)] at h; exact h) (fun a ha => dist2_can T a ha))) rfl rfl rfl <|
      .val (y_assign rfl rfl) rfl rfl rfl <|
      .val (y_assign rfl rfl) rfl rfl rfl <|
      .nil (.cons (k := 6) rfl <| .cons (k := 7) rfl <| Sub.nil _)) ?_
    refine W_ret ?_
    exact ⟨_, _, .cons (.tmp rfl) <| .cons (.tmp rfl) <| .nil, Pur.pure, by unfold intsE; rw [if_pos he, he]; rfl⟩
end PW
end Go.Proofs.YtkaalpdfppbdeaaDoor
