/- The reference of layer 22: Routes. -/
import Derived.Test.YtkaalpdfppbdeaaDoorRefN
namespace Go.Proofs.YtkaalpdfppbdeaaDoor
namespace PW
open Go.RowKit Reg Mem Net

set_option maxRecDepth 10000 in
set_option maxHeartbeats 1000000 in
theorem rroutes_can (T : Topo) (D : List Bool) (n : Int) : Can Tryd.prog 12 [topoV T, boolsV D, num n] (· = .tuple [tabV (routesE T D n), num (chkE T D [n])]) := by
  refine can_of Tryd.func12 rfl Tryd.ntmps12 rfl ?_
  refine W_rs ?_
  refine WR_val (y_boxPin rfl rfl rfl) rfl rfl rfl ?_
  refine WR_loud (l_alloc rfl zk_31) rfl rfl rfl ?_
  refine WR_val (y_assign rfl rfl) rfl rfl rfl ?_
  refine WR_sub (.cons (k := 1) rfl <| .cons (k := 2) rfl <| .cons (k := 3) rfl <| .cons (k := 6) rfl <| Sub.nil _) (WR_nil ?_)
  refine W_seq ?_
  refine W_cs (
    .val ((by first | exact y_loadPinAll rfl tk_25 rfl rfl | exact y_loadPtrAll rfl tk_25 rfl rfl rfl | exact y_loadPinAgg rfl tk_25 rfl rfl rfl | exact y_loadPtrAgg rfl tk_25 rfl rfl rfl rfl)) rfl rfl rfl <|
    .val (y_move rfl rfl) rfl rfl rfl <|
    .val (y_call rfl en_33 rfl rfl (rfits_can T D)) rfl rfl rfl <|
    .val (y_not rfl rfl) rfl rfl rfl <|
    .nil (.cons (k := 1) rfl <| .cons (k := 2) rfl <| .cons (k := 3) rfl <| .cons (k := 6) rfl <| .cons (k := 17) rfl <| Sub.nil _)) ?_
  refine W_cond rfl (fun hc => ?_) (fun hc => ?_)
  · have hch : chkE T D [n] = 1 := by
      unfold chkE
      rw [if_neg]
      revert hc
      cases (validB T && fitsB T D) <;> simp
    refine W_rs ?_
    refine WR_val (y_build (xs := [_, _, _]) rfl st_31 rfl rfl) rfl rfl rfl ?_
    refine WR_loud0 (l_store rfl tk_31 rfl rfl rfl rfl rfl (Nat.le_of_ble_eq_true rfl)) rfl rfl ?_
    refine WR_val (y_assign rfl rfl) rfl rfl rfl ?_
    refine WR_sub (.cons (k := 6) rfl <| .cons (k := 7) rfl <| Sub.nil _) (WR_nil ?_)
    refine W_ret ?_
    exact ⟨_, _, .cons (.cellA rfl rfl tk_31 rfl rfl) <| .cons (.tmp rfl) <| .nil, Pur.tupleL (PurL.cons (Pur.aggL (PurL.cons Pur.pure <| PurL.cons Pur.nils <| PurL.cons Pur.nils PurL.nil)) (PurL.cons Pur.pure PurL.nil)), by unfold routesE; rw [hch]; rfl⟩
  · have hok : (validB T && fitsB T D) = true := by revert hc; cases (validB T && fitsB T D) <;> simp
    refine W_skip ?_
    refine W_seq ?_
    obtain ⟨q1, hq1⟩ : ∃ q, decide (n < 0) = q := ⟨_, rfl⟩
    obtain ⟨q2, hq2⟩ : ∃ q, decide (T.nodes ≤ n) = q := ⟨_, rfl⟩
    have hnb : nodeB T n = !(q1 || q2) := by rw [← hq1, ← hq2]; unfold nodeB; by_cases h1 : n < 0 <;> by_cases h2 : T.nodes ≤ n <;> simp [h1, h2] <;> omega
    refine W_csB 26 (.raw (.bool (q1 || q2))) ?_ ?_
    · refine .val (y_move rfl rfl) rfl rfl rfl <| .val (y_lss rfl rfl rfl (hq1)) rfl rfl rfl <| .val (y_move rfl rfl) rfl rfl rfl <| ?_
      cases q1
      · exact .val (y_move rfl rfl) rfl rfl rfl <| .val ((by first | exact y_fieldPin rfl fo_25_0 rfl | exact y_fieldPtr rfl fo_25_0 rfl)) rfl rfl rfl <| .val ((by first | exact y_loadPin rfl tk_3 rfl rfl | exact y_loadPtr rfl tk_3 rfl rfl rfl)) rfl rfl rfl <| .val (y_geq rfl rfl rfl (hq2)) rfl rfl rfl <| .val (y_pickF rfl rfl rfl) rfl rfl rfl <| .nil (.cons (k := 26) rfl (.skip rfl <| .skip rfl <| .skip rfl <| .skip rfl <| .skip rfl <| .skip rfl <| .skip rfl <| .skip rfl <| Sub.refl _))
      · exact .skip rfl rfl rfl <| .skip rfl rfl rfl <| .skip rfl rfl rfl <| .skip rfl rfl rfl <| .val (y_pickT rfl rfl rfl) rfl rfl rfl <| .nil (.cons (k := 26) rfl (.skip rfl <| .skip rfl <| .skip rfl <| .skip rfl <| .skip rfl <| .skip rfl <| .skip rfl <| .skip rfl <| Sub.refl _))
    refine W_cond rfl (fun hc => ?_) (fun hc => ?_)
    · have hn : nodeB T n = false := by rw [hnb, hc]; rfl
      have hch : chkE T D [n] = 2 := by
        unfold chkE
        rw [if_pos hok, if_neg]
        simp [hn]
      refine W_rs ?_
      refine WR_val (y_build (xs := [_, _, _]) rfl st_31 rfl rfl) rfl rfl rfl ?_
      refine WR_loud0 (l_store rfl tk_31 rfl rfl rfl rfl rfl (Nat.le_of_ble_eq_true rfl)) rfl rfl ?_
      refine WR_val (y_assign rfl rfl) rfl rfl rfl ?_
      refine WR_sub (.cons (k := 6) rfl <| .cons (k := 7) rfl <| Sub.nil _) (WR_nil ?_)
      refine W_ret ?_
      exact ⟨_, _, .cons (.cellA rfl rfl tk_31 rfl rfl) <| .cons (.tmp rfl) <| .nil, Pur.tupleL (PurL.cons (Pur.aggL (PurL.cons Pur.pure <| PurL.cons Pur.nils <| PurL.cons Pur.nils PurL.nil)) (PurL.cons Pur.pure PurL.nil)), by unfold routesE; rw [hch]; rfl⟩
    · have hn : nodeB T n = true := by rw [hnb, hc]; rfl
      have hch : chkE T D [n] = 0 := by
        unfold chkE
        rw [if_pos hok, if_pos]
        simp [hn]
      obtain ⟨hv, hf⟩ := Bool.and_eq_true_iff.1 hok
      rw [nodeB_iff] at hn
      obtain ⟨m, rfl⟩ := Int.eq_ofNat_of_zero_le hn.1
      obtain ⟨N, hN⟩ : ∃ N : Nat, T.nodes = (N : Int) := ⟨T.nodes.toNat, by omega⟩
      have hN64 : N ≤ 64 := by have := (sound_of hv).nodes; omega
      have hll := links_le hv
      clear hc hq1 hq2 hnb
      refine W_skip ?_
      refine W_rs ?_
      refine WR_val (y_move rfl rfl) rfl rfl rfl ?_
      refine WR_val (y_build (xs := [_, _, _]) rfl st_31 rfl rfl) rfl rfl rfl ?_
      refine WR_loud (l_alloc rfl zk_31) rfl rfl rfl ?_
      refine WR_loud0 (l_store rfl tk_31 rfl rfl rfl rfl rfl (Nat.le_of_ble_eq_true rfl)) rfl rfl ?_
      refine WR_sub (.cons (k := 1) rfl <| .cons (k := 2) rfl <| .cons (k := 3) rfl <| .cons (k := 6) rfl <| .cons (k := 8) rfl <| Sub.nil _) (WR_nil ?_)
      refine W_adoptCell 1 1 40 3 rfl rfl ?_
      refine W_adoptCell 1 2 3 1 rfl rfl ?_
      refine W_seq ?_
      refine W_cs (
        .val (y_assign rfl rfl) rfl rfl rfl <|
        .nil (.cons (k := 1) rfl <| .cons (k := 2) rfl <| .cons (k := 3) rfl <| .cons (k := 6) rfl <| .cons (k := 8) rfl <| .cons (k := 9) rfl <| Sub.nil _)) ?_
      refine W_block ?_
      refine W_sub (.cons (k := 1) rfl <| .cons (k := 2) rfl <| .cons (k := 3) rfl <| .cons (k := 6) rfl <| .cons (k := 8) rfl <| .cons (k := 9) rfl <| Sub.nil _) ?_
      refine W_loop (fun r s => ∃ j, j ≤ N ∧ r = N - j ∧ s = ⟨[(1, boolsV D), (2, num m), (3, .pin (topoP T) 0), (6, .ptr 0 0), (8, .ptr 1 0), (9, num j)], [some (.cells 31 [num 0, .raw (.slice none 0 0), .raw (.slice none 0 0)]), some (.cells 31 [num m, .own 2, .own 3]), some (.row 40 3 j (entsP (toL T D m j))), some (.row 3 1 0 [])]⟩) N ⟨0, by omega, by omega, rfl⟩ ?_
      rintro r s ⟨j, hj, rfl, rfl⟩
      refine W_seq ?_
      refine W_cs (
        .val (y_move rfl rfl) rfl rfl rfl <|
        .val ((by first | exact y_fieldPin rfl fo_25_0 rfl | exact y_fieldPtr rfl fo_25_0 rfl)) rfl rfl rfl <|
        .val ((by first | exact y_loadPin rfl tk_3 rfl ((show some (num T.nodes) = some (num (N : Int)) by rw [hN])) | exact y_loadPtr rfl tk_3 rfl rfl ((show some (num T.nodes) = some (num (N : Int)) by rw [hN])))) rfl rfl rfl <|
        .val (y_lss rfl rfl rfl rfl) rfl rfl rfl <|
        .nil (.cons (k := 1) rfl <| .cons (k := 2) rfl <| .cons (k := 3) rfl <| .cons (k := 6) rfl <| .cons (k := 8) rfl <| .cons (k := 9) rfl <| .cons (k := 33) rfl <| Sub.nil _)) ?_
      refine W_cond rfl (fun hc => ?_) (fun hc => ?_)
      · have hlt : j < N := by have := of_decide_eq_true hc; omega
        have hne : nodeE T D (m : Int) (j : Int) = 0 := by
          have hnb : nodeB T (j : Int) = true := nodeB_iff.2 ⟨by omega, by omega⟩
          have hch' : chkE T D [(j : Int)] = 0 := by
            unfold chkE
            rw [if_pos hok, if_pos]
            simp [hnb]
          unfold nodeE
          rw [if_pos hch', if_pos (nodeB_iff.2 hn)]
        have hnx : Can Tryd.prog 34 [topoV T, boolsV D, num m, num j] (· = .tuple [intsV (nextL T D m j), num 0]) := by
          have h := rnext_can T D (m : Int) (j : Int)
          rw [hne] at h
          exact h
        refine W_skip ?_
        refine W_seq ?_
        refine W_block ?_
        refine W_cs (
          .val ((by first | exact y_loadPinAll rfl tk_25 rfl rfl | exact y_loadPtrAll rfl tk_25 rfl rfl rfl | exact y_loadPinAgg rfl tk_25 rfl rfl rfl | exact y_loadPtrAgg rfl tk_25 rfl rfl rfl rfl)) rfl rfl rfl <|
          .val (y_move rfl rfl) rfl rfl rfl <|
          .val (y_move rfl rfl) rfl rfl rfl <|
          .val (y_move rfl rfl) rfl rfl rfl <|
          .val (y_call rfl en_34 rfl rfl (hnx)) rfl rfl rfl <|
          .val (y_move rfl rfl) rfl rfl rfl <|
          .val (y_extract rfl rfl rfl) rfl rfl rfl <|
          .val (y_extract rfl rfl rfl) rfl rfl rfl <|
          .val (y_assign rfl rfl) rfl rfl rfl <|
          .val (y_assign rfl rfl) rfl rfl rfl <|
          .nil (.cons (k := 1) rfl <| .cons (k := 2) rfl <| .cons (k := 3) rfl <| .cons (k := 6) rfl <| .cons (k := 8) rfl <| .cons (k := 9) rfl <| .cons (k := 10) rfl <| Sub.nil _)) ?_
        refine W_region ?_
        refine WR_val ((by first | exact y_fieldPin rfl fo_31_1 rfl | exact y_fieldPtr rfl fo_31_1 rfl)) rfl rfl rfl ?_
        refine WR_val ((by first | exact y_loadPin rfl tk_28 rfl rfl | exact y_loadPtr rfl tk_28 rfl rfl rfl)) rfl rfl rfl ?_
        refine WR_val (y_move rfl rfl) rfl rfl rfl ?_
        refine WR_val (y_le (y_build (xs := [_, _, _]) rfl st_40 rfl rfl) (PLe.aggL (.cons (PLe.refl _) <| .cons (PLe.refl _) <| .cons PLe.nils .nil))) rfl rfl rfl ?_
        refine WR_val (y_buildSlice (xs := [_, _, _]) rfl sl_28 ⟨Nat.le_of_ble_eq_true rfl, Nat.le_of_ble_eq_true rfl⟩ rfl rfl) rfl rfl rfl ?_
        refine WR_loud (l_append rfl rk_28 rfl rfl rfl rfl (by unfold maxLen; omega)) rfl rfl rfl ?_
        refine WR_val ((by first | exact y_fieldPin rfl fo_31_1 rfl | exact y_fieldPtr rfl fo_31_1 rfl)) rfl rfl rfl ?_
        refine WR_loud0 ((by first | exact l_store1 rfl tk_28 rfl rfl rfl (Nat.le_of_ble_eq_true rfl) | exact l_storeInts rfl tk_28 rfl rfl rfl (by first | omega | (simp; omega)) | exact l_storeBools rfl tk_28 rfl rfl rfl (by first | omega | (simp; omega)))) rfl rfl ?_
        refine WR_ren [0, 1, 4, 3] (.cons 1 rfl (by first | exact Ren.pure | exact Ren.own (i := 0) rfl | exact Ren.ptr (i := 0) rfl | exact Ren.own (i := 1) rfl | exact Ren.ptr (i := 1) rfl | exact Ren.own (i := 2) rfl | exact Ren.ptr (i := 2) rfl | exact Ren.own (i := 3) rfl | exact Ren.ptr (i := 3) rfl) <| .cons 2 rfl (by first | exact Ren.pure | exact Ren.own (i := 0) rfl | exact Ren.ptr (i := 0) rfl | exact Ren.own (i := 1) rfl | exact Ren.ptr (i := 1) rfl | exact Ren.own (i := 2) rfl | exact Ren.ptr (i := 2) rfl | exact Ren.own (i := 3) rfl | exact Ren.ptr (i := 3) rfl) <| .cons 3 rfl (by first | exact Ren.pure | exact Ren.own (i := 0) rfl | exact Ren.ptr (i := 0) rfl | exact Ren.own (i := 1) rfl | exact Ren.ptr (i := 1) rfl | exact Ren.own (i := 2) rfl | exact Ren.ptr (i := 2) rfl | exact Ren.own (i := 3) rfl | exact Ren.ptr (i := 3) rfl) <| .cons 6 rfl (by first | exact Ren.pure | exact Ren.own (i := 0) rfl | exact Ren.ptr (i := 0) rfl | exact Ren.own (i := 1) rfl | exact Ren.ptr (i := 1) rfl | exact Ren.own (i := 2) rfl | exact Ren.ptr (i := 2) rfl | exact Ren.own (i := 3) rfl | exact Ren.ptr (i := 3) rfl) <| .cons 8 rfl (by first | exact Ren.pure | exact Ren.own (i := 0) rfl | exact Ren.ptr (i := 0) rfl | exact Ren.own (i := 1) rfl | exact Ren.ptr (i := 1) rfl | exact Ren.own (i := 2) rfl | exact Ren.ptr (i := 2) rfl | exact Ren.own (i := 3) rfl | exact Ren.ptr (i := 3) rfl) <| .cons 9 rfl (by first | exact Ren.pure | exact Ren.own (i := 0) rfl | exact Ren.ptr (i := 0) rfl | exact Ren.own (i := 1) rfl | exact Ren.ptr (i := 1) rfl | exact Ren.own (i := 2) rfl | exact Ren.ptr (i := 2) rfl | exact Ren.own (i := 3) rfl | exact Ren.ptr (i := 3) rfl) <| .nil) (.kept rfl (.cells (RenL.cons (by first | exact Ren.pure | exact Ren.own (i := 0) rfl | exact Ren.ptr (i := 0) rfl | exact Ren.own (i := 1) rfl | exact Ren.ptr (i := 1) rfl | exact Ren.own (i := 2) rfl | exact Ren.ptr (i := 2) rfl | exact Ren.own (i := 3) rfl | exact Ren.ptr (i := 3) rfl) <| RenL.cons (by first | exact Ren.pure | exact Ren.own (i := 0) rfl | exact Ren.ptr (i := 0) rfl | exact Ren.own (i := 1) rfl | exact Ren.ptr (i := 1) rfl | exact Ren.own (i := 2) rfl | exact Ren.ptr (i := 2) rfl | exact Ren.own (i := 3) rfl | exact Ren.ptr (i := 3) rfl) <| RenL.cons (by first | exact Ren.pure | exact Ren.own (i := 0) rfl | exact Ren.ptr (i := 0) rfl | exact Ren.own (i := 1) rfl | exact Ren.ptr (i := 1) rfl | exact Ren.own (i := 2) rfl | exact Ren.ptr (i := 2) rfl | exact Ren.own (i := 3) rfl | exact Ren.ptr (i := 3) rfl) <| RenL.nil)) <| .kept rfl (.cells (RenL.cons (by first | exact Ren.pure | exact Ren.own (i := 0) rfl | exact Ren.ptr (i := 0) rfl | exact Ren.own (i := 1) rfl | exact Ren.ptr (i := 1) rfl | exact Ren.own (i := 2) rfl | exact Ren.ptr (i := 2) rfl | exact Ren.own (i := 3) rfl | exact Ren.ptr (i := 3) rfl) <| RenL.cons (by first | exact Ren.pure | exact Ren.own (i := 0) rfl | exact Ren.ptr (i := 0) rfl | exact Ren.own (i := 1) rfl | exact Ren.ptr (i := 1) rfl | exact Ren.own (i := 2) rfl | exact Ren.ptr (i := 2) rfl | exact Ren.own (i := 3) rfl | exact Ren.ptr (i := 3) rfl) <| RenL.cons (by first | exact Ren.pure | exact Ren.own (i := 0) rfl | exact Ren.ptr (i := 0) rfl | exact Ren.own (i := 1) rfl | exact Ren.ptr (i := 1) rfl | exact Ren.own (i := 2) rfl | exact Ren.ptr (i := 2) rfl | exact Ren.own (i := 3) rfl | exact Ren.ptr (i := 3) rfl) <| RenL.nil)) <| .kept rfl (.rowP rfl (show _ = entsP (toL T D m (j + 1)) by rw [toL_step]; exact entsP_snoc _ ⟨nextL T D m j, false, []⟩)) <| .kept rfl (.row RenL.pure) <| .nil) rfl rfl (WR_nil ?_)
        refine W_chain (
          .val (y_move rfl rfl) rfl rfl rfl <|
          .val (y_add rfl rfl rfl rfl (by unfold In64; omega)) rfl rfl rfl <|
          .val (y_assign rfl rfl) rfl rfl rfl <|
          .nil (.cons (k := 1) rfl <| .cons (k := 2) rfl <| .cons (k := 3) rfl <| .cons (k := 6) rfl <| .cons (k := 8) rfl <| .cons (k := 9) rfl <| Sub.nil _)) ?_
        exact ⟨N - (j + 1), by omega, j + 1, by omega, rfl, rfl⟩
      · have hje : j = N := by have := of_decide_eq_false hc; omega
        subst hje
        refine W_exit ?_
        have hol : (outL T m).length ≤ 512 := Nat.le_trans (outTo_len T m _) (by omega)
        refine W_cs (
          .val ((by first | exact y_loadPinAll rfl tk_25 rfl rfl | exact y_loadPtrAll rfl tk_25 rfl rfl rfl | exact y_loadPinAgg rfl tk_25 rfl rfl rfl | exact y_loadPtrAgg rfl tk_25 rfl rfl rfl rfl)) rfl rfl rfl <|
          .val (y_move rfl rfl) rfl rfl rfl <|
          .val (y_call rfl en_35 rfl rfl (rout_can T hv _)) rfl rfl rfl <|
          .val (y_assign rfl rfl) rfl rfl rfl <|
          .nil (.cons (k := 1) rfl <| .cons (k := 6) rfl <| .cons (k := 8) rfl <| .cons (k := 12) rfl <| Sub.nil _)) ?_
        refine W_seq ?_
        refine W_cs (
          .val (y_assign rfl rfl) rfl rfl rfl <|
          .nil (.cons (k := 1) rfl <| .cons (k := 6) rfl <| .cons (k := 8) rfl <| .cons (k := 12) rfl <| .cons (k := 13) rfl <| Sub.nil _)) ?_
        refine W_block ?_
        refine W_sub (.cons (k := 1) rfl <| .cons (k := 6) rfl <| .cons (k := 8) rfl <| .cons (k := 12) rfl <| .cons (k := 13) rfl <| Sub.nil _) ?_
        refine W_loop (fun r s => ∃ i, i ≤ (outL T m).length ∧ r = (outL T m).length - i ∧ s = ⟨[(1, boolsV D), (6, .ptr 0 0), (8, .ptr 1 0), (12, intsV (outL T m)), (13, num i)], [some (.cells 31 [num 0, .raw (.slice none 0 0), .raw (.slice none 0 0)]), some (.cells 31 [num m, .own 2, .own 3]), some (.row 40 3 j (entsP (toL T D m j))), some (.row 3 1 (downL D ((outL T m).take i)).length (intsP (downL D ((outL T m).take i))))]⟩) (outL T m).length ⟨0, by omega, by omega, rfl⟩ ?_
        rintro r s ⟨i, hi, rfl, rfl⟩
        refine W_seq ?_
        refine W_cs (
          .val (y_move rfl rfl) rfl rfl rfl <|
          .val (y_move rfl rfl) rfl rfl rfl <|
          .val ((by first | exact y_lenSlice rfl el_29 rfl | exact y_lenOwn rfl el_29 rfl rfl | exact y_lenNil rfl el_29 rfl)) rfl rfl rfl <|
          .val (y_lss rfl rfl rfl rfl) rfl rfl rfl <|
          .nil (.cons (k := 1) rfl <| .cons (k := 6) rfl <| .cons (k := 8) rfl <| .cons (k := 12) rfl <| .cons (k := 13) rfl <| .cons (k := 57) rfl <| Sub.nil _)) ?_
        refine W_cond rfl (fun hc => ?_) (fun hc => ?_)
        · have hlt : i < (outL T m).length := by have := of_decide_eq_true hc; omega
          obtain ⟨h0, h1⟩ := outL_mem (getD_mem (d := 0) hlt)
          obtain ⟨a, ha⟩ := Int.eq_ofNat_of_zero_le h0
          have hDl : D.length = 0 ∨ a < D.length := by simp only [fitsB, decide_eq_true_eq] at hf; omega
          have hstep : downL D ((outL T m).take (i + 1)) = downL D ((outL T m).take i) ++ (if downN D a then [(a : Int)] else []) := by
            unfold downL
            rw [take_step _ i 0 hlt, List.filter_append, ha]
            simp only [List.filter_cons, List.filter_nil, Int.toNat_natCast]
          have hdl : (downL D ((outL T m).take i)).length ≤ 1000 := Nat.le_trans (List.length_filter_le _ _) (by rw [List.length_take]; omega)
          refine W_skip ?_
          refine W_seq ?_
          refine W_block ?_
          refine W_cs (
            .val (y_move rfl rfl) rfl rfl rfl <|
            .val (y_move rfl rfl) rfl rfl rfl <|
            .val (y_move rfl rfl) rfl rfl rfl <|
            .val ((by first | exact y_indexSlice (j := i) rfl el_29 rfl rfl (by omega) (by omega) (by omega) | exact y_indexOwn (j := i) rfl el_29 rfl rfl rfl (by omega) (by omega) (by omega))) rfl rfl rfl <|
            .val ((by first | exact y_loadPin rfl tk_3 rfl ((ints_get _ i hlt).trans (by rw [ha])) | exact y_loadPtr rfl tk_3 rfl rfl ((ints_get _ i hlt).trans (by rw [ha])))) rfl rfl rfl <|
            .val (y_call rfl en_23 rfl rfl (rup_can D a hDl)) rfl rfl rfl <|
            .val (y_not rfl rfl) rfl rfl rfl <|
            .nil (.cons (k := 1) rfl <| .cons (k := 6) rfl <| .cons (k := 8) rfl <| .cons (k := 12) rfl <| .cons (k := 13) rfl <| .cons (k := 66) rfl <| Sub.nil _)) ?_
          refine W_cond rfl (fun hcd => ?_) (fun hcd => ?_)
          · have hcd' : downN D a = true := by revert hcd; cases downN D a <;> simp
            rw [hcd', if_pos rfl] at hstep
            refine W_drawFlt 7 8 mixed (
              .val [8] rfl ((by first | exact y_fieldPin rfl fo_31_2 rfl | exact y_fieldPtr rfl fo_31_2 rfl)) rfl rfl <|
              .val [67] rfl ((by first | exact y_loadPin rfl tk_29 rfl rfl | exact y_loadPtr rfl tk_29 rfl rfl rfl)) rfl rfl <|
              .val [12] rfl (y_move rfl rfl) rfl rfl <|
              .val [13] rfl (y_move rfl rfl) rfl rfl <|
              .val [69, 70] rfl ((by first | exact y_indexSlice (j := i) rfl el_29 rfl rfl (by omega) (by omega) (by omega) | exact y_indexOwn (j := i) rfl el_29 rfl rfl rfl (by omega) (by omega) (by omega))) rfl rfl <|
              .val [71] rfl ((by first | exact y_loadPin rfl tk_3 rfl ((ints_get _ i hlt).trans (by rw [ha])) | exact y_loadPtr rfl tk_3 rfl rfl ((ints_get _ i hlt).trans (by rw [ha])))) rfl rfl <|
              .val [72] rfl (y_buildSlice (xs := [_]) rfl sl_29 ⟨Nat.le_of_ble_eq_true rfl, Nat.le_of_ble_eq_true rfl⟩ rfl rfl) rfl rfl <|
              .nil) (by kernel_rfl) rfl rfl (.cons (k := 1) rfl <| .cons (k := 6) rfl <| .cons (k := 8) rfl <| .cons (k := 12) rfl <| .cons (k := 13) rfl <| .cons (k := 68) rfl <| .cons (k := 73) rfl <| Sub.nil _) ?_
            refine WR_loud (l_append rfl rk_29 rfl rfl rfl rfl (by unfold maxLen; omega)) rfl rfl rfl ?_
            refine WR_val ((by first | exact y_fieldPin rfl fo_31_2 rfl | exact y_fieldPtr rfl fo_31_2 rfl)) rfl rfl rfl ?_
            refine WR_loud0 ((by first | exact l_store1 rfl tk_29 rfl rfl rfl (Nat.le_of_ble_eq_true rfl) | exact l_storeInts rfl tk_29 rfl rfl rfl (by first | omega | (simp; omega)) | exact l_storeBools rfl tk_29 rfl rfl rfl (by first | omega | (simp; omega)))) rfl rfl ?_
            refine WR_ren [0, 1, 2, 4] (.cons 1 rfl (by first | exact Ren.pure | exact Ren.own (i := 0) rfl | exact Ren.ptr (i := 0) rfl | exact Ren.own (i := 1) rfl | exact Ren.ptr (i := 1) rfl | exact Ren.own (i := 2) rfl | exact Ren.ptr (i := 2) rfl | exact Ren.own (i := 3) rfl | exact Ren.ptr (i := 3) rfl) <| .cons 6 rfl (by first | exact Ren.pure | exact Ren.own (i := 0) rfl | exact Ren.ptr (i := 0) rfl | exact Ren.own (i := 1) rfl | exact Ren.ptr (i := 1) rfl | exact Ren.own (i := 2) rfl | exact Ren.ptr (i := 2) rfl | exact Ren.own (i := 3) rfl | exact Ren.ptr (i := 3) rfl) <| .cons 8 rfl (by first | exact Ren.pure | exact Ren.own (i := 0) rfl | exact Ren.ptr (i := 0) rfl | exact Ren.own (i := 1) rfl | exact Ren.ptr (i := 1) rfl | exact Ren.own (i := 2) rfl | exact Ren.ptr (i := 2) rfl | exact Ren.own (i := 3) rfl | exact Ren.ptr (i := 3) rfl) <| .cons 12 rfl (by first | exact Ren.pure | exact Ren.own (i := 0) rfl | exact Ren.ptr (i := 0) rfl | exact Ren.own (i := 1) rfl | exact Ren.ptr (i := 1) rfl | exact Ren.own (i := 2) rfl | exact Ren.ptr (i := 2) rfl | exact Ren.own (i := 3) rfl | exact Ren.ptr (i := 3) rfl) <| .cons 13 rfl (by first | exact Ren.pure | exact Ren.own (i := 0) rfl | exact Ren.ptr (i := 0) rfl | exact Ren.own (i := 1) rfl | exact Ren.ptr (i := 1) rfl | exact Ren.own (i := 2) rfl | exact Ren.ptr (i := 2) rfl | exact Ren.own (i := 3) rfl | exact Ren.ptr (i := 3) rfl) <| .nil) (.kept rfl (.cells (RenL.cons (by first | exact Ren.pure | exact Ren.own (i := 0) rfl | exact Ren.ptr (i := 0) rfl | exact Ren.own (i := 1) rfl | exact Ren.ptr (i := 1) rfl | exact Ren.own (i := 2) rfl | exact Ren.ptr (i := 2) rfl | exact Ren.own (i := 3) rfl | exact Ren.ptr (i := 3) rfl) <| RenL.cons (by first | exact Ren.pure | exact Ren.own (i := 0) rfl | exact Ren.ptr (i := 0) rfl | exact Ren.own (i := 1) rfl | exact Ren.ptr (i := 1) rfl | exact Ren.own (i := 2) rfl | exact Ren.ptr (i := 2) rfl | exact Ren.own (i := 3) rfl | exact Ren.ptr (i := 3) rfl) <| RenL.cons (by first | exact Ren.pure | exact Ren.own (i := 0) rfl | exact Ren.ptr (i := 0) rfl | exact Ren.own (i := 1) rfl | exact Ren.ptr (i := 1) rfl | exact Ren.own (i := 2) rfl | exact Ren.ptr (i := 2) rfl | exact Ren.own (i := 3) rfl | exact Ren.ptr (i := 3) rfl) <| RenL.nil)) <| .kept rfl (.cells (RenL.cons (by first | exact Ren.pure | exact Ren.own (i := 0) rfl | exact Ren.ptr (i := 0) rfl | exact Ren.own (i := 1) rfl | exact Ren.ptr (i := 1) rfl | exact Ren.own (i := 2) rfl | exact Ren.ptr (i := 2) rfl | exact Ren.own (i := 3) rfl | exact Ren.ptr (i := 3) rfl) <| RenL.cons (by first | exact Ren.pure | exact Ren.own (i := 0) rfl | exact Ren.ptr (i := 0) rfl | exact Ren.own (i := 1) rfl | exact Ren.ptr (i := 1) rfl | exact Ren.own (i := 2) rfl | exact Ren.ptr (i := 2) rfl | exact Ren.own (i := 3) rfl | exact Ren.ptr (i := 3) rfl) <| RenL.cons (by first | exact Ren.pure | exact Ren.own (i := 0) rfl | exact Ren.ptr (i := 0) rfl | exact Ren.own (i := 1) rfl | exact Ren.ptr (i := 1) rfl | exact Ren.own (i := 2) rfl | exact Ren.ptr (i := 2) rfl | exact Ren.own (i := 3) rfl | exact Ren.ptr (i := 3) rfl) <| RenL.nil)) <| .kept rfl (.row RenL.pure) <| .kept rfl (.rowP rfl (intsP_snoc _ _)) <| .nil) rfl rfl (WR_nil ?_)
            refine W_chain (
              .val (y_move rfl rfl) rfl rfl rfl <|
              .val (y_add rfl rfl rfl rfl (by unfold In64; omega)) rfl rfl rfl <|
              .val (y_assign rfl rfl) rfl rfl rfl <|
              .nil (.cons (k := 1) rfl <| .cons (k := 6) rfl <| .cons (k := 8) rfl <| .cons (k := 12) rfl <| .cons (k := 13) rfl <| Sub.nil _)) ?_
            refine ⟨(outL T m).length - (i + 1), by omega, i + 1, by omega, rfl, ?_⟩
            rw [hstep]
            first
              | rfl
              | (simp only [List.length_append, List.length_singleton]; rfl)
          · have hcd' : downN D a = false := by revert hcd; cases downN D a <;> simp
            rw [hcd', if_neg (by simp), List.append_nil] at hstep
            refine W_skip ?_
            refine W_chain (
              .val (y_move rfl rfl) rfl rfl rfl <|
              .val (y_add rfl rfl rfl rfl (by unfold In64; omega)) rfl rfl rfl <|
              .val (y_assign rfl rfl) rfl rfl rfl <|
              .nil (.cons (k := 1) rfl <| .cons (k := 6) rfl <| .cons (k := 8) rfl <| .cons (k := 12) rfl <| .cons (k := 13) rfl <| Sub.nil _)) ?_
            refine ⟨(outL T m).length - (i + 1), by omega, i + 1, by omega, rfl, ?_⟩
            rw [hstep]
            first
              | rfl
              | (simp only [List.length_append, List.length_singleton]; rfl)
        · have hie : i = (outL T m).length := by have := of_decide_eq_false hc; omega
          subst hie
          refine W_exit ?_
          refine W_rs ?_
          refine WR_val (y_loadPtrAgg (ys := [num m, .own 2, .own 3]) rfl tk_31 rfl rfl rfl rfl) rfl rfl rfl ?_
          refine WR_loud0 (l_store rfl tk_31 rfl rfl rfl rfl rfl (Nat.le_of_ble_eq_true rfl)) rfl rfl ?_
          refine WR_val (y_assign rfl rfl) rfl rfl rfl ?_
          refine WR_sub (.cons (k := 6) rfl <| .cons (k := 7) rfl <| Sub.nil _) (WR_nil ?_)
          refine W_ret ?_
          refine ⟨_, _, .cons (.cellA rfl rfl tk_31 rfl rfl) <| .cons (.tmp rfl) <| .nil, Pur.tupleL (PurL.cons (Pur.aggL (PurL.cons Pur.pure <| PurL.cons (Pur.ownL rfl PurL.pure) <| PurL.cons (Pur.ownL rfl PurL.pure) PurL.nil)) (PurL.cons Pur.pure PurL.nil)), ?_⟩
          unfold routesE
          rw [hch, if_pos rfl, List.take_length]
          unfold routesT tabV tabP entsV intsV
          rw [toL_len, show T.nodes.toNat = j by omega]
          rfl
end PW
end Go.Proofs.YtkaalpdfppbdeaaDoor
