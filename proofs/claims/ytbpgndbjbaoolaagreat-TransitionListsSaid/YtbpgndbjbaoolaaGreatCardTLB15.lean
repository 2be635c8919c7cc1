/- Texts of the proof, part 15. -/
import Derived.Test.YtbpgndbjbaoolaaGreatCardTLB14
/- Package table: Routes. -/
namespace Go.Proofs.YtbpgndbjbaoolaaGreat
set_option linter.unusedVariables false
set_option linter.unusedSimpArgs false
namespace PW
open Go.RowKit Reg Mem Net

set_option maxRecDepth 10000 in
set_option maxHeartbeats 1000000 in
theorem routes_can (T : Topo) (D : List Bool) (n : Int) : Can Tryz.prog 51 [topoV T, boolsV D, num n] (· = .tuple [tabV (routesE T D n), num (chkE T D [n])]) := by
  refine can_of Tryz.func51 rfl Tryz.ntmps51 rfl ?_
  refine W_rs ?_
  refine WR_a 3 rfl <| WR_k [1, 2, 3, 6] rfl ?_
  refine W_seq ?_
  obtain ⟨q1, hq1⟩ : ∃ q, validB T = q := ⟨_, rfl⟩
  obtain ⟨q2, hq2⟩ : ∃ q, fitsB T D = q := ⟨_, rfl⟩
  refine W_csK 22 (.raw (.bool ((!q1) || (!q2)))) [1, 2, 3, 6] rfl ?_ ?_
  · refine .a 1 rfl <| .c rfl (hq1 ▸ valid_can T) rfl <| .a 2 rfl <| ?_
    cases q1
    · exact .a 5 rfl <| .k [22, 1, 2, 3, 6] rfl
    · exact .a 2 rfl <| .c rfl (hq2 ▸ fits_can T D (by have := links_le hq1; omega)) rfl <| .a 2 rfl <| .k [22, 1, 2, 3, 6] rfl
  refine W_cond rfl (fun hc => ?_) (fun hc => ?_)
  · have hch : chkE T D [n] = 1 := by
      unfold chkE
      rw [hq1, hq2, if_neg]
      revert hc
      cases q1 <;> cases q2 <;> simp
    refine W_rs ?_
    refine WR_a 3 rfl <| WR_k [6, 7] rfl ?_
    refine W_ret ?_
    exact ⟨_, _, ResL.of rfl, Pur.tupleL (PurL.cons (Pur.aggL (PurL.cons Pur.pure <| PurL.cons Pur.nils <| PurL.cons Pur.nils PurL.nil)) (PurL.cons Pur.pure PurL.nil)), by unfold routesE; rw [hch]; rfl⟩
  · have hok : (validB T && fitsB T D) = true := by
      rw [hq1, hq2]
      revert hc
      cases q1 <;> cases q2 <;> simp
    clear hc hq1 hq2
    refine W_skip ?_
    refine W_seq ?_
    refine W_cs (.a 2 rfl <| .c rfl (node_can T n) rfl <| .a 1 rfl <| .k [1, 2, 3, 6, 27] rfl) ?_
    refine W_cond rfl (fun hc => ?_) (fun hc => ?_)
    · have hn : nodeB T n = false := by revert hc; cases nodeB T n <;> simp
      have hch : chkE T D [n] = 2 := by
        unfold chkE
        rw [if_pos hok, if_neg]
        simp [hn]
      refine W_rs ?_
      refine WR_a 3 rfl <| WR_k [6, 7] rfl ?_
      refine W_ret ?_
      exact ⟨_, _, ResL.of rfl, Pur.tupleL (PurL.cons (Pur.aggL (PurL.cons Pur.pure <| PurL.cons Pur.nils <| PurL.cons Pur.nils PurL.nil)) (PurL.cons Pur.pure PurL.nil)), by unfold routesE; rw [hch]; rfl⟩
    · have hn : nodeB T n = true := by revert hc; cases nodeB T n <;> simp
      have hch : chkE T D [n] = 0 := by
        unfold chkE
        rw [if_pos hok, if_pos]
        simp [hn]
      obtain ⟨hv, hf⟩ := Bool.and_eq_true_iff.1 hok
      rw [nodeB_iff] at hn
      obtain ⟨m, rfl⟩ := Int.eq_ofNat_of_zero_le hn.1
      obtain ⟨N, hN⟩ : ∃ N : Nat, T.nodes = (N : Int) := ⟨T.nodes.toNat, by omega⟩
      have hN64 : N ≤ 64 := by have := (sound_of hv).nodes; omega
      have hll := links_le hv
      refine W_skip ?_
      refine W_rs ?_
      refine WR_a 4 rfl <| WR_k [1, 2, 3, 6, 8] rfl ?_
      refine W_adoptCell 1 1 47 3 rfl rfl ?_
      refine W_adoptCell 1 2 3 1 rfl rfl ?_
      refine W_seq ?_
      refine W_cs (.a 1 rfl <| .v (y_ld rfl ((show some (num T.nodes) = some (num (N : Int)) by rw [hN]))) rfl <| .a 1 rfl <| .k [1, 2, 3, 6, 8, 32, 33] rfl) ?_
      refine W_block ?_
      refine W_k [1, 2, 3, 6, 8, 32, 33] rfl ?_
      refine W_loop (fun r s => ∃ j, j ≤ N ∧ r = N - j ∧ s = ⟨[(1, boolsV D), (2, num m), (3, .pin (topoP T) 0), (6, .ptr 0 0), (8, .ptr 1 0), (32, num N), (33, num j)], [some (.cells 35 [num 0, .raw (.slice none 0 0), .raw (.slice none 0 0)]), some (.cells 35 [num m, .own 2, .own 3]), some (.row 47 3 j (entsP (toL T D m j))), some (.row 3 1 0 [])]⟩) N ⟨0, by omega, by omega, rfl⟩ ?_
      rintro r s ⟨j, hj, rfl, rfl⟩
      refine W_cs (.a 1 rfl <| .k [1, 2, 3, 6, 8, 32, 33, 34] rfl) ?_
      refine W_seq ?_
      refine W_cond rfl (fun hc => ?_) (fun hc => ?_)
      · have hlt : j < N := by have := of_decide_eq_true hc; omega
        have hne : nodeE T D (m : Int) (j : Int) = 0 := by
          have hnb : nodeB T (j : Int) = true := nodeB_iff.2 ⟨by omega, by omega⟩
          have hch' : chkE T D [(j : Int)] = 0 := by
            unfold chkE
            rw [if_pos hok, if_pos]
            simp [hnb]
          unfold nodeE
          rw [if_pos hch', if_pos (nodeB_iff.2 hn)]
        have hnx : Can Tryz.prog 102 [topoV T, boolsV D, num m, num j] (· = .tuple [intsV (nextL T D m j), num 0]) := by
          have h := next_can T D (m : Int) (j : Int)
          rw [hne] at h
          exact h
        refine W_skip ?_
        refine W_seq ?_
        refine W_block ?_
        refine W_cs (.a 2 rfl <| .k [1, 2, 3, 6, 8, 9, 32, 33] rfl) ?_
        refine W_cs (.a 4 rfl <| .c rfl (hnx) rfl <| .a 5 rfl <| .k [1, 2, 3, 6, 8, 10, 32, 33] rfl) ?_
        refine W_region ?_
        refine WR_a 3 rfl <| WR_v (y_le (y_build (xs := [_, _, _]) rfl (fok.st.get rfl) rfl rfl) (PLe.aggL (.cons (PLe.refl _) <| .cons (PLe.refl _) <| .cons PLe.nils .nil))) rfl <| WR_a 1 rfl <| WR_l (l_append rfl (fok.rk.get rfl) rfl rfl rfl rfl (by unfold maxLen; omega)) rfl <| WR_a 2 rfl ?_
        refine WR_ren [0, 1, 4, 3] (.c 1 <| .c 2 <| .c 3 <| .c 6 <| .c 8 <| .c 32 <| .c 33 <| .nil) (.kept rfl (.cells (RenL.c <| RenL.c <| RenL.c <| RenL.nil)) <| .kept rfl (.cells (RenL.c <| RenL.c <| RenL.c <| RenL.nil)) <| .kept rfl (.rowP rfl (show _ = entsP (toL T D m (j + 1)) by rw [toL_step]; exact entsP_snoc _ ⟨nextL T D m j, false, []⟩)) <| .kept rfl (.row RenL.pure) <| .nil) rfl rfl (WR_nil ?_)
        refine W_chain (.v (y_ar rfl) rfl <| .a 1 rfl <| .k [1, 2, 3, 6, 8, 32, 33] rfl) ?_
        exact ⟨N - (j + 1), by omega, j + 1, by omega, rfl, rfl⟩
      · have hje : j = N := by have := of_decide_eq_false hc; omega
        subst hje
        refine W_exit ?_
        refine W_seq ?_
        have hol : (outL T m).length ≤ 512 := Nat.le_trans (outTo_len T m _) (by omega)
        refine W_cs (.a 2 rfl <| .c rfl (out_can T hll _) rfl <| .a 2 rfl <| .k [1, 6, 8, 54, 55, 56] rfl) ?_
        refine W_block ?_
        refine W_k [1, 6, 8, 54, 55, 56] rfl ?_
        refine W_loop (fun r s => ∃ i, i ≤ (outL T m).length ∧ r = (outL T m).length - i ∧ s = ⟨[(1, boolsV D), (6, .ptr 0 0), (8, .ptr 1 0), (54, intsV (outL T m)), (55, num (outL T m).length), (56, num i)], [some (.cells 35 [num 0, .raw (.slice none 0 0), .raw (.slice none 0 0)]), some (.cells 35 [num m, .own 2, .own 3]), some (.row 47 3 j (entsP (toL T D m j))), some (.row 3 1 (downL D ((outL T m).take i)).length (intsP (downL D ((outL T m).take i))))]⟩) (outL T m).length ⟨0, by omega, by omega, rfl⟩ ?_
        rintro r s ⟨i, hi, rfl, rfl⟩
        refine W_cs (.a 1 rfl <| .k [1, 6, 8, 54, 55, 56, 57] rfl) ?_
        refine W_seq ?_
        refine W_cond rfl (fun hc => ?_) (fun hc => ?_)
        · have hlt : i < (outL T m).length := by have := of_decide_eq_true hc; omega
          obtain ⟨h0, h1⟩ := outL_mem (getD_mem (d := 0) hlt)
          obtain ⟨a, ha⟩ := Int.eq_ofNat_of_zero_le h0
          have hDl : D.length = 0 ∨ a < D.length := by simp only [fitsB, decide_eq_true_eq] at hf; omega
          have hstep : downL D ((outL T m).take (i + 1)) = downL D ((outL T m).take i) ++ (if downN D a then [(a : Int)] else []) := by
            unfold downL
            rw [take_step _ i 0 hlt, List.filter_append, ha]
            simp only [List.filter_cons, List.filter_nil, Int.toNat_natCast]
          have hdl : (downL D ((outL T m).take i)).length ≤ 1000 := Nat.le_trans (List.length_filter_le _ _) (by rw [List.length_take]; have := outTo_len T m (2 * T.links.length); unfold outL at *; omega)
          refine W_skip ?_
          refine W_seq ?_
          refine W_block ?_
          refine W_cs (.v (y_ix (i) rfl) rfl <| .v (y_ld rfl ((ints_get _ i hlt).trans (by rw [ha]))) rfl <| .a 1 rfl <| .k [1, 6, 8, 13, 54, 55, 56] rfl) ?_
          refine W_cs (.a 2 rfl <| .c rfl (down_can D a hDl) rfl <| .k [1, 6, 8, 13, 54, 55, 56, 62] rfl) ?_
          refine W_cond rfl (fun hcd => ?_) (fun hcd => ?_)
          · rw [hcd, if_pos rfl] at hstep
            refine W_region ?_
            refine WR_a 4 rfl <| WR_l (l_append rfl (fok.rk.get rfl) rfl rfl rfl rfl (by unfold maxLen; omega)) rfl <| WR_a 2 rfl ?_
            refine WR_ren [0, 1, 2, 4] (.c 1 <| .c 6 <| .c 8 <| .c 54 <| .c 55 <| .c 56 <| .nil) (.kept rfl (.cells (RenL.c <| RenL.c <| RenL.c <| RenL.nil)) <| .kept rfl (.cells (RenL.c <| RenL.c <| RenL.c <| RenL.nil)) <| .kept rfl (.row RenL.pure) <| .kept rfl (.rowP rfl (intsP_snoc _ _)) <| .nil) rfl rfl (WR_nil ?_)
            refine W_chain (.v (y_ar rfl) rfl <| .a 1 rfl <| .k [1, 6, 8, 54, 55, 56] rfl) ?_
            refine ⟨(outL T m).length - (i + 1), by omega, i + 1, by omega, rfl, ?_⟩
            rw [hstep]
            first
              | rfl
              | (simp only [List.length_append, List.length_singleton]; rfl)
          · rw [hcd, if_neg (by simp), List.append_nil] at hstep
            refine W_skip ?_
            refine W_chain (.v (y_ar rfl) rfl <| .a 1 rfl <| .k [1, 6, 8, 54, 55, 56] rfl) ?_
            refine ⟨(outL T m).length - (i + 1), by omega, i + 1, by omega, rfl, ?_⟩
            rw [hstep]
            first
              | rfl
              | (simp only [List.length_append, List.length_singleton]; rfl)
        · have hie : i = (outL T m).length := by have := of_decide_eq_false hc; omega
          subst hie
          refine W_exit ?_
          refine W_rs ?_
          refine WR_v (y_loadPtrAgg (ys := [num m, .own 2, .own 3]) rfl (fok.tk.get rfl) rfl rfl rfl rfl) rfl <| WR_a 2 rfl <| WR_k [6, 7] rfl ?_
          refine W_ret ?_
          refine ⟨_, _, ResL.of rfl, Pur.tupleL (PurL.cons (Pur.aggL (PurL.cons Pur.pure <| PurL.cons (Pur.ownL rfl PurL.pure) <| PurL.cons (Pur.ownL rfl PurL.pure) PurL.nil)) (PurL.cons Pur.pure PurL.nil)), ?_⟩
          unfold routesE
          rw [hch, if_pos rfl, List.take_length]
          unfold routesT tabV tabP entsV intsV
          rw [toL_len, show T.nodes.toNat = j by omega]
          rfl
end PW
end Go.Proofs.YtbpgndbjbaoolaaGreat

/- Package transition and the reference of layer 30: Old, Table, Final. -/
namespace Go.Proofs.YtbpgndbjbaoolaaGreat
set_option linter.unusedVariables false
set_option linter.unusedSimpArgs false
namespace PW
open Go.RowKit Reg Mem Net Rng

set_option maxRecDepth 10000 in
set_option maxHeartbeats 1000000 in
theorem routesS_can (T : Topo) (D : List Bool) (n : Int) (hch0 : chkE T D [n] = 0) : CanS Tryz.prog 51 [topoV T, boolsV D, num n] [] (fun r σ' => r = .tuple [.agg [num n, .own 2, .own 3], num 0] ∧ σ' = [some (.cells 35 [num n, .own 2, .own 3]), some (.cells 35 [num n, .own 2, .own 3]), some (.row 47 3 T.nodes.toNat (entsP (toL T D n.toNat T.nodes.toNat))), some (.row 3 1 (downL D (outL T n)).length (intsP (downL D (outL T n))))]) := by
  refine canS_of Tryz.func51 rfl Tryz.ntmps51 rfl ?_
  refine W_rs ?_
  refine WR_a 3 rfl <| WR_k [1, 2, 3, 6] rfl ?_
  refine W_seq ?_
  obtain ⟨q1, hq1⟩ : ∃ q, validB T = q := ⟨_, rfl⟩
  obtain ⟨q2, hq2⟩ : ∃ q, fitsB T D = q := ⟨_, rfl⟩
  refine W_csK 22 (.raw (.bool ((!q1) || (!q2)))) [1, 2, 3, 6] rfl ?_ ?_
  · refine .a 1 rfl <| .c rfl (hq1 ▸ valid_can T) rfl <| .a 2 rfl <| ?_
    cases q1
    · exact .a 5 rfl <| .k [22, 1, 2, 3, 6] rfl
    · exact .a 2 rfl <| .c rfl (hq2 ▸ fits_can T D (by have := links_le hq1; omega)) rfl <| .a 2 rfl <| .k [22, 1, 2, 3, 6] rfl
  refine W_cond rfl (fun hc => ?_) (fun hc => ?_)
  · have hch : chkE T D [n] = 1 := by
      unfold chkE
      rw [hq1, hq2, if_neg]
      revert hc
      cases q1 <;> cases q2 <;> simp
    exact absurd hch0 (by rw [hch]; decide)
  · have hok : (validB T && fitsB T D) = true := by
      rw [hq1, hq2]
      revert hc
      cases q1 <;> cases q2 <;> simp
    clear hc hq1 hq2
    refine W_skip ?_
    refine W_seq ?_
    refine W_cs (.a 2 rfl <| .c rfl (node_can T n) rfl <| .a 1 rfl <| .k [1, 2, 3, 6, 27] rfl) ?_
    refine W_cond rfl (fun hc => ?_) (fun hc => ?_)
    · have hn : nodeB T n = false := by revert hc; cases nodeB T n <;> simp
      have hch : chkE T D [n] = 2 := by
        unfold chkE
        rw [if_pos hok, if_neg]
        simp [hn]
      exact absurd hch0 (by rw [hch]; decide)
    · have hn : nodeB T n = true := by revert hc; cases nodeB T n <;> simp
      have hch : chkE T D [n] = 0 := by
        unfold chkE
        rw [if_pos hok, if_pos]
        simp [hn]
      obtain ⟨hv, hf⟩ := Bool.and_eq_true_iff.1 hok
      rw [nodeB_iff] at hn
      obtain ⟨m, rfl⟩ := Int.eq_ofNat_of_zero_le hn.1
      obtain ⟨N, hN⟩ : ∃ N : Nat, T.nodes = (N : Int) := ⟨T.nodes.toNat, by omega⟩
      have hN64 : N ≤ 64 := by have := (sound_of hv).nodes; omega
      have hll := links_le hv
      refine W_skip ?_
      refine W_rs ?_
      refine WR_a 4 rfl <| WR_k [1, 2, 3, 6, 8] rfl ?_
      refine W_adoptCell 1 1 47 3 rfl rfl ?_
      refine W_adoptCell 1 2 3 1 rfl rfl ?_
      refine W_seq ?_
      refine W_cs (.a 1 rfl <| .v (y_ld rfl ((show some (num T.nodes) = some (num (N : Int)) by rw [hN]))) rfl <| .a 1 rfl <| .k [1, 2, 3, 6, 8, 32, 33] rfl) ?_
      refine W_block ?_
      refine W_k [1, 2, 3, 6, 8, 32, 33] rfl ?_
      refine W_loop (fun r s => ∃ j, j ≤ N ∧ r = N - j ∧ s = ⟨[(1, boolsV D), (2, num m), (3, .pin (topoP T) 0), (6, .ptr 0 0), (8, .ptr 1 0), (32, num N), (33, num j)], [some (.cells 35 [num 0, .raw (.slice none 0 0), .raw (.slice none 0 0)]), some (.cells 35 [num m, .own 2, .own 3]), some (.row 47 3 j (entsP (toL T D m j))), some (.row 3 1 0 [])]⟩) N ⟨0, by omega, by omega, rfl⟩ ?_
      rintro r s ⟨j, hj, rfl, rfl⟩
      refine W_cs (.a 1 rfl <| .k [1, 2, 3, 6, 8, 32, 33, 34] rfl) ?_
      refine W_seq ?_
      refine W_cond rfl (fun hc => ?_) (fun hc => ?_)
      · have hlt : j < N := by have := of_decide_eq_true hc; omega
        have hne : nodeE T D (m : Int) (j : Int) = 0 := by
          have hnb : nodeB T (j : Int) = true := nodeB_iff.2 ⟨by omega, by omega⟩
          have hch' : chkE T D [(j : Int)] = 0 := by
            unfold chkE
            rw [if_pos hok, if_pos]
            simp [hnb]
          unfold nodeE
          rw [if_pos hch', if_pos (nodeB_iff.2 hn)]
        have hnx : Can Tryz.prog 102 [topoV T, boolsV D, num m, num j] (· = .tuple [intsV (nextL T D m j), num 0]) := by
          have h := next_can T D (m : Int) (j : Int)
          rw [hne] at h
          exact h
        refine W_skip ?_
        refine W_seq ?_
        refine W_block ?_
        refine W_cs (.a 2 rfl <| .k [1, 2, 3, 6, 8, 9, 32, 33] rfl) ?_
        refine W_cs (.a 4 rfl <| .c rfl (hnx) rfl <| .a 5 rfl <| .k [1, 2, 3, 6, 8, 10, 32, 33] rfl) ?_
        refine W_region ?_
        refine WR_a 3 rfl <| WR_v (y_le (y_build (xs := [_, _, _]) rfl (fok.st.get rfl) rfl rfl) (PLe.aggL (.cons (PLe.refl _) <| .cons (PLe.refl _) <| .cons PLe.nils .nil))) rfl <| WR_a 1 rfl <| WR_l (l_append rfl (fok.rk.get rfl) rfl rfl rfl rfl (by unfold maxLen; omega)) rfl <| WR_a 2 rfl ?_
        refine WR_ren [0, 1, 4, 3] (.c 1 <| .c 2 <| .c 3 <| .c 6 <| .c 8 <| .c 32 <| .c 33 <| .nil) (.kept rfl (.cells (RenL.c <| RenL.c <| RenL.c <| RenL.nil)) <| .kept rfl (.cells (RenL.c <| RenL.c <| RenL.c <| RenL.nil)) <| .kept rfl (.rowP rfl (show _ = entsP (toL T D m (j + 1)) by rw [toL_step]; exact entsP_snoc _ ⟨nextL T D m j, false, []⟩)) <| .kept rfl (.row RenL.pure) <| .nil) rfl rfl (WR_nil ?_)
        refine W_chain (.v (y_ar rfl) rfl <| .a 1 rfl <| .k [1, 2, 3, 6, 8, 32, 33] rfl) ?_
        exact ⟨N - (j + 1), by omega, j + 1, by omega, rfl, rfl⟩
      · have hje : j = N := by have := of_decide_eq_false hc; omega
        subst hje
        refine W_exit ?_
        refine W_seq ?_
        have hol : (outL T m).length ≤ 512 := Nat.le_trans (outTo_len T m _) (by omega)
        refine W_cs (.a 2 rfl <| .c rfl (out_can T hll _) rfl <| .a 2 rfl <| .k [1, 6, 8, 54, 55, 56] rfl) ?_
        refine W_block ?_
        refine W_k [1, 6, 8, 54, 55, 56] rfl ?_
        refine W_loop (fun r s => ∃ i, i ≤ (outL T m).length ∧ r = (outL T m).length - i ∧ s = ⟨[(1, boolsV D), (6, .ptr 0 0), (8, .ptr 1 0), (54, intsV (outL T m)), (55, num (outL T m).length), (56, num i)], [some (.cells 35 [num 0, .raw (.slice none 0 0), .raw (.slice none 0 0)]), some (.cells 35 [num m, .own 2, .own 3]), some (.row 47 3 j (entsP (toL T D m j))), some (.row 3 1 (downL D ((outL T m).take i)).length (intsP (downL D ((outL T m).take i))))]⟩) (outL T m).length ⟨0, by omega, by omega, rfl⟩ ?_
        rintro r s ⟨i, hi, rfl, rfl⟩
        refine W_cs (.a 1 rfl <| .k [1, 6, 8, 54, 55, 56, 57] rfl) ?_
        refine W_seq ?_
        refine W_cond rfl (fun hc => ?_) (fun hc => ?_)
        · have hlt : i < (outL T m).length := by have := of_decide_eq_true hc; omega
          obtain ⟨h0, h1⟩ := outL_mem (getD_mem (d := 0) hlt)
          obtain ⟨a, ha⟩ := Int.eq_ofNat_of_zero_le h0
          have hDl : D.length = 0 ∨ a < D.length := by simp only [fitsB, decide_eq_true_eq] at hf; omega
          have hstep : downL D ((outL T m).take (i + 1)) = downL D ((outL T m).take i) ++ (if downN D a then [(a : Int)] else []) := by
            unfold downL
            rw [take_step _ i 0 hlt, List.filter_append, ha]
            simp only [List.filter_cons, List.filter_nil, Int.toNat_natCast]
          have hdl : (downL D ((outL T m).take i)).length ≤ 1000 := Nat.le_trans (List.length_filter_le _ _) (by rw [List.length_take]; have := outTo_len T m (2 * T.links.length); unfold outL at *; omega)
          refine W_skip ?_
          refine W_seq ?_
          refine W_block ?_
          refine W_cs (.v (y_ix (i) rfl) rfl <| .v (y_ld rfl ((ints_get _ i hlt).trans (by rw [ha]))) rfl <| .a 1 rfl <| .k [1, 6, 8, 13, 54, 55, 56] rfl) ?_
          refine W_cs (.a 2 rfl <| .c rfl (down_can D a hDl) rfl <| .k [1, 6, 8, 13, 54, 55, 56, 62] rfl) ?_
          refine W_cond rfl (fun hcd => ?_) (fun hcd => ?_)
          · rw [hcd, if_pos rfl] at hstep
            refine W_region ?_
            refine WR_a 4 rfl <| WR_l (l_append rfl (fok.rk.get rfl) rfl rfl rfl rfl (by unfold maxLen; omega)) rfl <| WR_a 2 rfl ?_
            refine WR_ren [0, 1, 2, 4] (.c 1 <| .c 6 <| .c 8 <| .c 54 <| .c 55 <| .c 56 <| .nil) (.kept rfl (.cells (RenL.c <| RenL.c <| RenL.c <| RenL.nil)) <| .kept rfl (.cells (RenL.c <| RenL.c <| RenL.c <| RenL.nil)) <| .kept rfl (.row RenL.pure) <| .kept rfl (.rowP rfl (intsP_snoc _ _)) <| .nil) rfl rfl (WR_nil ?_)
            refine W_chain (.v (y_ar rfl) rfl <| .a 1 rfl <| .k [1, 6, 8, 54, 55, 56] rfl) ?_
            refine ⟨(outL T m).length - (i + 1), by omega, i + 1, by omega, rfl, ?_⟩
            rw [hstep]
            first
              | rfl
              | (simp only [List.length_append, List.length_singleton]; rfl)
          · rw [hcd, if_neg (by simp), List.append_nil] at hstep
            refine W_skip ?_
            refine W_chain (.v (y_ar rfl) rfl <| .a 1 rfl <| .k [1, 6, 8, 54, 55, 56] rfl) ?_
            refine ⟨(outL T m).length - (i + 1), by omega, i + 1, by omega, rfl, ?_⟩
            rw [hstep]
            first
              | rfl
              | (simp only [List.length_append, List.length_singleton]; rfl)
        · have hie : i = (outL T m).length := by have := of_decide_eq_false hc; omega
          subst hie
          refine W_exit ?_
          refine W_rs ?_
          refine WR_v (y_loadPtrAgg (ys := [num m, .own 2, .own 3]) rfl (fok.tk.get rfl) rfl rfl rfl rfl) rfl <| WR_a 2 rfl <| WR_k [6, 7] rfl ?_
          refine W_ret ?_
          refine ⟨_, ResL.of rfl, rfl, ?_⟩
          have hjN : T.nodes.toNat = j := by omega
          rw [List.take_length, Int.toNat_natCast, hjN]
          rfl

/-- A table, or an error. -/
def tabE (e : Int) (x : Tab) : PV := .tuple [tabV (if e = 0 then x else ⟨0, [], []⟩), num e]
theorem entE_zero {T : Topo} {D : List Bool} {n d : Int} (hv : validB T = true) (hf : fitsB T D = true) (hn : nodeB T n = true) (hd : nodeB T d = true) : nodeE T D n d = 0 := by
  unfold nodeE chkE
  rw [hv, hf, hn]
  simp [hd]
/-- The reference's list of outgoing arcs that are down. -/
def dwnTo (M : List Bool) (T : Topo) (n : Int) (k : Nat) : List Int := ((List.range k).filter fun a => downN M a && decide (tailN T a = n)).map Int.ofNat
def ownTo (T : Topo) (M : List Bool) (n : Int) (k : Nat) : List Bool := (List.range (2 * T.links.length)).map fun a => decide (a < k) && (downN M a && decide (tailN T a = n))
theorem dwn_all (M : List Bool) (T : Topo) (n : Int) : dwnTo M T n (2 * T.links.length) = downL M (outL T n) := by
  unfold dwnTo downL outL outTo
  rw [List.filter_map, List.filter_filter]
  congr 1
theorem dwn_len (M : List Bool) (T : Topo) (n : Int) (k : Nat) : (dwnTo M T n k).length ≤ k := by
  unfold dwnTo
  rw [List.length_map]
  exact Nat.le_trans (List.length_filter_le _ _) (by simp)
theorem dwn_yes {M : List Bool} {T : Topo} {n : Int} {k : Nat} (h : (downN M k && decide (tailN T k = n)) = true) : dwnTo M T n (k + 1) = dwnTo M T n k ++ [(k : Int)] := by
  simp only [dwnTo, List.range_succ, List.filter_append, List.map_append]
  rw [List.filter_cons_of_pos (by simpa using h)]
  rfl
theorem dwn_no {M : List Bool} {T : Topo} {n : Int} {k : Nat} (h : (downN M k && decide (tailN T k = n)) = false) : dwnTo M T n (k + 1) = dwnTo M T n k := by
  simp only [dwnTo, List.range_succ, List.filter_append, List.map_append]
  rw [List.filter_cons_of_neg (by simpa using h)]
  simp
theorem ownTo_len (T : Topo) (M : List Bool) (n : Int) (k : Nat) : (ownTo T M n k).length = 2 * T.links.length := by simp [ownTo]
theorem ownTo_zero (T : Topo) (M : List Bool) (n : Int) : ownTo T M n 0 = List.replicate (2 * T.links.length) false := by
  unfold ownTo
  apply List.ext_getElem (by simp)
  intro i h1 h2
  simp
theorem ownTo_yes {T : Topo} {M : List Bool} {n : Int} {k : Nat} (h : (downN M k && decide (tailN T k = n)) = true) : (ownTo T M n k).set k true = ownTo T M n (k + 1) := by
  apply List.ext_getElem (by simp [ownTo])
  intro i h1 h2
  rw [List.getElem_set]
  by_cases e : k = i
  · subst e
    simp only [ownTo, List.getElem_map, List.getElem_range, if_true]
    rw [h, decide_eq_true (by omega)]; rfl
  · rw [if_neg e]
    simp only [ownTo, List.getElem_map, List.getElem_range]
    rw [show decide (i < k + 1) = decide (i < k) from decide_eq_decide.2 (by omega)]
theorem ownTo_no {T : Topo} {M : List Bool} {n : Int} {k : Nat} (h : (downN M k && decide (tailN T k = n)) = false) : ownTo T M n (k + 1) = ownTo T M n k := by
  unfold ownTo
  refine List.map_congr_left fun a _ => ?_
  by_cases e : a = k
  · subst e; rw [h]; simp
  · rw [show decide (a < k + 1) = decide (a < k) from decide_eq_decide.2 (by omega)]
theorem ownTo_all (T : Topo) (M : List Bool) (n : Int) : ownTo T M n (2 * T.links.length) = ownM T M n := by
  unfold ownTo ownM
  refine List.map_congr_left fun a ha => ?_
  rw [decide_eq_true (List.mem_range.1 ha), Bool.true_and]
theorem downN_get {M : List Bool} {a : Nat} : M.getD a false = downN M a := by
  unfold downN
  by_cases h : M.length = 0
  · have : M = [] := List.eq_nil_of_length_eq_zero h
    subst this; simp
  · first
      | rfl
      | simp [h]
set_option maxRecDepth 10000 in
set_option maxHeartbeats 1000000 in
theorem rdown_can (T : Topo) (k x n : Int) (hm : (validB T && compB T k x) = true) : Can Tryz.prog 55 [topoV T, compV k x, num n] (· = .tuple [intsV (downL (maskL T k x) (outL T n)), boolsV (ownM T (maskL T k x) n)]) := by
  obtain ⟨hv, hc⟩ := Bool.and_eq_true_iff.1 hm
  have hll := links_le hv
  have hmk := rmask_can T k x
  unfold boolsE maskE at hmk
  rw [if_pos hm, if_pos rfl] at hmk
  obtain ⟨M, hM⟩ : ∃ M, maskL T k x = M := ⟨_, rfl⟩
  have hMl : M.length = 2 * T.links.length := by rw [← hM]; exact maskL_len T k x
  rw [hM] at hmk ⊢
  refine can_of Tryz.func55 rfl Tryz.ntmps55 rfl ?_
  refine W_cs (.a 4 rfl <| .k [2, 3, 4] rfl) ?_
  refine W_cs (.a 2 rfl <| .c rfl (hmk) rfl <| .a 5 rfl <| .k [2, 3, 8] rfl) ?_
  refine W_rs ?_
  refine WR_a 2 rfl <| WR_l (l_make rfl (fok.rk.get rfl) rfl rfl (show (M.length : Int) = ((2 * T.links.length : Nat) : Int) by omega) (show (M.length : Int) = ((2 * T.links.length : Nat) : Int) by omega) ⟨by unfold maxLen; omega, by omega⟩) rfl <| WR_a 1 rfl <| WR_k [2, 3, 8, 10] rfl ?_
  refine W_cs (.a 1 rfl <| .k [2, 3, 8, 10, 11] rfl) ?_
  refine W_adopt 11 3 1 rfl ?_
  refine W_sto (σ' := [some (.row 4 1 (2 * T.links.length) (boolsP (ownTo T M n 0))), some (.row 3 1 0 [])]) (by rw [ownTo_zero, ← zeros_bools]; rfl) ?_
  refine W_seq ?_
  refine W_cs (.a 1 rfl <| .k [2, 3, 8, 10, 11, 12] rfl) ?_
  refine W_block ?_
  refine W_k [2, 3, 8, 10, 11, 12] rfl ?_
  refine W_loop (fun r st => ∃ a : Nat, a ≤ 2 * T.links.length ∧ r = 2 * T.links.length - a ∧ st = ⟨[(2, num n), (3, .pin (topoP T) 0), (8, boolsV M), (10, .own 0), (11, .own 1), (12, num a)], [some (.row 4 1 (2 * T.links.length) (boolsP (ownTo T M n a))), some (.row 3 1 (dwnTo M T n a).length (intsP (dwnTo M T n a)))]⟩) (2 * T.links.length) ⟨0, by omega, by omega, rfl⟩ ?_
  rintro r st ⟨a, ha, rfl, rfl⟩
  refine W_seq ?_
  refine W_cs (.a 4 rfl <| .k [2, 3, 8, 10, 11, 12, 25] rfl) ?_
  refine W_cond rfl (fun h1 => ?_) (fun h1 => ?_)
  · have hlt : a < 2 * T.links.length := by have := tt h1; omega
    have hal : (ownTo T M n a).length = 2 * T.links.length := ownTo_len T M n a
    have hdl : (dwnTo M T n a).length ≤ 512 := Nat.le_trans (dwn_len M T n a) (by omega)
    refine W_skip ?_
    refine W_seq ?_
    refine W_block ?_
    obtain ⟨c1, hc1⟩ : ∃ q, downN M a = q := ⟨_, rfl⟩
    obtain ⟨c2, hc2⟩ : ∃ q, decide (tailN T a = n) = q := ⟨_, rfl⟩
    refine W_csK 38 (.raw (.bool (c1 && c2))) [2, 3, 8, 10, 11, 12] rfl ?_ ?_
    · refine .a 2 rfl <| .v (y_ix (a) rfl) rfl <| .v (y_ld rfl (show _ = some (flag c1) by rw [bools_getP _ a (by omega), downN_get, hc1])) rfl <| .a 1 rfl <| ?_
      cases c1
      · exact .a 6 rfl <| .k [38, 2, 3, 8, 10, 11, 12] rfl
      · exact .a 2 rfl <| .c rfl (rtailN_can T hv a hlt) rfl <| .a 1 rfl <| .v (y_q rfl (hc2)) rfl <| .a 1 rfl <| .k [38, 2, 3, 8, 10, 11, 12] rfl
    refine W_cond rfl (fun h2 => ?_) (fun h2 => ?_)
    · have h2 : (downN M a && decide (tailN T a = n)) = true := by rw [hc1, hc2]; exact h2
      have hs1 := dwn_yes h2
      have hs2 := ownTo_yes h2
      refine W_rs ?_
      refine WR_a 3 rfl <| WR_l (l_append rfl (fok.rk.get rfl) rfl rfl rfl rfl (by unfold maxLen; omega)) rfl <| WR_a 1 rfl ?_
      refine WR_ren [0, 2] (.c 2 <| .c 3 <| .c 8 <| .c 10 <| .c 11 <| .c 12 <| .nil) (.kept rfl (.row RenL.pure) <| .kept rfl (.rowP rfl (intsP_snoc _ _)) <| .nil) rfl rfl (WR_nil ?_)
      refine W_region ?_
      refine WR_a 2 rfl <| WR_v (y_ix (a) rfl) rfl <| WR_loud0 ((by first | exact l_storeInts rfl (fok.tk.get rfl) rfl rfl rfl (by first | omega | (simp; omega)) | exact l_storeBools rfl (fok.tk.get rfl) rfl rfl rfl (by first | omega | (simp; omega)))) rfl rfl <| WR_k [2, 3, 8, 10, 11, 12] rfl ?_
      refine W_sto (σ' := [some (.row 4 1 (2 * T.links.length) (boolsP (ownTo T M n (a + 1)))), some (.row 3 1 (dwnTo M T n (a + 1)).length (intsP (dwnTo M T n (a + 1))))]) (by rw [← hs2, hs1, List.length_append]; rfl) ?_
      refine W_chain (.a 1 rfl <| .v (y_ar rfl) rfl <| .a 1 rfl <| .k [2, 3, 8, 10, 11, 12] rfl) ?_
      first
        | exact ⟨2 * T.links.length - (a + 1), by omega, a + 1, by omega, rfl, rfl⟩
        | exact ⟨2 * T.links.length - (a + 1), by omega, a + 1, by omega, rfl, by rw [hs1, hs2]; rfl⟩
    · have h2 : (downN M a && decide (tailN T a = n)) = false := by rw [hc1, hc2]; exact h2
      have hs1 := dwn_no h2
      have hs2 := ownTo_no h2
      refine W_skip ?_
      refine W_chain (.a 1 rfl <| .v (y_ar rfl) rfl <| .a 1 rfl <| .k [2, 3, 8, 10, 11, 12] rfl) ?_
      first
        | exact ⟨2 * T.links.length - (a + 1), by omega, a + 1, by omega, rfl, rfl⟩
        | exact ⟨2 * T.links.length - (a + 1), by omega, a + 1, by omega, rfl, by rw [hs1, hs2]; rfl⟩
  · have hae : a = 2 * T.links.length := by have := ff h1; omega
    subst hae
    refine W_exit ?_
    refine W_cs (.a 4 rfl <| .k [6, 7] rfl) ?_
    refine W_ret ?_
    refine ⟨_, _, ResL.of rfl, Pur.tupleL (PurL.cons (Pur.ownL rfl PurL.pure) (PurL.cons (Pur.ownL rfl PurL.pure) PurL.nil)), ?_⟩
    rw [dwn_all, ownTo_all]
    unfold intsV boolsV
    rw [show (ownM T M n).length = 2 * T.links.length by simp [ownM]]
set_option maxRecDepth 10000 in
set_option maxHeartbeats 1000000 in
theorem rtrn_can (T : Topo) (k x n : Int) (h12 : T.nodes ≤ 12) : Can Tryz.prog 19 [topoV T, compV k x, num n] (· = tabE (if maskE T k x = 0 then (if nodeB T n then 0 else 2) else 1) (trnT T (maskL T k x) n.toNat)) := by
  obtain ⟨q0, hq0⟩ : ∃ q, (validB T && compB T k x) = q := ⟨_, rfl⟩
  refine can_of Tryz.func19 rfl Tryz.ntmps19 rfl ?_
  refine W_rs ?_
  refine WR_a 4 rfl <| WR_k [2, 3, 4, 6] rfl ?_
  refine W_seq ?_
  refine W_cs (.a 2 rfl <| .c rfl (hq0 ▸ rvalid10_can T k x) rfl <| .a 1 rfl <| .k [2, 3, 4, 6, 19] rfl) ?_
  refine W_cond rfl (fun h1 => ?_) (fun h1 => ?_)
  · have h1 : q0 = false := by simpa using h1
    have he : maskE T k x = 1 := by unfold maskE; rw [hq0, h1]; rfl
    rw [he]
    refine W_rs ?_
    refine WR_a 3 rfl <| WR_k [6, 7] rfl ?_
    refine W_ret ?_
    exact ⟨_, _, ResL.of rfl, Pur.tupleL (PurL.cons (Pur.aggL (PurL.cons Pur.pure <| PurL.cons Pur.nils <| PurL.cons Pur.nils PurL.nil)) (PurL.cons Pur.pure PurL.nil)), rfl⟩
  · have h1 : q0 = true := by simpa using h1
    subst h1
    have he : maskE T k x = 0 := by unfold maskE; rw [if_pos hq0]
    rw [he, if_pos rfl]
    obtain ⟨hv, hc⟩ := Bool.and_eq_true_iff.1 hq0
    have hll := links_le hv
    refine W_skip ?_
    refine W_seq ?_
    obtain ⟨q1, hq1⟩ : ∃ q, decide (n < 0) = q := ⟨_, rfl⟩
    obtain ⟨q2, hq2⟩ : ∃ q, decide (T.nodes ≤ n) = q := ⟨_, rfl⟩
    have hnb : nodeB T n = !(q1 || q2) := by rw [← hq1, ← hq2]; unfold nodeB; by_cases h1 : n < 0 <;> by_cases h2 : T.nodes ≤ n <;> simp [h1, h2] <;> omega
    refine W_csK 28 (.raw (.bool (q1 || q2))) [2, 3, 4, 6] rfl ?_ ?_
    · refine .a 1 rfl <| .v (y_q rfl (hq1)) rfl <| .a 1 rfl <| ?_
      cases q1
      · exact .a 3 rfl <| .v (y_q rfl (hq2)) rfl <| .a 1 rfl <| .k [28, 2, 3, 4, 6] rfl
      · exact .a 5 rfl <| .k [28, 2, 3, 4, 6] rfl
    refine W_cond rfl (fun h2 => ?_) (fun h2 => ?_)
    · have hn : nodeB T n = false := by rw [hnb, h2]; rfl
      rw [hn]
      refine W_rs ?_
      refine WR_a 3 rfl <| WR_k [6, 7] rfl ?_
      refine W_ret ?_
      exact ⟨_, _, ResL.of rfl, Pur.tupleL (PurL.cons (Pur.aggL (PurL.cons Pur.pure <| PurL.cons Pur.nils <| PurL.cons Pur.nils PurL.nil)) (PurL.cons Pur.pure PurL.nil)), rfl⟩
    · have hn : nodeB T n = true := by rw [hnb, h2]; rfl
      rw [hn, if_pos rfl]
      have hnb' := hn
      rw [nodeB_iff] at hn
      obtain ⟨m, rfl⟩ := Int.eq_ofNat_of_zero_le hn.1
      rw [Int.toNat_natCast]
      obtain ⟨N, hN⟩ : ∃ N : Nat, T.nodes = (N : Int) := ⟨T.nodes.toNat, by omega⟩
      have hmk := rmask_can T k x
      unfold boolsE at hmk
      rw [he, if_pos rfl] at hmk
      have hdw := rdown_can T k x m hq0
      have hmf := mask_fits T k x
      obtain ⟨M, hM⟩ : ∃ M, maskL T k x = M := ⟨_, rfl⟩
      rw [hM] at hmk hdw hmf ⊢
      refine W_skip ?_
      refine W_cs (.a 2 rfl <| .c rfl (hmk) rfl <| .a 5 rfl <| .k [2, 3, 4, 6, 8] rfl) ?_
      refine W_cs (.a 3 rfl <| .c rfl (hdw) rfl <| .a 5 rfl <| .k [2, 3, 6, 8, 10] rfl) ?_
      refine W_rs ?_
      refine WR_a 2 rfl <| WR_v (y_le (y_build (xs := [_, _, _]) rfl (fok.st.get rfl) rfl rfl) (PLe.refl _)) rfl <| WR_a 2 rfl <| WR_k [2, 3, 6, 8, 12] rfl ?_
      refine W_adoptCell 1 1 47 3 rfl rfl ?_
      refine W_seq ?_
      refine W_cs (.a 1 rfl <| .k [2, 3, 6, 8, 12, 13] rfl) ?_
      refine W_block ?_
      refine W_k [2, 3, 6, 8, 12, 13] rfl ?_
      refine W_loop (fun r s => ∃ j, j ≤ N ∧ r = N - j ∧ s = ⟨[(2, num m), (3, .pin (topoP T) 0), (6, .ptr 0 0), (8, boolsV M), (12, .ptr 1 0), (13, num j)], [some (.cells 35 [num 0, .raw (.slice none 0 0), .raw (.slice none 0 0)]), some (.cells 35 [num m, .own 2, intsV (downL M (outL T m))]), some (.row 47 3 j (entsP (trnL T M m j)))]⟩) N ⟨0, by omega, by omega, rfl⟩ ?_
      rintro r s ⟨j, hj, rfl, rfl⟩
      refine W_seq ?_
      refine W_cs (.a 2 rfl <| .v (y_ld rfl ((show some (num T.nodes) = some (num (N : Int)) by rw [hN]))) rfl <| .a 1 rfl <| .k [2, 3, 6, 8, 12, 13, 49] rfl) ?_
      refine W_cond rfl (fun h3 => ?_) (fun h3 => ?_)
      · have hlt : j < N := by have := tt h3; omega
        have hre := rentry_can T M m j h12
        rw [entE_zero hv hmf hnb' (nodeB_iff.2 ⟨by omega, by omega⟩)] at hre
        refine W_skip ?_
        refine W_seq ?_
        refine W_block ?_
        refine W_rs ?_
        refine WR_a 4 rfl <| WR_c rfl (hre) rfl <| WR_a 6 rfl <| WR_k [2, 3, 6, 8, 12, 13, 14] rfl ?_
        refine W_region ?_
        refine WR_a 4 rfl <| WR_l (l_append rfl (fok.rk.get rfl) rfl rfl rfl rfl (by unfold maxLen; omega)) rfl <| WR_a 2 rfl ?_
        refine WR_ren [0, 1, 4] (.c 2 <| .c 3 <| .c 6 <| .c 8 <| .c 12 <| .c 13 <| .nil) (.kept rfl (.cells (RenL.c <| RenL.c <| RenL.c <| RenL.nil)) <| .kept rfl (.cells (RenL.c <| RenL.c <| RenL.c <| RenL.nil)) <| .kept rfl (.rowP rfl (show _ = entsP (trnL T M m (j + 1)) by rw [trnL_step]; exact entsP_snoc _ _)) <| .nil) rfl rfl (WR_nil ?_)
        refine W_chain (.a 1 rfl <| .v (y_ar rfl) rfl <| .a 1 rfl <| .k [2, 3, 6, 8, 12, 13] rfl) ?_
        exact ⟨N - (j + 1), by omega, j + 1, by omega, rfl, rfl⟩
      · have hje : j = N := by have := ff h3; omega
        subst hje
        refine W_exit ?_
        refine W_rs ?_
        refine WR_v (y_loadPtrAgg (ys := [num m, .own 2, intsV (downL M (outL T m))]) rfl (fok.tk.get rfl) rfl rfl rfl rfl) rfl <| WR_a 2 rfl <| WR_k [6, 7] rfl ?_
        refine W_ret ?_
        refine ⟨_, _, ResL.of rfl, Pur.tupleL (PurL.cons (Pur.aggL (PurL.cons Pur.pure <| PurL.cons (Pur.ownL rfl PurL.pure) <| PurL.cons Pur.pure PurL.nil)) (PurL.cons Pur.pure PurL.nil)), ?_⟩
        unfold tabE trnT tabV tabP entsV intsV
        rw [if_pos rfl, trnL_len, show T.nodes.toNat = j by omega]
end PW
end Go.Proofs.YtbpgndbjbaoolaaGreat

/- Package transition: Old, Table, Final; the reference's Old and Final. -/
namespace Go.Proofs.YtbpgndbjbaoolaaGreat
set_option linter.unusedVariables false
set_option linter.unusedSimpArgs false
namespace PW
open Go.RowKit Reg Mem Net Rng

theorem over_flat {α : Type} (f : α → List PV) (s : Nat) (hf : ∀ a, (f a).length = s) (z : α) : ∀ (l : List α) (d : Nat), d < l.length → over (l.flatMap f) (d * s) (f z) = (l.set d z).flatMap f
  | [], d, h => by simp at h
  | a :: l, 0, _ => by
    unfold over
    rw [List.flatMap_cons, Nat.zero_mul, List.take_zero, hf, List.set_cons_zero, List.flatMap_cons, List.nil_append, Nat.zero_add]
    congr 1
    rw [← hf a, List.drop_left]
  | a :: l, d + 1, h => by
    have ih := over_flat f s hf z l d (by simpa using h)
    unfold over at *
    have e : (d + 1) * s = (f a).length + d * s := by rw [hf, Nat.succ_mul]; omega
    rw [List.flatMap_cons, List.set_cons_succ, List.flatMap_cons, ← ih, e, List.take_length_add_append, Nat.add_assoc, List.drop_length_add_append, List.append_assoc]
theorem over_ents (l : List Ent) (d : Nat) (z : Ent) (h : d < l.length) : over (entsP l) (d * 3) (entP z) = entsP (l.set d z) := over_flat entP 3 (fun _ => rfl) z l d h
/-- The table in the making. -/
noncomputable def midL (T : Topo) (D : List Bool) (n N j : Nat) : List Ent := (List.range N).map fun d => if d < j then entX T D n (d : Int) else ⟨nextL T D n d, false, []⟩
theorem midL_len (T : Topo) (D : List Bool) (n N j : Nat) : (midL T D n N j).length = N := by simp [midL]
theorem midL_zero (T : Topo) (D : List Bool) (n N : Nat) : midL T D n N 0 = toL T D n N := by unfold midL toL; simp
theorem midL_all (T : Topo) (D : List Bool) (n N : Nat) : midL T D n N N = trnL T D n N := by
  unfold midL trnL
  refine List.map_congr_left fun d hd => ?_
  rw [if_pos (List.mem_range.1 hd)]
theorem midL_get {T : Topo} {D : List Bool} {n N j i : Nat} (h : i < (midL T D n N j).length) : (midL T D n N j)[i] = if i < j then entX T D n (i : Int) else ⟨nextL T D n i, false, []⟩ := by simp [midL]
theorem midL_step (T : Topo) (D : List Bool) (n N j : Nat) : (midL T D n N j).set j (entX T D n (j : Int)) = midL T D n N (j + 1) := by
  apply List.ext_getElem (by simp [midL])
  intro i h1 h2
  rw [List.getElem_set, midL_get, midL_get]
  by_cases e : j = i
  · subst e; rw [if_pos rfl, if_pos (by omega)]
  · rw [if_neg e]
    by_cases h : i < j
    · rw [if_pos h, if_pos (by omega)]
    · rw [if_neg h, if_neg (by omega)]
/-- The store of package transition's after, when it calls change. -/
def trnSt (T : Topo) (D : List Bool) (n : Nat) (l : List Ent) : Sto := [some (.cells 35 [num 0, .raw (.slice none 0 0), .raw (.slice none 0 0)]), some (.row 47 3 T.nodes.toNat (entsP l)), some (.row 3 1 (downL D (outL T n)).length (intsP (downL D (outL T n)))), some (.cells 35 [num n, .own 1, .own 2])]
set_option maxRecDepth 10000 in
set_option maxHeartbeats 1000000 in
theorem trn1_can (T : Topo) (D : List Bool) (n : Nat) (hv : validB T = true) (hf : fitsB T D = true) (hn : (n : Int) < T.nodes) (h12 : T.nodes ≤ 12) : CanS Tryz.prog 53 ([boolsV D, .agg [num n, .own 1, .own 2]] ++ [.pin (topoP T) 0, .pin [num n] 0]) (trnSt T D n (toL T D n T.nodes.toNat)) (fun _ σ' => σ' = trnSt T D n (trnL T D n T.nodes.toNat) ++ [some (.cells 35 [num n, .own 1, .own 2])]) := by
  have hll := links_le hv
  have hnb : nodeB T (n : Int) = true := nodeB_iff.2 ⟨by omega, hn⟩
  obtain ⟨N, hN⟩ : ∃ N : Nat, T.nodes.toNat = N := ⟨_, rfl⟩
  have hNN : T.nodes = (N : Int) := by have := (sound_of hv).nodes; omega
  unfold trnSt
  rw [hN, ← midL_zero]
  obtain ⟨dl, hdl⟩ : ∃ dl, downL D (outL T n) = dl := ⟨_, rfl⟩
  rw [hdl]
  refine canS_of Tryz.func53 rfl Tryz.ntmps53 rfl ?_
  refine W_rs ?_
  refine WR_l (l_box rfl rfl rfl) rfl <| WR_k [0, 2, 3, 5] rfl ?_
  refine W_cs (.a 4 rfl <| .k [0, 2, 3, 5, 9, 10] rfl) ?_
  refine W_block ?_
  refine W_k [0, 2, 3, 5, 9, 10] rfl ?_
  refine W_loop (fun r s => ∃ j, j ≤ N ∧ r = N - j ∧ s = ⟨[(0, boolsV D), (2, .pin (topoP T) 0), (3, .pin [num n] 0), (5, .ptr 4 0), (9, num N), (10, num j)], [some (.cells 35 [num 0, .raw (.slice none 0 0), .raw (.slice none 0 0)]), some (.row 47 3 N (entsP (midL T D n N j))), some (.row 3 1 dl.length (intsP dl)), some (.cells 35 [num n, .own 1, .own 2]), some (.cells 35 [num n, .own 1, .own 2])]⟩) N ⟨0, by omega, by omega, rfl⟩ ?_
  rintro r s ⟨j, hj, rfl, rfl⟩
  refine W_cs (.a 1 rfl <| .k [0, 2, 3, 5, 9, 10, 11] rfl) ?_
  refine W_seq ?_
  refine W_cond rfl (fun h1 => ?_) (fun h1 => ?_)
  · have hlt : j < N := by have := tt h1; omega
    have hre := pent_can T D n j hll h12
    rw [entE_zero hv hf hnb (nodeB_iff.2 ⟨by omega, by omega⟩)] at hre
    have hml := midL_len T D n N j
    have hel : (entsP (midL T D n N j)).length = N * 3 := by have := flat_len entP 3 (fun _ => rfl) (midL T D n N j); rw [hml] at this; exact this
    refine W_skip ?_
    refine W_seq ?_
    refine W_block ?_
    refine W_cs (.a 2 rfl <| .k [0, 2, 3, 5, 6, 9, 10] rfl) ?_
    refine W_drawFlt 12 8 mixed (
      .val [5] rfl (y_a rfl) rfl rfl <|
      .val [14] rfl (y_a rfl) rfl rfl <|
      .val [6] rfl (y_a rfl) rfl rfl <|
      .val [2] rfl (y_a rfl) rfl rfl <|
      .val [0] rfl (y_a rfl) rfl rfl <|
      .val [3] rfl (y_a rfl) rfl rfl <|
      .val [6] rfl (y_a rfl) rfl rfl <|
      .val [17, 18, 19, 20] rfl (y_c rfl (hre)) rfl rfl <|
      .val [21] rfl (y_a rfl) rfl rfl <|
      .val [13] rfl (y_a rfl) rfl rfl <|
      .late [13] rfl (r_extract rfl rfl rfl) inferInstance rfl rfl <|
      .val [15, 16] rfl (y_ix ((j * 3)) rfl) rfl rfl <|
      .nil) (by kernel_rfl) rfl rfl (keepT_sub (ks := [0, 2, 3, 5, 9, 10, 22, 24]) rfl) ?_
    refine WR_loud0 (l_store rfl (fok.tk.get rfl) rfl rfl rfl rfl rfl (show j * 3 + 3 ≤ (entsP (midL T D n N j)).length by omega)) rfl rfl <| WR_k [0, 2, 3, 5, 9, 10] rfl ?_
    refine W_sto (σ' := [some (.cells 35 [num 0, .raw (.slice none 0 0), .raw (.slice none 0 0)]), some (.row 47 3 N (entsP (midL T D n N (j + 1)))), some (.row 3 1 dl.length (intsP dl)), some (.cells 35 [num n, .own 1, .own 2]), some (.cells 35 [num n, .own 1, .own 2])]) (by rw [← midL_step, ← over_ents _ _ _ (by omega)]; rfl) ?_
    refine W_chain (.v (y_ar rfl) rfl <| .a 1 rfl <| .k [0, 2, 3, 5, 9, 10] rfl) ?_
    exact ⟨N - (j + 1), by omega, j + 1, by omega, rfl, rfl⟩
  · have hje : j = N := by have := ff h1; omega
    subst hje
    refine W_exit ?_
    refine ⟨_, ResL.of rfl, ?_⟩
    rw [midL_all]
    rfl
theorem routesF_can (T : Topo) (D : List Bool) (n : Nat) (c : Option Blk) (hch : chkE T D [(n : Int)] = 0) : CanS Tryz.prog 51 [topoV T, boolsV D, num n] [c] (fun r σ' => r = .tuple [.agg [num n, .own 3, .own 4], num 0] ∧ σ' = [c, some (.cells 35 [num n, .own 3, .own 4]), some (.cells 35 [num n, .own 3, .own 4]), some (.row 47 3 T.nodes.toNat (entsP (toL T D n T.nodes.toNat))), some (.row 3 1 (downL D (outL T n)).length (intsP (downL D (outL T n))))]) := by
  refine CanS.frame (CanS.mono (routesS_can T D n hch) ?_)
  rintro r σ' ⟨rfl, rfl⟩
  refine ⟨[.cells 35 [num n, .own 2, .own 3], .cells 35 [num n, .own 2, .own 3], .row 47 3 T.nodes.toNat (entsP (toL T D n T.nodes.toNat)), .row 3 1 (downL D (outL T n)).length (intsP (downL D (outL T n)))], rfl, .tuple [.agg [num n, .own 3, .own 4], num 0], [.cells 35 [num n, .own 3, .own 4], .cells 35 [num n, .own 3, .own 4], .row 47 3 T.nodes.toNat (entsP (toL T D n T.nodes.toNat)), .row 3 1 (downL D (outL T n)).length (intsP (downL D (outL T n)))], ?_, ?_, rfl, rfl⟩
  · exact Up.tupleL (UpL.cons (Up.aggL (UpL.cons Up.pure <| UpL.cons (Up.own rfl) <| UpL.cons (Up.own rfl) UpL.nil)) (UpL.cons Up.pure UpL.nil))
  · exact BUpL.cons (.cells (UpL.cons Up.pure <| UpL.cons (Up.own rfl) <| UpL.cons (Up.own rfl) UpL.nil)) <| BUpL.cons (.cells (UpL.cons Up.pure <| UpL.cons (Up.own rfl) <| UpL.cons (Up.own rfl) UpL.nil)) <| BUpL.cons (.row UpL.pure) <| BUpL.cons (.row UpL.pure) BUpL.nil
instance (e : Int) (x : Tab) : IsPure (tabE e x) := by unfold tabE; infer_instance
def trnE (T : Topo) (k x n : Int) : Int := if maskE T k x = 0 then (if nodeB T n then 0 else 2) else 1
theorem mask_zero {T : Topo} {k x : Int} (h : maskE T k x = 0) : (validB T && compB T k x) = true := by
  unfold maskE at h
  split at h
  · assumption
  · omega
set_option maxRecDepth 10000 in
set_option maxHeartbeats 1000000 in
theorem trn2_can (T : Topo) (D : List Bool) (n : Nat) : CanS Tryz.prog 56 ([boolsV D, .agg [num n, .own 1, .own 2]] ++ []) (trnSt T D n (toL T D n T.nodes.toNat)) (fun _ σ' => σ' = trnSt T D n (toL T D n T.nodes.toNat) ++ [some (.cells 35 [num n, .own 1, .own 2])]) := by
  unfold trnSt
  refine canS_of Tryz.func56 rfl Tryz.ntmps56 rfl ?_
  refine W_region ?_
  refine WR_l (l_box rfl rfl rfl) rfl <| WR_k [] rfl ?_
  exact ⟨_, ResL.of rfl, rfl⟩
theorem mask_one {T : Topo} {k x : Int} (h : maskE T k x ≠ 0) : maskE T k x = 1 := by
  unfold maskE at *
  split
  · rename_i h'; rw [if_pos h'] at h; exact absurd rfl h
  · rfl
set_option maxRecDepth 10000 in
set_option maxHeartbeats 1000000 in
theorem afterX_can (T : Topo) (k x n : Int) (f : FuncId) (cap : List PV) [IsPureL cap] (he : trnE T k x n ≠ 0) :
    Can Tryz.prog 52 [topoV T, compV k x, num n, .func f cap] (· = tabE (trnE T k x n) ⟨0, [], []⟩) := by
  have hmk := mask_can T k x
  have hmf := mask_fits T k x
  unfold boolsE at hmk
  have hrt := routes_can T (maskL T k x) n
  refine can_of Tryz.func52 rfl Tryz.ntmps52 rfl ?_
  refine W_rs ?_
  refine WR_a 4 rfl <| WR_k [2, 3, 4, 5, 8] rfl ?_
  refine W_cs (.a 2 rfl <| .c rfl (hmk) rfl <| .a 5 rfl <| .k [2, 3, 4, 8, 10, 11] rfl) ?_
  refine W_seq ?_
  refine W_cs (.a 2 rfl <| .k [2, 3, 4, 8, 10, 11, 20] rfl) ?_
  refine W_cond rfl (fun h1 => ?_) (fun h1 => ?_)
  · have h1 := tt h1
    have he2 : trnE T k x n = maskE T k x := by
      unfold trnE
      rw [if_neg h1, mask_one h1]
    rw [he2]
    refine W_rs ?_
    refine WR_a 4 rfl <| WR_k [8, 9] rfl ?_
    refine W_ret ?_
    exact ⟨_, _, ResL.of rfl, Pur.tupleL (PurL.cons (Pur.aggL (PurL.cons Pur.pure <| PurL.cons Pur.nils <| PurL.cons Pur.nils PurL.nil)) (PurL.cons Pur.pure PurL.nil)), by unfold tabE; rw [if_neg h1]; rfl⟩
  · have h1 : maskE T k x = 0 := Classical.byContradiction (ff h1)
    obtain ⟨hv, hc⟩ := Bool.and_eq_true_iff.1 (mask_zero h1)
    rw [if_pos h1]
    have hn : nodeB T n = false := by
      cases hn : nodeB T n with
      | false => rfl
      | true => exact absurd (show trnE T k x n = 0 by unfold trnE; rw [if_pos h1, hn]; rfl) he
    have hch : chkE T (maskL T k x) [n] = 2 := by unfold chkE; rw [hv, hmf]; simp [hn]
    have hr0 : routesE T (maskL T k x) n = ⟨0, [], []⟩ := by unfold routesE; rw [if_neg (by rw [hch]; decide)]
    rw [hch, hr0] at hrt
    have he : trnE T k x n = 2 := by unfold trnE; rw [if_pos h1, hn]; rfl
    rw [he]
    refine W_skip ?_
    refine W_rs ?_
    refine WR_a 3 rfl <| WR_c rfl (hrt) rfl <| WR_a 6 rfl <| WR_k [3, 8, 10, 11, 12] rfl ?_
    refine W_seq ?_
    refine W_cs (.a 2 rfl <| .k [3, 8, 10, 11, 12, 31] rfl) ?_
    refine W_cond rfl (fun h2 => ?_) (fun h2 => ?_)
    · skip
      refine W_rs ?_
      refine WR_a 4 rfl <| WR_k [8, 9] rfl ?_
      refine W_ret ?_
      exact ⟨_, _, ResL.of rfl, Pur.tupleL (PurL.cons (Pur.aggL (PurL.cons Pur.pure <| PurL.cons Pur.nils <| PurL.cons Pur.nils PurL.nil)) (PurL.cons Pur.pure PurL.nil)), rfl⟩
    · exact absurd h2 (by decide)
set_option maxRecDepth 10000 in
set_option maxHeartbeats 1000000 in
theorem after_can (T : Topo) (k x : Int) (n : Nat) (f : FuncId) (cap : List PV) [IsPureL cap] (L : List Ent) (hen : enters Tryz.prog f = true) (hv : (validB T && compB T k x) = true) (hn : (n : Int) < T.nodes) (hl : L.length = T.nodes.toNat)
    (hf : CanS Tryz.prog f ([boolsV (maskL T k x), .agg [num n, .own 1, .own 2]] ++ cap) (trnSt T (maskL T k x) n (toL T (maskL T k x) n T.nodes.toNat)) (fun _ σ' => σ' = trnSt T (maskL T k x) n L ++ [some (.cells 35 [num n, .own 1, .own 2])])) :
    Can Tryz.prog 52 [topoV T, compV k x, num n, .func f cap] (· = tabE 0 ⟨n, L, downL (maskL T k x) (outL T n)⟩) := by
  have hmk := mask_can T k x
  have hmf := mask_fits T k x
  have hm0 : maskE T k x = 0 := by unfold maskE; rw [if_pos hv]
  unfold boolsE at hmk
  rw [hm0, if_pos rfl] at hmk
  obtain ⟨M, hM⟩ : ∃ M, maskL T k x = M := ⟨_, rfl⟩
  rw [hM] at hmk hmf hf ⊢
  obtain ⟨hv, hc⟩ := Bool.and_eq_true_iff.1 hv
  have hch : chkE T M [(n : Int)] = 0 := by unfold chkE; rw [hv, hmf]; simp [nodeB_iff.2 (show 0 ≤ (n : Int) ∧ (n : Int) < T.nodes by omega)]
  have hrt := fun c => routesF_can T M n c hch
  refine can_of Tryz.func52 rfl Tryz.ntmps52 rfl ?_
  refine W_rs ?_
  refine WR_a 4 rfl <| WR_k [2, 3, 4, 5, 8] rfl ?_
  refine W_cs (.a 2 rfl <| .c rfl (hmk) rfl <| .a 5 rfl <| .k [2, 3, 4, 8, 10, 11] rfl) ?_
  refine W_seq ?_
  refine W_cs (.a 2 rfl <| .k [2, 3, 4, 8, 10, 11, 20] rfl) ?_
  refine W_cond rfl (fun h1 => ?_) (fun h1 => ?_)
  · exact absurd h1 (by decide)
  · skip
    refine W_skip ?_
    refine W_rs ?_
    refine WR_a 3 rfl <| WR_cS rfl rfl (CanS.mono (hrt _) (fun r σ' h => ?_))
    obtain ⟨rfl, rfl⟩ := h
    refine WR_a 6 rfl <| WR_k [3, 8, 10, 11, 12] rfl ?_
    refine W_seq ?_
    refine W_cs (.a 2 rfl <| .k [3, 8, 10, 11, 12, 31] rfl) ?_
    refine W_cond rfl (fun h2 => ?_) (fun h2 => ?_)
    · exact absurd h2 (by decide)
    · skip
      refine W_skip ?_
      refine W_ren [0, 3, 4, 5] (.c 3 <| .c 8 <| .c 10 <| .c 12 <| .nil) (.kept rfl (.cells (RenL.c <| RenL.c <| RenL.c <| RenL.nil)) <| .kept rfl (.row RenL.pure) <| .kept rfl (.row RenL.pure) <| .kept rfl (.cells (RenL.c <| RenL.c <| RenL.c <| RenL.nil)) <| .nil) rfl rfl ?_
      refine W_rs ?_
      refine WR_a 3 rfl <| WR_callS rfl hen rfl rfl rfl rfl rfl (CanS.mono hf (fun r σ' h => ?_))
      obtain rfl := h
      refine WR_k [8, 12] rfl ?_
      refine W_rs ?_
      refine WR_a 3 rfl <| WR_k [8, 9] rfl ?_
      refine W_ret ?_
      refine ⟨_, _, ResL.of rfl, Pur.tupleL (PurL.cons (Pur.aggL (PurL.cons Pur.pure <| PurL.cons (Pur.ownL rfl PurL.pure) <| PurL.cons (Pur.ownL rfl PurL.pure) PurL.nil)) (PurL.cons Pur.pure PurL.nil)), ?_⟩
      unfold tabE tabV tabP entsV intsV
      rw [if_pos rfl, hl]
theorem trnE_zero {T : Topo} {k x n : Int} (h : trnE T k x n = 0) : (validB T && compB T k x) = true ∧ nodeB T n = true := by
  unfold trnE at h
  split at h
  · rename_i h1
    refine ⟨mask_zero h1, ?_⟩
    split at h
    · assumption
    · omega
  · omega
set_option maxRecDepth 10000 in
set_option maxHeartbeats 1000000 in
theorem ttab_can (T : Topo) (k x n : Int) (h12 : T.nodes ≤ 12) : Can Tryz.prog 18 [topoV T, compV k x, num n] (· = tabE (trnE T k x n) (trnT T (maskL T k x) n.toNat)) := by
  have key : Can Tryz.prog 52 [topoV T, compV k x, num n, .func 53 [.pin (topoP T) 0, .pin [num n] 0]] (· = tabE (trnE T k x n) (trnT T (maskL T k x) n.toNat)) := by
    by_cases he : trnE T k x n = 0
    · obtain ⟨hm, hn⟩ := trnE_zero he
      obtain ⟨hv, hc⟩ := Bool.and_eq_true_iff.1 hm
      rw [nodeB_iff] at hn
      obtain ⟨m, rfl⟩ := Int.eq_ofNat_of_zero_le hn.1
      rw [he]
      exact after_can T k x m _ _ _ (by kernel_rfl) hm hn.2 (trnL_len _ _ _ _) (trn1_can T (maskL T k x) m hv (mask_fits T k x) hn.2 h12)
    · have h := afterX_can T k x n 53 [.pin (topoP T) 0, .pin [num n] 0] he
      unfold tabE at h ⊢
      rw [if_neg he] at h ⊢
      exact h
  refine can_of Tryz.func18 rfl Tryz.ntmps18 rfl ?_
  refine W_rs ?_
  refine WR_a 5 rfl <| WR_k [3, 4, 5, 6] rfl ?_
  refine W_rs ?_
  refine WR_a 4 rfl <| WR_c rfl (key) rfl <| WR_a 4 rfl <| WR_k [6, 7] rfl ?_
  refine W_ret ?_
  exact ⟨_, _, ResL.of rfl, Pur.pure (p := tabE (trnE T k x n) (trnT T (maskL T k x) n.toNat)), rfl⟩
set_option maxRecDepth 10000 in
set_option maxHeartbeats 1000000 in
theorem tfin_can (T : Topo) (k x n : Int) : Can Tryz.prog 20 [topoV T, compV k x, num n] (· = tabE (trnE T k x n) (routesT T (maskL T k x) n.toNat)) := by
  have key : Can Tryz.prog 52 [topoV T, compV k x, num n, .func 56 []] (· = tabE (trnE T k x n) (routesT T (maskL T k x) n.toNat)) := by
    by_cases he : trnE T k x n = 0
    · obtain ⟨hm, hn⟩ := trnE_zero he
      obtain ⟨hv, hc⟩ := Bool.and_eq_true_iff.1 hm
      rw [nodeB_iff] at hn
      obtain ⟨m, rfl⟩ := Int.eq_ofNat_of_zero_le hn.1
      rw [he]
      exact after_can T k x m _ _ _ (by kernel_rfl) hm hn.2 (toL_len _ _ _ _) (trn2_can T (maskL T k x) m)
    · have h := afterX_can T k x n 56 [] he
      unfold tabE at h ⊢
      rw [if_neg he] at h ⊢
      exact h
  refine can_of Tryz.func20 rfl Tryz.ntmps20 rfl ?_
  refine W_rs ?_
  refine WR_a 4 rfl <| WR_k [2, 3, 4, 6] rfl ?_
  refine W_rs ?_
  refine WR_a 3 rfl <| WR_c rfl (key) rfl <| WR_a 4 rfl <| WR_k [6, 7] rfl ?_
  refine W_ret ?_
  exact ⟨_, _, ResL.of rfl, Pur.pure (p := tabE (trnE T k x n) (routesT T (maskL T k x) n.toNat)), rfl⟩
theorem routesE_tab (T : Topo) (D : List Bool) (n : Int) : PV.tuple [tabV (routesE T D n), num (chkE T D [n])] = tabE (chkE T D [n]) (routesT T D n.toNat) := by
  unfold tabE routesE; rfl
set_option maxRecDepth 10000 in
set_option maxHeartbeats 1000000 in
theorem told_can (T : Topo) (n : Int) : Can Tryz.prog 16 [topoV T, num n] (· = tabE (chkE T [] [n]) (routesT T [] n.toNat)) := by
  refine can_of Tryz.func16 rfl Tryz.ntmps16 rfl ?_
  refine W_rs ?_
  refine WR_a 3 rfl <| WR_k [1, 2, 4] rfl ?_
  have hr := routes_can T [] n
  rw [routesE_tab] at hr
  refine W_rs ?_
  refine WR_a 2 rfl <| WR_v (y_cP rfl (PurL.cons Pur.pure <| PurL.cons Pur.nils <| PurL.cons Pur.pure PurL.nil) (hr)) rfl <| WR_a 4 rfl <| WR_k [4, 5] rfl ?_
  refine W_ret ?_
  exact ⟨_, _, ResL.of rfl, Pur.pure (p := tabE (chkE T [] [n]) (routesT T [] n.toNat)), rfl⟩
set_option maxRecDepth 10000 in
set_option maxHeartbeats 1000000 in
theorem rtold_can (T : Topo) (n : Int) : Can Tryz.prog 17 [topoV T, num n] (· = tabE (chkE T [] [n]) (routesT T [] n.toNat)) := by
  refine can_of Tryz.func17 rfl Tryz.ntmps17 rfl ?_
  refine W_rs ?_
  refine WR_a 3 rfl <| WR_k [1, 2, 4] rfl ?_
  have hr := rroutes_can T [] n
  rw [routesE_tab] at hr
  refine W_rs ?_
  refine WR_a 2 rfl <| WR_v (y_cP rfl (PurL.cons Pur.pure <| PurL.cons Pur.nils <| PurL.cons Pur.pure PurL.nil) (hr)) rfl <| WR_a 4 rfl <| WR_k [4, 5] rfl ?_
  refine W_ret ?_
  exact ⟨_, _, ResL.of rfl, Pur.pure (p := tabE (chkE T [] [n]) (routesT T [] n.toNat)), rfl⟩
theorem chk_mask {T : Topo} {k x : Int} (h : maskE T k x = 0) (n : Int) : chkE T (maskL T k x) [n] = trnE T k x n := by
  obtain ⟨hv, hc⟩ := Bool.and_eq_true_iff.1 (mask_zero h)
  unfold chkE trnE
  rw [if_pos h, hv, mask_fits]
  simp
set_option maxRecDepth 10000 in
set_option maxHeartbeats 1000000 in
theorem rtfin_can (T : Topo) (k x n : Int) : Can Tryz.prog 21 [topoV T, compV k x, num n] (· = tabE (trnE T k x n) (routesT T (maskL T k x) n.toNat)) := by
  have hmk := rmask_can T k x
  unfold boolsE at hmk
  refine can_of Tryz.func21 rfl Tryz.ntmps21 rfl ?_
  refine W_rs ?_
  refine WR_a 4 rfl <| WR_k [2, 3, 4, 6] rfl ?_
  refine W_cs (.a 2 rfl <| .c rfl (hmk) rfl <| .a 5 rfl <| .k [2, 3, 6, 8, 9] rfl) ?_
  refine W_seq ?_
  refine W_cs (.a 2 rfl <| .k [2, 3, 6, 8, 9, 17] rfl) ?_
  refine W_cond rfl (fun h1 => ?_) (fun h1 => ?_)
  · have h1 := tt h1
    have he2 : trnE T k x n = maskE T k x := by
      unfold trnE
      rw [if_neg h1, mask_one h1]
    rw [he2]
    refine W_rs ?_
    refine WR_a 4 rfl <| WR_k [6, 7] rfl ?_
    refine W_ret ?_
    exact ⟨_, _, ResL.of rfl, Pur.tupleL (PurL.cons (Pur.aggL (PurL.cons Pur.pure <| PurL.cons Pur.nils <| PurL.cons Pur.nils PurL.nil)) (PurL.cons Pur.pure PurL.nil)), by unfold tabE; rw [if_neg h1]; rfl⟩
  · have h1 : maskE T k x = 0 := Classical.byContradiction (ff h1)
    rw [if_pos h1]
    have hrr := rroutes_can T (maskL T k x) n
    rw [routesE_tab, chk_mask h1] at hrr
    refine W_skip ?_
    refine W_rs ?_
    refine WR_a 3 rfl <| WR_c rfl (hrr) rfl <| WR_a 4 rfl <| WR_k [6, 7] rfl ?_
    refine W_ret ?_
    exact ⟨_, _, ResL.of rfl, Pur.pure (p := tabE (trnE T k x n) (routesT T (maskL T k x) n.toNat)), rfl⟩
end PW
end Go.Proofs.YtbpgndbjbaoolaaGreat

/- Distances, paths, lists and entries, reckoned: for examples. No program in sight. -/
namespace Go.Proofs.YtbpgndbjbaoolaaGreat
set_option linter.unusedVariables false
set_option linter.unusedSimpArgs false
namespace PW
open Go.RowKit Reg Mem Net Rng

namespace Cmp
def relax (T : Topo) (D : List Bool) (d : Nat) (L : List Int) (a : Nat) : List Int :=
  if (!downN D a) && decide (0 ≤ L.getD (headN T a).toNat 0) && (decide (headN T a = (d : Int)) || !overN T (headN T a).toNat) && (decide (L.getD (tailN T a).toNat 0 < 0) || decide (L.getD (headN T a).toNat 0 + costN T a < L.getD (tailN T a).toNat 0))
  then L.set (tailN T a).toNat (L.getD (headN T a).toNat 0 + costN T a) else L
def dC (T : Topo) (D : List Bool) (d : Nat) : List Int := (List.range T.nodes.toNat).foldl (fun L _ => (List.range (2 * T.links.length)).foldl (relax T D d) L) ((List.replicate T.nodes.toNat (-1)).set d 0)
def wayC (T : Topo) (D : List Bool) (n : Nat) (out : List Int) (a : Nat) : Bool := !downN D a && decide (0 ≤ at' out (arcY T false a)) && (decide (arcY T false a = (n : Int)) || !overN T (arcY T false a).toNat)
def chkD (T : Topo) (D : List Bool) (n : Nat) (out : List Int) : Bool :=
  decide (out.length = T.nodes.toNat) && decide (at' out (n : Int) = 0) && (List.range T.nodes.toNat).all (fun x => decide (-1 ≤ at' out (x : Int))) &&
  (List.range (2 * T.links.length)).all (fun a => !wayC T D n out a || (decide (0 ≤ at' out (arcX T false a)) && decide (at' out (arcX T false a) ≤ at' out (arcY T false a) + costN T a))) &&
  (List.range T.nodes.toNat).all (fun x => decide (x = n) || decide (at' out (x : Int) < 0) || (List.range (2 * T.links.length)).any fun a => decide (arcX T false a = (x : Int)) && wayC T D n out a && decide (at' out (x : Int) = at' out (arcY T false a) + costN T a))
def chk (T : Topo) (D : List Bool) : Bool := (List.range T.nodes.toNat).all fun d => chkD T D d (dC T D d)
theorem way_iff (T : Topo) (D : List Bool) (n : Nat) (out : List Int) (a : Nat) : Net.Way T D n false out a ↔ wayC T D n out a = true := by
  unfold Net.Way wayC
  simp [and_assoc]
theorem dist_of {T : Topo} {D : List Bool} (hv : validB T = true) {n : Nat} {out : List Int} (h : chkD T D n out = true) : IsDist T D n false out := by
  have hN := (sound_of hv).nodes
  simp only [chkD, Bool.and_eq_true, decide_eq_true_eq, List.all_eq_true, List.mem_range, Bool.or_eq_true, Bool.not_eq_true', List.any_eq_true] at h
  obtain ⟨⟨⟨⟨h1, h2⟩, h3⟩, h4⟩, h5⟩ := h
  refine ⟨by rw [h1]; omega, h2, fun x hx => h3 x (by omega), fun a ha hw => ?_, fun x hx h0 => ?_⟩
  · rcases h4 a ha with h | h
    · rw [(way_iff T D n out a).1 hw] at h; cases h
    · exact h
  · rcases h5 x (by omega) with (h | h) | ⟨a, ha, ⟨h6, h7⟩, h8⟩
    · exact .inl h
    · omega
    · exact .inr ⟨a, ha, h6, (way_iff T D n out a).2 h7, h8⟩
theorem dist {T : Topo} {D : List Bool} (hv : validB T = true) (h : chk T D = true) {d : Nat} (hd : (d : Int) < T.nodes) : distL T D d false = dC T D d := by
  refine distL_eq (sound_of hv) (dist_of hv ?_)
  simp only [chk, List.all_eq_true, List.mem_range] at h
  exact h d (by omega)
def nextC (T : Topo) (D : List Bool) (n d : Nat) : List Int := if n = d ∨ (dC T D d).getD n 0 < 0 then [] else passL T D (dC T D d) ((dC T D d).getD n 0) d (outL T n)
theorem next {T : Topo} {D : List Bool} (hv : validB T = true) (h : chk T D = true) {n d : Nat} (hd : (d : Int) < T.nodes) : nextL T D n d = nextC T D n d := by
  unfold nextL nextC; rw [dist hv h hd]
def firstC (T : Topo) (D : List Bool) (d : Nat) : Nat → Nat → List Int
  | 0, _ => []
  | f + 1, n => match nextC T D n d with
    | [] => []
    | a :: _ => a :: firstC T D d f (headN T a.toNat).toNat
def spathC (T : Topo) (D : List Bool) (n d : Nat) : List Int := firstC T D d ((dC T D d).getD n 0).toNat n
theorem first {T : Topo} {D : List Bool} (hv : validB T = true) (h : chk T D = true) {d : Nat} (hd : (d : Int) < T.nodes) : ∀ f n, firstP T D d f n = firstC T D d f n
  | 0, _ => rfl
  | f + 1, n => by
    simp only [firstP, firstC, next hv h hd]
    cases nextC T D n d with
    | nil => rfl
    | cons a l => simp only [first hv h hd f]
theorem spath {T : Topo} {D : List Bool} (hv : validB T = true) (h : chk T D = true) {n d : Nat} (hd : (d : Int) < T.nodes) : spathL T D n d = spathC T D n d := by
  unfold spathL spathC dN; rw [dist hv h hd, first hv h hd]
def spC (T : Topo) (D : List Bool) (s d : Int) : Int := if nodeE T D s d = 0 then (if (dC T D d.toNat).getD s.toNat 0 < 0 then 11 else 0) else nodeE T D s d
theorem node_lt {T : Topo} {D : List Bool} {s d : Int} (h : nodeE T D s d = 0) : (d.toNat : Int) < T.nodes ∧ 0 ≤ d := by
  obtain ⟨_, _, _, h4⟩ := nodeE_zero h
  rw [nodeB_iff] at h4
  omega
theorem spe {T : Topo} {D : List Bool} (hv : validB T = true) (h : chk T D = true) (s d : Int) : spE T D s d = spC T D s d := by
  unfold spE spC dN
  by_cases h0 : nodeE T D s d = 0
  · rw [if_pos h0, if_pos h0, dist hv h (node_lt h0).1]
  · rw [if_neg h0, if_neg h0]
def cntC (T : Topo) (D : List Bool) (d : Nat) : Nat → Nat → Int
  | 0, m => if m = d then 1 else 0
  | f + 1, m => if m = d then 1 else (nextC T D m d).foldl (fun c a => min 2 (c + cntC T D d f (headN T a.toNat).toNat)) 0
theorem cnt {T : Topo} {D : List Bool} (hv : validB T = true) (h : chk T D = true) {d : Nat} (hd : (d : Int) < T.nodes) : ∀ f m, cntF T D d f m = cntC T D d f m
  | 0, _ => rfl
  | f + 1, m => by
    simp only [cntF, cntC, next hv h hd]
    split
    · rfl
    · exact foldl_congr fun c a _ => by rw [cnt hv h hd f]
def covC (T : Topo) (D : List Bool) (n : Int) (p : List Int) (i j : Nat) : Bool :=
  decide ((dC T D (endL T n (p.take j)).toNat).getD (endL T n (p.take i)).toNat 0 = costL T (p.take j) - costL T (p.take i)) && (decide (nodeE T D (endL T n (p.take i)) (endL T n (p.take j)) = 0) && decide (cntC T D (endL T n (p.take j)).toNat ((dC T D (endL T n (p.take j)).toNat).getD (endL T n (p.take i)).toNat 0).toNat (endL T n (p.take i)).toNat = 1))
theorem cov {T : Topo} {D : List Bool} (hv : validB T = true) (h : chk T D = true) (n : Int) (p : List Int) (i j : Nat) : covB T D n p i j = covC T D n p i j := by
  unfold covB covC uniqB cntS dN
  by_cases h0 : nodeE T D (endL T n (p.take i)) (endL T n (p.take j)) = 0
  · rw [dist hv h (node_lt h0).1, cnt hv h (node_lt h0).1]
  · rw [decide_eq_false h0]; simp
def lstC (T : Topo) (D : List Bool) (n : Int) (p : List Int) : Nat → Nat → List Seg
  | 0, _ => []
  | f + 1, i => if i < p.length then (match topD (covC T D n p i) i p.length with
    | some j => ⟨1, endL T n (p.take j)⟩ :: lstC T D n p f j
    | none => ⟨2, p.getD i 0⟩ :: lstC T D n p f (i + 1)) else []
theorem lst {T : Topo} {D : List Bool} (hv : validB T = true) (h : chk T D = true) (n : Int) (p : List Int) : ∀ f i, lstF T D n p f i = lstC T D n p f i
  | 0, _ => rfl
  | f + 1, i => by
    have : covB T D n p i = covC T D n p i := funext fun j => cov hv h n p i j
    simp only [lstF, lstC, this]
    split
    · cases topD (covC T D n p i) i p.length with
      | none => simp only [lst hv h n p f]
      | some j => simp only [lst hv h n p f]
    · rfl
def entC (T : Topo) (D : List Bool) (n d : Int) : Ent :=
  if spC T D n d = 0 ∧ n ≠ d then ⟨[(spathC T D n.toNat d.toNat).getD 0 0], true, cutL (lstC T [] n (spathC T D n.toNat d.toNat) (spathC T D n.toNat d.toNat).length 0)⟩ else ⟨[], false, []⟩
theorem ent {T : Topo} {D : List Bool} (hv : validB T = true) (h0 : chk T [] = true) (h : chk T D = true) (n d : Int) : entX T D n d = entC T D n d := by
  unfold entX entC
  rw [spe hv h]
  by_cases hd : (d.toNat : Int) < T.nodes
  · unfold lstL
    rw [spath hv h hd, lst hv h0]
  · have : ¬ spC T D n d = 0 := by
      unfold spC
      intro hh
      split at hh
      · rename_i h1; exact hd (node_lt h1).1
      · rename_i h1; exact h1 hh
    rw [if_neg (fun hh => this hh.1), if_neg (fun hh => this hh.1)]
def asmC (T : Topo) (a : Nat) (d : Int) : Int × Int :=
  if (decide (0 < grpN T a) && decide (spC T (maskL T 3 (grpN T a)) (tailN T a) d = 0)) = true then (3, grpN T a)
  else if (decide (headN T a ≠ d) && decide (spC T (maskL T 2 (headN T a)) (tailN T a) d = 0)) = true then (2, headN T a)
  else (1, ((a / 2 : Nat) : Int))
theorem asm {T : Topo} (hv : validB T = true) {a : Nat} (h3 : chk T (maskL T 3 (grpN T a)) = true) (h2 : chk T (maskL T 2 (headN T a)) = true) (d : Int) : asmF T a d = asmC T a d := by
  unfold asmF asmC rchB
  rw [spe hv h3, spe hv h2]
end Cmp
end PW
end Go.Proofs.YtbpgndbjbaoolaaGreat

/- Tables reckoned, for examples; the ring after a failure. No program in sight. -/
namespace Go.Proofs.YtbpgndbjbaoolaaGreat
set_option linter.unusedVariables false
set_option linter.unusedSimpArgs false
namespace PW
open Go.RowKit Reg Mem Net Rng
namespace Cmp
def trnC (T : Topo) (D : List Bool) (n : Nat) : Tab := ⟨n, (List.range T.nodes.toNat).map fun (d : Nat) => entC T D n (d : Int), downL D (outL T n)⟩
theorem trn {T : Topo} {D : List Bool} (hv : validB T = true) (h0 : chk T [] = true) (h : chk T D = true) (n : Nat) : trnT T D n = trnC T D n := by
  unfold trnT trnC trnL
  congr 1
  exact List.map_congr_left fun d _ => ent hv h0 h n d
def routesC (T : Topo) (D : List Bool) (n : Nat) : Tab := ⟨n, (List.range T.nodes.toNat).map fun (d : Nat) => ⟨nextC T D n d, false, []⟩, downL D (outL T n)⟩
theorem routes {T : Topo} {D : List Bool} (hv : validB T = true) (h : chk T D = true) (n : Nat) : routesT T D n = routesC T D n := by
  have hN := (sound_of hv).nodes
  unfold routesT routesC toL
  congr 1
  refine List.map_congr_left fun d hd => ?_
  have := List.mem_range.1 hd
  rw [next hv h (by omega)]
end Cmp
def ringD1 : List Bool := [true, true, false, false, false, false, false, false]
theorem ring_mask : maskL ringT 1 0 = ringD1 := by kernel_rfl
theorem ring_chk0 : Cmp.chk ringT [] = true := by kernel_rfl
theorem ring_chk1 : Cmp.chk ringT ringD1 = true := by kernel_rfl
def ringA : Tab := ⟨3, [⟨[6], true, [⟨1, 0⟩]⟩, ⟨[5], true, [⟨1, 2⟩, ⟨1, 1⟩]⟩, ⟨[5], true, [⟨1, 2⟩]⟩, ⟨[], false, []⟩], []⟩
theorem ring_trn : trnT ringT ringD1 3 = ringA := (Cmp.trn ring_valid ring_chk0 ring_chk1 3).trans (by kernel_rfl)
def ringB : Tab := ⟨3, [⟨[6], false, []⟩, ⟨[5], false, []⟩, ⟨[5], false, []⟩, ⟨[], false, []⟩], []⟩
theorem ring_fin : routesT ringT ringD1 3 = ringB := (Cmp.routes ring_valid ring_chk1 3).trans (by kernel_rfl)
def ringC : Tab := ⟨3, [⟨[6], false, []⟩, ⟨[5, 6], false, []⟩, ⟨[5], false, []⟩, ⟨[], false, []⟩], []⟩
theorem ring_old : routesT ringT [] 3 = ringC := (Cmp.routes ring_valid ring_chk0 3).trans (by kernel_rfl)
end PW
end Go.Proofs.YtbpgndbjbaoolaaGreat

/- Pure walks: a region that draws its order, whose operations on the store stand in one order among themselves. No program in sight. -/
namespace Go.Proofs.YtbpgndbjbaoolaaGreat
set_option linter.unusedVariables false
set_option linter.unusedSimpArgs false
namespace PW
open Go.RowKit Reg Mem

/-- Of an operation: what it leaves; its place among those that change the store; between which stores it may stand. -/
structure GD where
  p : PV
  r : Option Nat
  lo : Nat
  hi : Nat
section
variable {P : Program} {N L : Nat}
inductive GK (P : Program) (N : Nat) (ops : Array Oper) (σs : List Sto) (T : Tms) (o : Oper) : GD → Prop
  | val {p : PV} {d lo hi : Nat} (ks : List Nat) (hks : (ks.all fun k => (o.looksAt ops).contains k) = true) (hw : wantB ops T o = some true) (hy : ∀ r σ, lo ≤ r → r ≤ hi → σs[r]? = some σ → Yield P σ (pickT T ks) o p) (hd : o.dst = some d) (hN : Nat.blt d N = true) : GK P N ops σs T o ⟨p, none, lo, hi⟩
  | skip {d lo hi : Nat} (hw : wantB ops T o = some false) (hd : o.dst = some d) (hN : Nat.blt d N = true) : GK P N ops σs T o ⟨.raw undef, none, lo, hi⟩
  | loud {p : PV} {d r lo hi : Nat} {σ σ' : Sto} (ks : List Nat) (hks : (ks.all fun k => (o.looksAt ops).contains k) = true) (hw : wantB ops T o = some true) (h1 : σs[r]? = some σ) (h2 : σs[r + 1]? = some σ') (hy : Loud P σ (pickT T ks) o p σ') (hd : o.dst = some d) (hN : Nat.blt d N = true) : GK P N ops σs T o ⟨p, some r, lo, hi⟩
  | loud0 {p : PV} {r lo hi : Nat} {σ σ' : Sto} (ks : List Nat) (hks : (ks.all fun k => (o.looksAt ops).contains k) = true) (hw : wantB ops T o = some true) (h1 : σs[r]? = some σ) (h2 : σs[r + 1]? = some σ') (hy : Loud P σ (pickT T ks) o p σ') (hd : o.dst = none) : GK P N ops σs T o ⟨p, some r, lo, hi⟩
inductive GL (P : Program) (N : Nat) (ops : Array Oper) (σs : List Sto) (T : Tms) : List Oper → List GD → Prop
  | nil : GL P N ops σs T [] []
  | cons {o : Oper} {g : GD} {l : List Oper} {gs : List GD} : GK P N ops σs T o g → GL P N ops σs T l gs → GL P N ops σs T (o :: l) (g :: gs)
theorem GL.get {ops : Array Oper} {σs : List Sto} {T : Tms} : ∀ {l : List Oper} {gs : List GD}, GL P N ops σs T l gs → gs.length = l.length ∧ ∀ (i : Nat) o g, l[i]? = some o → gs[i]? = some g → GK P N ops σs T o g
  | _, _, .nil => ⟨rfl, fun i o g h => by simp at h⟩
  | _, _, .cons h hs => by
    obtain ⟨h1, h2⟩ := hs.get
    refine ⟨by simp [h1], fun i o g ho hg => ?_⟩
    cases i with
    | zero => simp at ho hg; subst ho; subst hg; exact h
    | succ i => exact h2 i o g (by simpa using ho) (by simpa using hg)
def rkOf (gs : List GD) (i : Nat) : Option Nat := (gs[i]?).bind (·.r)
/-- The form of such a region; m: how many operations change the store. -/
def grdB (ops : Array Oper) (f m : Nat) (gs : List GD) : Bool :=
  Nat.beq gs.length ops.size &&
  ((List.range ops.size).all fun i => (aft ops i).all fun k => decide (k < i)) &&
  ((List.range ops.size).all fun i => (List.range i).all fun j => (dstOf ops i).isNone || dstOf ops i != dstOf ops j) &&
  ((List.range ops.size).all fun j => (looksOf ops j).all fun k => (List.range ops.size).all fun i => dstOf ops i != some k || reachB ops f j i) &&
  ((List.range ops.size).all fun i => match gs[i]? with
    | some ⟨_, some r, _, _⟩ => decide (r < m) && (Nat.beq r 0 || (List.range ops.size).any fun j => rkOf gs j == some (r - 1) && reachB ops f i j)
    | some ⟨_, none, lo, hi⟩ => (Nat.beq lo 0 || (List.range ops.size).any fun j => rkOf gs j == some (lo - 1) && reachB ops f i j) && (Nat.ble m hi || (List.range ops.size).any fun j => rkOf gs j == some hi && reachB ops f j i)
    | none => false) &&
  ((List.range ops.size).all fun i => (List.range i).all fun j => (rkOf gs i).isNone || rkOf gs i != rkOf gs j) &&
  ((List.range m).all fun r => (List.range ops.size).any fun j => rkOf gs j == some r)
structure Grd (ops : Array Oper) (f m : Nat) (gs : List GD) : Prop where
  len : gs.length = ops.size
  aft : ∀ i, i < ops.size → ∀ k ∈ aft ops i, k < i
  ss : ∀ i j d, i < ops.size → j < ops.size → dstOf ops i = some d → dstOf ops j = some d → i = j
  rd : ∀ j, j < ops.size → ∀ k ∈ looksOf ops j, ∀ i, i < ops.size → dstOf ops i = some k → reachB ops f j i = true
  loud : ∀ (i : Nat) g r, gs[i]? = some g → g.r = some r → r < m ∧ (r = 0 ∨ ∃ j, j < ops.size ∧ rkOf gs j = some (r - 1) ∧ reachB ops f i j = true)
  quiet : ∀ (i : Nat) g, gs[i]? = some g → g.r = none → (g.lo = 0 ∨ ∃ j, j < ops.size ∧ rkOf gs j = some (g.lo - 1) ∧ reachB ops f i j = true) ∧ (m ≤ g.hi ∨ ∃ j, j < ops.size ∧ rkOf gs j = some g.hi ∧ reachB ops f j i = true)
  one : ∀ i j r, i < ops.size → j < ops.size → rkOf gs i = some r → rkOf gs j = some r → i = j
  has : ∀ r, r < m → ∃ j, j < ops.size ∧ rkOf gs j = some r
theorem grdB_grd {ops : Array Oper} {f m : Nat} {gs : List GD} (h : grdB ops f m gs = true) : Grd ops f m gs := by
  unfold grdB at h
  simp only [Bool.and_eq_true] at h
  obtain ⟨⟨⟨⟨⟨⟨h1, h2⟩, h3⟩, h4⟩, h5⟩, h6⟩, h7⟩ := h
  have hl : gs.length = ops.size := Nat.eq_of_beq_eq_true h1
  have all : ∀ {n : Nat} {p : Nat → Bool}, (List.range n).all p = true → ∀ i, i < n → p i = true := fun h i hi => List.all_eq_true.1 h i (List.mem_range.2 hi)
  have any : ∀ {n : Nat} {p : Nat → Bool}, (List.range n).any p = true → ∃ i, i < n ∧ p i = true := fun h => by
    obtain ⟨i, hi, hp⟩ := List.any_eq_true.1 h
    exact ⟨i, List.mem_range.1 hi, hp⟩
  have s3 : ∀ i j d, i < ops.size → j < i → dstOf ops i = some d → dstOf ops j = some d → False := fun i j d hi hj e1 e2 => by
    have := all (all h3 i hi) j hj
    rw [e1, e2] at this
    simp at this
  have s6 : ∀ i j r, i < ops.size → j < i → rkOf gs i = some r → rkOf gs j = some r → False := fun i j r hi hj e1 e2 => by
    have := all (all h6 i hi) j hj
    rw [e1, e2] at this
    simp at this
  refine ⟨hl, fun i hi k hk => ?_, fun i j d hi hj e1 e2 => ?_, fun j hj k hk i hi hd => ?_, fun i g r hg hr => ?_, fun i g hg hr => ?_, fun i j r hi hj e1 e2 => ?_, fun r hr => ?_⟩
  · have := List.all_eq_true.1 (all h2 i hi) k hk; simpa using this
  · rcases Nat.lt_trichotomy i j with h | h | h
    · exact (s3 j i d hj h e2 e1).elim
    · exact h
    · exact (s3 i j d hi h e1 e2).elim
  · have := all (List.all_eq_true.1 (all h4 j hj) k hk) i hi
    rw [hd] at this
    simpa using this
  · have hi : i < ops.size := by rw [← hl]; exact (List.getElem?_eq_some_iff.1 hg).1
    have := all h5 i hi
    obtain ⟨p, r', lo, hi'⟩ := g
    simp only at hr
    subst hr
    rw [hg] at this
    simp only [Bool.and_eq_true, decide_eq_true_eq, Bool.or_eq_true] at this
    refine ⟨this.1, ?_⟩
    rcases this.2 with h | h
    · exact .inl (Nat.eq_of_beq_eq_true h)
    · obtain ⟨j, hj, h'⟩ := any h
      simp only [Bool.and_eq_true, beq_iff_eq] at h'
      exact .inr ⟨j, hj, h'.1, h'.2⟩
  · have hi : i < ops.size := by rw [← hl]; exact (List.getElem?_eq_some_iff.1 hg).1
    have := all h5 i hi
    obtain ⟨p, r', lo, hi'⟩ := g
    simp only at hr
    subst hr
    rw [hg] at this
    simp only [Bool.and_eq_true, Bool.or_eq_true] at this
    refine ⟨?_, ?_⟩
    · rcases this.1 with h | h
      · exact .inl (Nat.eq_of_beq_eq_true h)
      · obtain ⟨j, hj, h'⟩ := any h
        simp only [Bool.and_eq_true, beq_iff_eq] at h'
        exact .inr ⟨j, hj, h'.1, h'.2⟩
    · rcases this.2 with h | h
      · exact .inl (Nat.ble_eq.mp h)
      · obtain ⟨j, hj, h'⟩ := any h
        simp only [Bool.and_eq_true, beq_iff_eq] at h'
        exact .inr ⟨j, hj, h'.1, h'.2⟩
  · rcases Nat.lt_trichotomy i j with h | h | h
    · exact (s6 j i r hj h e2 e1).elim
    · exact h
    · exact (s6 i j r hi h e1 e2).elim
  · obtain ⟨j, hj, h⟩ := any (all h7 r hr)
    exact ⟨j, hj, by simpa using h⟩
/-- On the way through such a region. -/
structure Grg (base N : Nat) (F : Nat → Prop) (l : List Oper) (gs : List GD) (σs : List Sto) (t : Tms) (ls : Array Bool) (r : Nat) (E : Env) (a : Act) (w : World) : Prop where
  size : ls.size = l.length
  down : Down l.toArray ls
  rk : ∀ i s, i < l.length → rkOf gs i = some s → (ls.getD i true = true ↔ s < r)
  sat : ∃ σ, σs[r]? = some σ ∧ Sat F base σ E w
  dfr : a.defers = []
  tmps : a.tmps.size = N
  t0 : RepT E w a.eval t
  got : ∀ j d g, j < l.length → ls.getD j true = true → dstOf l.toArray j = some d → gs[j]? = some g → Rep E w (a.eval (.tmp d)) g.p
theorem ls_get (ls : Array Bool) (i j : Nat) (b : Bool) (hi : i < ls.size) : (ls.setIfInBounds i true).getD j b = if j = i then true else ls.getD j b := by
  by_cases e : j = i
  · subst e; simp [hi]
  · rw [if_neg e]
    simp only [Array.getD_eq_getD_getElem?, Array.getElem?_setIfInBounds_ne (Ne.symm e)]
theorem ls_irr {ls : Array Bool} {i : Nat} (hi : i < ls.size) (b c : Bool) : ls.getD i b = ls.getD i c := by simp [hi]
section
variable {l : List Oper} {gs : List GD} {σs : List Sto} {t T : Tms} {f m base : Nat} {F : Nat → Prop}
theorem Grg.reach (hG : Grd l.toArray f m gs) {ls : Array Bool} {r : Nat} {E : Env} {a : Act} {w : World} (h : Grg base N F l gs σs t ls r E a w) {i j : Nat} (hi : i < l.length) (hr : reachB l.toArray f i j = true) (hk : ∀ k ∈ aft l.toArray i, ls.getD k false = true) : ls.getD j true = true := by
  have := reach_listed (by rw [h.size]; simp) h.down (fun i hi => hG.aft i hi) f i j (by simpa using hi) hr hk
  by_cases hj : j < ls.size
  · rw [ls_irr hj true false]; exact this
  · simp [hj]
theorem Grg.looks (hG : Grd l.toArray f m gs) (hT : addT l (gs.map (·.p)) t = T) {ls : Array Bool} {r : Nat} {E : Env} {a : Act} {w : World} (h : Grg base N F l gs σs t ls r E a w) {i : Nat} (hi : i < l.length) (hk : ∀ k ∈ aft l.toArray i, ls.getD k false = true) :
    ∀ k ∈ looksOf l.toArray i, ∀ p, look k T = some p → Rep E w (a.eval (.tmp k)) p := fun k hks p hp => by
  rw [← hT] at hp
  rcases look_add _ _ _ k p hp with ⟨j, o, h1, h2, h3⟩ | h'
  · rw [List.getElem?_map, Option.map_eq_some_iff] at h3
    obtain ⟨g, hg, rfl⟩ := h3
    have hj : j < l.length := (List.getElem?_eq_some_iff.1 h1).1
    have hd : dstOf l.toArray j = some k := by simp only [dstOf, List.getElem?_toArray, h1, Option.bind_some, h2]
    have hr := hG.rd i (by simpa using hi) k hks j (by simpa using hj) hd
    exact h.got j k g hj (h.reach hG hi hr hk) hd hg
  · exact h.t0 k p h'
/-- One operation more. -/
theorem Grg.put (hG : Grd l.toArray f m gs) (hfr : ∀ i d, i < l.length → dstOf l.toArray i = some d → look d t = none) {ls : Array Bool} {r r' : Nat} {E E' : Env} {a : Act} {w w' : World} (h : Grg base N F l gs σs t ls r E a w) {i : Nat} {g : GD} {v : Value} (hi : i < l.length) (hu : ls.getD i true = false) (hk : ∀ k ∈ aft l.toArray i, ls.getD k false = true) (hg : gs[i]? = some g) (hgo : Goes E w E' w')
    (hs : ∃ σ, σs[r']? = some σ ∧ Sat F base σ E' w') (hr : (g.r = none ∧ r' = r) ∨ (g.r = some r ∧ r' = r + 1)) {o : Oper} (ho : l[i]? = some o) (hdN : ∀ d, o.dst = some d → d < N) (hv : ∀ d, o.dst = some d → Rep E' w' v g.p) :
    Grg base N F l gs σs t (ls.setIfInBounds i true) r' E' (a.put o.dst v) w' := by
  have hil : i < ls.size := by rw [h.size]; exact hi
  have hrk : rkOf gs i = g.r := by simp only [rkOf, hg, Option.bind_some]
  have hdi : dstOf l.toArray i = o.dst := by simp only [dstOf, List.getElem?_toArray, ho, Option.bind_some]
  refine ⟨by simpa using h.size, fun j hj hjs k hkj => ?_, fun j s hj hs' => ?_, hs, by cases o.dst <;> simpa [Act.put] using h.dfr, by cases o.dst <;> simpa [Act.put] using h.tmps, fun k p hkp => ?_, fun j d g' hj hjl hd hg' => ?_⟩
  · rw [ls_get _ _ _ _ hil] at hj ⊢
    split
    · rfl
    · by_cases e : j = i
      · subst e; exact hk k hkj
      · rw [if_neg e] at hj
        exact h.down j hj hjs k hkj
  · rw [ls_get _ _ _ _ hil]
    by_cases e : j = i
    · subst e
      rw [if_pos rfl]
      rw [hrk] at hs'
      rcases hr with ⟨h1, _⟩ | ⟨h1, h2⟩
      · rw [h1] at hs'; cases hs'
      · rw [h1] at hs'; cases hs'; exact ⟨fun _ => by omega, fun _ => rfl⟩
    · rw [if_neg e, h.rk j s hj hs']
      rcases hr with ⟨_, h2⟩ | ⟨h1, h2⟩
      · rw [h2]
      · have : s ≠ r := fun e' => e (hG.one j i r (by simpa using hj) (by simpa using hi) (by rw [hs', e']) (by rw [hrk, h1]))
        omega
  · have hne : ∀ d, o.dst = some d → k ≠ d := fun d hd e => by
      subst e
      rw [hfr i k hi (by rw [hdi, hd])] at hkp; cases hkp
    have : (a.put o.dst v).eval (.tmp k) = a.eval (.tmp k) := Act.eval_put fun d hd heq => by cases heq; exact hne _ hd rfl
    rw [this]
    exact (h.t0 k p hkp).goes hgo
  · rw [ls_get _ _ _ _ hil] at hjl
    by_cases e : j = i
    · subst e
      rw [hdi] at hd
      rw [hg] at hg'; cases hg'
      rw [hd, put_eval a (by rw [h.tmps]; exact hdN d hd), if_pos rfl]
      exact hv d hd
    · rw [if_neg e] at hjl
      have hne : ∀ d', o.dst = some d' → d ≠ d' := fun d' hd' e' => by
        subst e'
        exact e (hG.ss j i d (by simpa using hj) (by simpa using hi) hd (by rw [hdi, hd']))
      have : (a.put o.dst v).eval (.tmp d) = a.eval (.tmp d) := Act.eval_put fun d' hd' heq => by cases heq; exact hne _ hd' rfl
      rw [this]
      exact (h.got j d g' hj hjl hd hg').goes hgo
theorem grd_any (hG : Grd l.toArray f m gs) (hT : addT l (gs.map (·.p)) t = T) (hfr : ∀ i d, i < l.length → dstOf l.toArray i = some d → look d t = none) (hL : GL P N l.toArray σs T l gs) {σm : Sto} (hm : σs[m]? = some σm) {Q : Exit → Act → World → Prop} {E₀ : Env} {w₀ : World} (hq : ∀ a' w' E', Sat F base σm E' w' → RepT E' w' a'.eval T → a'.defers = [] → a'.tmps.size = N → Goes E₀ w₀ E' w' → Below base w₀ w' → Q .normal a' w') :
    ∀ (fuel : Nat) (ls : Array Bool) (r : Nat) (E : Env) (a : Act) (w : World), Grg base N F l gs σs t ls r E a w → unlisted ls l.length = fuel → Goes E₀ w₀ E w → Below base w₀ w → r ≤ m → wpAny P .any l.toArray Q fuel ls a w := by
  obtain ⟨hgl, hget⟩ := hL.get
  intro fuel
  induction fuel with
  | zero =>
    intro ls r E a w h hu hgo hb hrm
    have hall := unlisted_zero hu
    have hrm' : r = m := by
      rcases Nat.lt_or_ge r m with h' | h'
      · obtain ⟨j, hj, hjr⟩ := hG.has r h'
        have hj : j < l.length := by simpa using hj
        have := (h.rk j r hj hjr).1 (hall j hj)
        omega
      · omega
    subst hrm'
    refine ⟨List.eq_nil_iff_forall_not_mem.2 fun i hi => ?_, ?_⟩
    · obtain ⟨h1, h2, _⟩ := ready_iff.1 hi
      rw [hall i (by simpa using h1)] at h2; cases h2
    · obtain ⟨σ, hσ, hs⟩ := h.sat
      rw [hm] at hσ; cases hσ
      refine hq a w E hs (fun k p hkp => ?_) h.dfr h.tmps hgo hb
      rw [← hT] at hkp
      rcases look_add _ _ _ k p hkp with ⟨j, o, h1, h2, h3⟩ | h'
      · rw [List.getElem?_map, Option.map_eq_some_iff] at h3
        obtain ⟨g, hg, rfl⟩ := h3
        have hj : j < l.length := (List.getElem?_eq_some_iff.1 h1).1
        exact h.got j k g hj (hall j hj) (by simp only [dstOf, List.getElem?_toArray, h1, Option.bind_some, h2]) hg
      · exact h.t0 k p h'
  | succ fuel ih =>
    intro ls r E a w h hu hgo hb hrm
    obtain ⟨i0, hi0, hi1, hi2⟩ := unlisted_pos (ls := ls) (m := l.length) (by omega)
    have hi0r : i0 ∈ Region.ready .any l.toArray ls := ready_iff.2 ⟨by simpa using hi0, hi1, fun k hk => by
      have := hG.aft i0 (by simpa using hi0) k hk
      rw [ls_irr (by rw [h.size]; omega) false true]; exact hi2 k this⟩
    refine ⟨fun h0 => absurd hi0r (by rw [h0]; simp), fun i hi => ?_⟩
    obtain ⟨h1, h2, h3⟩ := ready_iff.1 hi
    have hil : i < l.length := by simpa using h1
    have ho : l[i]? = some l[i] := by simp [hil]
    have hgi : gs[i]? = some (gs[i]'(by omega)) := by simp
    have hK := hget i _ _ ho hgi
    generalize hgg : gs[i]'(by omega) = g at hgi hK
    generalize hoo : l[i] = o at ho hK
    have hlk := h.looks hG hT hil h3
    have hlo : looksOf l.toArray i = o.looksAt l.toArray := by simp only [looksOf, List.getElem?_toArray, ho]
    rw [hlo] at hlk
    have hpk : ∀ ks : List Nat, (ks.all fun k => (o.looksAt l.toArray).contains k) = true → RepT E w a.eval (pickT T ks) := fun ks hks k p hkp => by
      obtain ⟨e1, e2⟩ := look_pick ks k p hkp
      exact hlk k (by have := List.all_eq_true.1 hks k e1; simpa using this) p e2
    have hwant : ∀ b, wantB l.toArray T o = some b → Region.wanted o (yielded l.toArray a.tmps) = b := fun b hb => by
      rw [wantedR_eval]; exact wantB_looks (fun k hk p hp => hlk k hk p hp) hb
    have hun : unlisted (ls.setIfInBounds i true) l.length = fuel := by have := unlisted_set h2 hil (by rw [h.size]; omega); omega
    unfold wpOp
    have ho' : l.toArray[i]? = some o := by simpa using ho
    simp only [ho']
    have hrk : rkOf gs i = g.r := by simp only [rkOf, hgi, Option.bind_some]
    cases hK with
    | @val p d lo hi ks hks hw hy hd hN =>
      rw [hwant true hw, if_pos rfl]
      left
      obtain ⟨σ, hσ, hs⟩ := h.sat
      obtain ⟨q1, q2⟩ := hG.quiet i _ hgi rfl
      have hlo' : lo ≤ r := by
        rcases q1 with e | ⟨j, hj, hj1, hj2⟩
        · simp only at e; omega
        · have := (h.rk j _ (by simpa using hj) hj1).1 (h.reach hG hil hj2 h3)
          simp only at this; omega
      have hhi' : r ≤ hi := by
        rcases q2 with e | ⟨j, hj, hj1, hj2⟩
        · simp only at e; omega
        · rcases Nat.lt_or_ge hi r with h' | h'
          · have hjl : j < l.length := by simpa using hj
            have e1 := (h.rk j _ hjl hj1).2 h'
            have e2 := h.reach hG hjl hj2 (h.down j e1 hj)
            rw [h2] at e2; cases e2
          · exact h'
      refine upon_of (hy r σ hlo' hhi' hσ F base E a.eval w (isEval a) hs (hpk ks hks)) fun v w' hE hv => ?_
      exact ih _ r E _ w' (h.put hG hfr hil h2 h3 hgi (.ext hE) ⟨σ, hσ, hs.ext hE⟩ (.inl ⟨rfl, rfl⟩) ho (fun d' hd' => by rw [hd] at hd'; cases hd'; exact Nat.blt_eq.mp hN) (fun _ _ => hv)) hun (hgo.trans (.ext hE)) (hb.trans (Below.ofExt hE hs.bl)) hrm
    | @skip d lo hi hw hd hN =>
      rw [hwant false hw, if_neg (by simp)]
      exact ih _ r E _ w (h.put hG hfr hil h2 h3 hgi (Goes.refl _ _) h.sat (.inl ⟨rfl, rfl⟩) ho (fun d' hd' => by rw [hd] at hd'; cases hd'; exact Nat.blt_eq.mp hN) (fun _ _ => .raw _)) hun hgo hb hrm
    | @loud p d r0 lo hi σ σ' ks hks hw e1 e2 hy hd hN =>
      rw [hwant true hw, if_pos rfl]
      left
      obtain ⟨q1, q2⟩ := hG.loud i _ r0 hgi rfl
      have hr0 : r0 = r := by
        have n1 : ¬ r0 < r := fun h' => by
          have := (h.rk i r0 hil hrk).2 h'
          rw [h2] at this; cases this
        rcases q2 with e | ⟨j, hj, hj1, hj2⟩
        · omega
        · have := (h.rk j _ (by simpa using hj) hj1).1 (h.reach hG hil hj2 h3)
          omega
      subst hr0
      obtain ⟨σ0, hσ, hs⟩ := h.sat
      rw [e1] at hσ; cases hσ
      obtain ⟨v, w', E', hr, k1, k2, k3, k4⟩ := hy F base E a.eval w (isEval a) hs (hpk ks hks)
      have hn' := ih _ (r0 + 1) E' (a.put o.dst v) w' (h.put hG hfr hil h2 h3 hgi k2 ⟨σ', e2, k1⟩ (.inr ⟨rfl, rfl⟩) ho (fun d' hd' => by rw [hd] at hd'; cases hd'; exact Nat.blt_eq.mp hN) (fun _ _ => k4)) hun (hgo.trans k2) (hb.trans k3) (by omega)
      unfold Oper.wp
      rcases hr with hr | ⟨rfl, hr⟩
      · rw [hr]; exact hn'
      · rw [hr]; exact hn'
    | @loud0 p r0 lo hi σ σ' ks hks hw e1 e2 hy hd =>
      rw [hwant true hw, if_pos rfl]
      left
      obtain ⟨q1, q2⟩ := hG.loud i _ r0 hgi rfl
      have hr0 : r0 = r := by
        have n1 : ¬ r0 < r := fun h' => by
          have := (h.rk i r0 hil hrk).2 h'
          rw [h2] at this; cases this
        rcases q2 with e | ⟨j, hj, hj1, hj2⟩
        · omega
        · have := (h.rk j _ (by simpa using hj) hj1).1 (h.reach hG hil hj2 h3)
          omega
      subst hr0
      obtain ⟨σ0, hσ, hs⟩ := h.sat
      rw [e1] at hσ; cases hσ
      obtain ⟨v, w', E', hr, k1, k2, k3, k4⟩ := hy F base E a.eval w (isEval a) hs (hpk ks hks)
      have hn' := ih _ (r0 + 1) E' (a.put o.dst v) w' (h.put hG hfr hil h2 h3 hgi k2 ⟨σ', e2, k1⟩ (.inr ⟨rfl, rfl⟩) ho (fun d' hd' => by rw [hd] at hd'; cases hd') (fun d' hd' => by rw [hd] at hd'; cases hd')) hun (hgo.trans k2) (hb.trans k3) (by omega)
      unfold Oper.wp
      rcases hr with hr | ⟨rfl, hr⟩
      · rw [hr]; exact hn'
      · rw [hr]; exact hn'
end
theorem unlisted_all : ∀ (n k : Nat), k ≤ n → unlisted (Array.replicate n false) k = k
  | n, 0, _ => rfl
  | n, k + 1, h => by
    simp only [unlisted]
    rw [unlisted_all n k (by omega)]
    simp [show k < n by omega]
theorem W_grd {id : Nat} {l : List Oper} {t t' : Tms} {σ σm : Sto} {Q : Exit → St → Prop} (f m : Nat) (σs : List Sto) (gs : List GD) (T : Tms) (hm : P.follows .mixedOrders = true) (hB : grdB l.toArray f m gs = true) (hT : addT l (gs.map (·.p)) t = T) (hfr : (l.all fun o => o.dst.all fun d => (look d t).isNone) = true) (h0 : σs[0]? = some σ) (h1 : σs[m]? = some σm)
    (hL : GL P N l.toArray σs T l gs) (hsub : Sub T t') (hq : Q .normal ⟨t', σm⟩) : W P N L (.region id l.toArray true) ⟨t, σ⟩ Q := fun F base E₀ w₀ E a w hc hs => by
  have hG := grdB_grd hB
  have hE : Ext w { w with drawn := w.drawn + 1 } := ⟨rfl, rfl, rfl, Nat.le_refl _, fun _ _ => rfl⟩
  refine wp_region_any hm ?_
  have hfr' : ∀ i d, i < l.length → dstOf l.toArray i = some d → look d t = none := fun i d hi hd => by
    have ho : l[i]? = some l[i] := by simp [hi]
    simp only [dstOf, List.getElem?_toArray, ho, Option.bind_some] at hd
    have := List.all_eq_true.1 hfr _ (List.mem_of_getElem? ho)
    rw [hd] at this
    simpa using this
  have hg0 : Grg base N F l gs σs t (Array.replicate l.length false) 0 E a { w with drawn := w.drawn + 1 } := by
    have hrep : ∀ i, i < l.length → (Array.replicate l.length false).getD i true = false := fun i hi => by simp [hi]
    refine ⟨by simp, fun i hi hi' => ?_, fun i s hi _ => ?_, ⟨σ, h0, hs.sat.ext hE⟩, hs.dfr, hs.size, hs.tmp.goes (.ext hE), fun j d g hj hjl => ?_⟩
    · rw [hrep i (by simpa using hi')] at hi; cases hi
    · rw [hrep i hi]; simp
    · rw [hrep j hj] at hjl; cases hjl
  have := grd_any (Q := fun e a' w' => Post F base N E₀ w₀ (Q e) a' w') hG hT hfr' hL h1 (E₀ := E₀) (w₀ := w₀) (fun a' w' E' k1 k2 k3 k4 k5 k6 => ⟨⟨t', σm⟩, E', hq, ⟨k1, k2.sub hsub, k3, k4⟩, k5, k6⟩) l.length _ 0 E a _ hg0 (unlisted_all _ _ (Nat.le_refl _)) (hc.g.trans (.ext hE)) (hc.b.trans (Below.ofExt hE hs.sat.bl)) (Nat.zero_le _)
  simpa using this
theorem W_grds {id : Nat} {l : List Oper} {y : Code} {t t' : Tms} {σ σm : Sto} {Q : Exit → St → Prop} (f m : Nat) (σs : List Sto) (gs : List GD) (T : Tms) (hm : P.follows .mixedOrders = true) (hB : grdB l.toArray f m gs = true) (hT : addT l (gs.map (·.p)) t = T) (hfr : (l.all fun o => o.dst.all fun d => (look d t).isNone) = true) (h0 : σs[0]? = some σ) (h1 : σs[m]? = some σm)
    (hL : GL P N l.toArray σs T l gs) (hsub : Sub T t') (hq : W P N L y ⟨t', σm⟩ Q) : W P N L (.seq (.region id l.toArray true) y) ⟨t, σ⟩ Q := W_seq (W_grd f m σs gs T hm hB hT hfr h0 h1 hL hsub hq)
/-- Proofs for each store between two. -/
theorem yz {P : Program} {σs : List Sto} {t : Tms} {o : Oper} {p : PV} {lo hi : Nat} (h : ∀ σ ∈ (σs.drop lo).take (hi + 1 - lo), Yield P σ t o p) : ∀ r σ, lo ≤ r → r ≤ hi → σs[r]? = some σ → Yield P σ t o p := fun r σ h1 h2 hs => by
  refine h σ (List.mem_of_getElem? (i := r - lo) ?_)
  rw [List.getElem?_take, if_pos (by omega), List.getElem?_drop, show lo + (r - lo) = r by omega]
  exact hs
theorem ya0 {α : Type} {p : α → Prop} : ∀ x ∈ ([] : List α), p x := fun _ h => by cases h
theorem ya1 {α : Type} {p : α → Prop} {a : α} {l : List α} (h : p a) (hs : ∀ x ∈ l, p x) : ∀ x ∈ a :: l, p x := fun x hx => by
  rcases List.mem_cons.1 hx with rfl | h'
  · exact h
  · exact hs x h'
end
end PW
end Go.Proofs.YtbpgndbjbaoolaaGreat

/- The laws of layer 30, walked: awake, large, Tables. -/
namespace Go.Proofs.YtbpgndbjbaoolaaGreat
set_option linter.unusedVariables false
set_option linter.unusedSimpArgs false
namespace PW
open Go.RowKit Reg Mem Net Rng

def tooBig (T : Topo) : Bool := decide ((10 : Int) < T.nodes) || decide ((16 : Int) < T.links.length)
theorem not_big {T : Topo} (h : tooBig T = false) : T.nodes ≤ 12 ∧ T.links.length ≤ 16 := by
  unfold tooBig at h
  simp only [Bool.or_eq_false_iff, decide_eq_false_iff_not] at h
  omega
set_option maxRecDepth 10000 in
set_option maxHeartbeats 1000000 in
theorem large30_can (c : Q30) : Can Tryz.prog 15 [q30V c] (· = flag (tooBig c.T)) := by
  obtain ⟨q1, h1⟩ : ∃ q, decide ((10 : Int) < c.T.nodes) = q := ⟨_, rfl⟩
  obtain ⟨q2, h2⟩ : ∃ q, decide ((16 : Int) < c.T.links.length) = q := ⟨_, rfl⟩
  have he : tooBig c.T = (q1 || q2) := by unfold tooBig; rw [h1, h2]
  rw [he]
  refine can_of Tryz.func15 rfl Tryz.ntmps15 rfl ?_
  refine W_cs (.a 2 rfl <| .k [1] rfl) ?_
  refine W_csK 2 (.raw (.bool (q1 || q2))) [] rfl ?_ ?_
  · refine .a 3 rfl <| .v (y_q rfl (h1)) rfl <| .a 1 rfl <| ?_
    cases q1
    · exact .a 4 rfl <| .v (y_q rfl (h2)) rfl <| .a 2 rfl <| .k [2] rfl
    · exact .a 7 rfl <| .k [2] rfl
  refine W_ret ?_
  exact ⟨_, _, ResL.of rfl, Pur.pure, rfl⟩
set_option maxRecDepth 10000 in
set_option maxHeartbeats 1000000 in
theorem square30_can : Can Tryz.prog 49 [] (· = topoV ringT) := by
  refine can_of Tryz.func49 rfl Tryz.ntmps49 rfl ?_
  refine W_rs ?_
  refine WR_a 1 rfl <| WR_k [0] rfl ?_
  refine W_rs ?_
  refine WR_a 3 rfl <| WR_k [0, 1] rfl ?_
  refine W_adoptCell 1 2 72 7 rfl rfl ?_
  refine W_seq ?_
  refine W_cs (.a 1 rfl <| .k [0, 1, 4] rfl) ?_
  refine W_block ?_
  refine W_k [0, 1, 4] rfl ?_
  refine W_loop (fun r s => ∃ k, k ≤ 4 ∧ r = 4 - k ∧ s = ⟨[(0, .ptr 0 0), (1, .ptr 1 0), (4, num k)], [some (.cells 25 [num 0, .raw (.slice none 0 0), .raw (.slice none 0 0)]), some (.cells 25 [num 4, .raw (.slice none 0 0), .own 2]), some (.row 72 7 k (lnksP (ringL k)))]⟩) 4 ⟨0, by omega, by omega, rfl⟩ ?_
  rintro r s ⟨k, hk, rfl, rfl⟩
  refine W_cs (.a 1 rfl <| .k [0, 1, 4, 5] rfl) ?_
  refine W_seq ?_
  refine W_cond rfl (fun hc => ?_) (fun hc => ?_)
  · have hlt : k < 4 := by have := of_decide_eq_true hc; omega
    refine W_skip ?_
    refine W_seq ?_
    refine W_block ?_
    refine W_cs (.a 2 rfl <| .k [0, 1, 2, 4] rfl) ?_
    refine W_region ?_
    refine WR_a 4 rfl <| WR_v (y_ar rfl) rfl <| WR_v (y_rem rfl rfl rfl (by decide) ((show ((k : Int) + 1).tmod 4 = (((k + 1) % 4 : Nat) : Int) by rw [Int.tmod_eq_emod_of_nonneg (by omega)]; omega))) rfl <| WR_v (y_build2 rfl (show Tryz.prog.built 70 [(0, .int .i64 1), (1, .int .i64 1)] = some #[.int .i64 1, .int .i64 1] by kernel_rfl)) rfl <| WR_a 2 rfl <| WR_l (l_append rfl (fok.rk.get rfl) rfl rfl rfl rfl (by unfold maxLen; omega)) rfl <| WR_a 2 rfl ?_
    refine WR_ren [0, 1, 3] (.c 0 <| .c 1 <| .c 4 <| .nil) (.kept rfl (.cells (RenL.c <| RenL.c <| RenL.c <| RenL.nil)) <| .kept rfl (.cells (RenL.c <| RenL.c <| RenL.c <| RenL.nil)) <| .kept rfl (.rowP rfl (show _ = lnksP (ringL (k + 1)) by rw [ringL_step]; exact lnksP_snoc _ ⟨(k : Int), (((k + 1) % 4 : Nat) : Int), 1, 1, 0, 1, 0⟩)) <| .nil) rfl rfl (WR_nil ?_)
    refine W_chain (.v (y_ar rfl) rfl <| .a 1 rfl <| .k [0, 1, 4] rfl) ?_
    exact ⟨4 - (k + 1), by omega, k + 1, by omega, rfl, rfl⟩
  · have hke : k = 4 := by have := of_decide_eq_false hc; omega
    subst hke
    refine W_exit ?_
    refine W_rs ?_
    refine WR_a 2 rfl <| WR_k [0] rfl ?_
    refine W_ret ?_
    exact ⟨_, _, ResL.of rfl, Pur.aggL (PurL.cons Pur.pure <| PurL.cons Pur.nils <| PurL.cons (Pur.ownL rfl PurL.pure) PurL.nil), rfl⟩
theorem rsame_yes (L : List Int) : Can Tryz.prog 25 [intsV L, intsV L] (· = flag true) := by
  have h := rsame_can L L
  rw [show sameB L L = true from decide_eq_true rfl] at h
  exact h
theorem ring_trnE : trnE ringT 1 0 3 = 0 := by kernel_rfl
set_option maxRecDepth 10000 in
set_option maxHeartbeats 1000000 in
theorem awake30_can : Can Tryz.prog 14 [] (· = flag true) := by
  have hA := ttab_can ringT 1 0 3 (by decide)
  rw [ring_trnE, ring_mask, show ((3 : Int).toNat) = 3 from rfl, ring_trn] at hA
  have hB := tfin_can ringT 1 0 3
  rw [ring_trnE, ring_mask, show ((3 : Int).toNat) = 3 from rfl, ring_fin] at hB
  have hC := told_can ringT 3
  rw [show chkE ringT [] [3] = 0 by kernel_rfl, show ((3 : Int).toNat) = 3 from rfl, ring_old] at hC
  have ht := tlist_can [2, 1] (by decide) (by decide)
  refine can_of Tryz.func14 rfl Tryz.ntmps14 rfl ?_
  refine W_cs (.a 1 rfl <| .k [] rfl) ?_
  refine W_rs ?_
  refine WR_a 3 rfl <| WR_k [1] rfl ?_
  refine W_grds 20 2 [[some (.cells 27 [num 1, num 0])], [some (.cells 27 [num 1, num 0]), some (.cells 35 [num 0, .raw (.slice none 0 0), .raw (.slice none 0 0)])], [some (.cells 27 [num 1, num 0]), some (.cells 35 (tabP ringA))]] [⟨_, none, 0, 1⟩, ⟨_, none, 0, 1⟩, ⟨_, none, 0, 1⟩, ⟨_, none, 0, 1⟩, ⟨_, none, 0, 1⟩, ⟨_, none, 0, 2⟩, ⟨_, some 0, 0, 0⟩, ⟨_, some 1, 0, 0⟩, ⟨_, none, 2, 2⟩] _ mixed ?grdB rfl rfl rfl rfl (.cons (.val [] rfl rfl (yz (ya1 (y_c rfl (square30_can)) (ya1 (y_c rfl (square30_can)) ya0))) rfl rfl) <| .cons (.val [1] rfl rfl (yz (ya1 (y_a rfl) (ya1 (y_a rfl) ya0))) rfl rfl) <| .cons (.val [10, 11] rfl rfl (yz (ya1 (y_c rfl (hA)) (ya1 (y_c rfl (hA)) ya0))) rfl rfl) <| .cons (.val [12] rfl rfl (yz (ya1 (y_a rfl) (ya1 (y_a rfl) ya0))) rfl rfl) <| .cons (.val [9] rfl rfl (yz (ya1 (y_a rfl) (ya1 (y_a rfl) ya0))) rfl rfl) <| .cons (.val [9] rfl rfl (yz (ya1 (y_a rfl) (ya1 (y_a rfl) (ya1 (y_a rfl) ya0)))) rfl rfl) <| .cons (.loud [] rfl rfl rfl rfl (l_a rfl) rfl rfl) <| .cons (.loud0 [2, 13] rfl rfl rfl rfl (l_a rfl) rfl) <| .cons (.val [14] rfl rfl (yz (ya1 (y_a rfl) ya0)) rfl rfl) .nil) (keepT_sub (ks := [1, 2, 3]) rfl) ?_
  case grdB => kernel_rfl
  refine W_grds 20 2 [[some (.cells 27 [num 1, num 0]), some (.cells 35 (tabP ringA))], [some (.cells 27 [num 1, num 0]), some (.cells 35 (tabP ringA)), some (.cells 35 [num 0, .raw (.slice none 0 0), .raw (.slice none 0 0)])], [some (.cells 27 [num 1, num 0]), some (.cells 35 (tabP ringA)), some (.cells 35 (tabP ringB))]] [⟨_, none, 0, 1⟩, ⟨_, none, 0, 1⟩, ⟨_, none, 0, 1⟩, ⟨_, none, 0, 1⟩, ⟨_, none, 0, 1⟩, ⟨_, none, 0, 2⟩, ⟨_, some 0, 0, 0⟩, ⟨_, some 1, 0, 0⟩, ⟨_, none, 2, 2⟩] _ mixed ?grdB rfl rfl rfl rfl (.cons (.val [] rfl rfl (yz (ya1 (y_c rfl (square30_can)) (ya1 (y_c rfl (square30_can)) ya0))) rfl rfl) <| .cons (.val [1] rfl rfl (yz (ya1 (y_a rfl) (ya1 (y_a rfl) ya0))) rfl rfl) <| .cons (.val [16, 17] rfl rfl (yz (ya1 (y_c rfl (hB)) (ya1 (y_c rfl (hB)) ya0))) rfl rfl) <| .cons (.val [18] rfl rfl (yz (ya1 (y_a rfl) (ya1 (y_a rfl) ya0))) rfl rfl) <| .cons (.val [15] rfl rfl (yz (ya1 (y_a rfl) (ya1 (y_a rfl) ya0))) rfl rfl) <| .cons (.val [15] rfl rfl (yz (ya1 (y_a rfl) (ya1 (y_a rfl) (ya1 (y_a rfl) ya0)))) rfl rfl) <| .cons (.loud [] rfl rfl rfl rfl (l_a rfl) rfl rfl) <| .cons (.loud0 [4, 19] rfl rfl rfl rfl (l_a rfl) rfl) <| .cons (.val [20] rfl rfl (yz (ya1 (y_a rfl) ya0)) rfl rfl) .nil) (keepT_sub (ks := [2, 3, 4, 5]) rfl) ?_
  case grdB => kernel_rfl
  refine W_rs ?_
  refine WR_c rfl (square30_can) rfl <| WR_c rfl (hC) rfl <| WR_a 6 rfl <| WR_k [2, 3, 4, 5, 6, 7] rfl ?_
  refine W_seq ?_
  refine W_csK 53 (.raw (.bool (false))) [2, 4, 6] rfl ?_ ?_
  · exact .a 28 rfl <| .k [53, 2, 4, 6] rfl
  refine W_cond rfl (fun h => ?_) (fun h => ?_)
  · exact absurd h (by decide)
  · clear h
    refine W_skip ?_
    refine W_csK 0 (.raw (.bool (true))) [] rfl ?_ ?_
    · exact .a 2 rfl <| .v (y_ix (3) rfl (by omega) (by decide)) rfl <| .a 1 rfl <| .v (y_ld rfl ((show _ = some (segsV (nodeS [2, 1])) from rfl))) rfl <| .c rfl (ht) rfl <| .v (y_strEql rfl rfl rfl (beq_self_eq_true (ByteArray.toList ⟨[110, 50, 32, 110, 49].toArray⟩))) rfl <| .a 3 rfl <| .v (y_ix (3) rfl (by omega) (by decide)) rfl <| .a 1 rfl <| .v (y_ld rfl ((show _ = some (intsV [5]) from rfl))) rfl <| .a 1 rfl <| .c rfl (rsame_yes [5]) rfl <| .a 4 rfl <| .v (y_ix (3) rfl (by omega) (by decide)) rfl <| .a 1 rfl <| .v (y_ld rfl ((show _ = some (intsV [5]) from rfl))) rfl <| .a 1 rfl <| .c rfl (rsame_yes [5]) rfl <| .a 4 rfl <| .v (y_ix (3) rfl (by omega) (by decide)) rfl <| .a 1 rfl <| .v (y_ld rfl ((show _ = some (intsV [5, 6]) from rfl))) rfl <| .a 1 rfl <| .c rfl (rsame_yes [5, 6]) rfl <| .a 2 rfl <| .k [0] rfl
    refine W_ret ?_
    exact ⟨_, _, ResL.of rfl, Pur.pure, rfl⟩
theorem rtab_yes (x : Tab) : Can Tryz.prog 22 [tabV x, tabV x] (· = flag true) := by
  have h := rtab_can x x
  rw [decide_eq_true rfl] at h
  exact h
set_option maxRecDepth 10000 in
set_option maxHeartbeats 1000000 in
theorem lawTTables_can (c : Q30) : Can Tryz.prog 3 [q30V c] (· = flag true) := by
  obtain ⟨w1, hw1⟩ : ∃ q, q = true := ⟨_, rfl⟩
  have haw : Can Tryz.prog 14 [] (· = flag w1) := hw1 ▸ awake30_can
  obtain ⟨w2, hw2⟩ : ∃ q, tooBig c.T = q := ⟨_, rfl⟩
  refine can_of Tryz.func3 rfl Tryz.ntmps3 rfl ?_
  refine W_cs (.a 2 rfl <| .k [1] rfl) ?_
  refine W_seq ?_
  refine W_csK 20 (.raw (.bool ((!w1) || w2))) [1] rfl ?_ ?_
  · refine .c rfl (haw) rfl <| .a 2 rfl <| ?_
    cases w1
    · exact .a 3 rfl <| .k [20, 1] rfl
    · exact .a 1 rfl <| .c rfl (hw2 ▸ large30_can c) rfl <| .a 1 rfl <| .k [20, 1] rfl
  refine W_cond rfl (fun hc => ?_) (fun hc => ?_)
  · skip
    refine W_cs (.c rfl (awake30_can) rfl <| .a 1 rfl <| .k [2] rfl) ?_
    refine W_ret ?_
    exact ⟨_, _, ResL.of rfl, Pur.pure, rfl⟩
  · have hy : tooBig c.T = false := by rw [hw2]; exact (Bool.or_eq_false_iff.1 hc).2
    obtain ⟨s1, s2⟩ := not_big hy
    have hA := told_can c.T c.n
    have hA' := rtold_can c.T c.n
    have hB := ttab_can c.T c.k c.x c.n s1
    have hB' := rtrn_can c.T c.k c.x c.n s1
    have hC := tfin_can c.T c.k c.x c.n
    have hC' := rtfin_can c.T c.k c.x c.n
    unfold tabE at hA hA' hB hB' hC hC'
    rw [show (if maskE c.T c.k c.x = 0 then (if nodeB c.T c.n = true then (0 : Int) else 2) else 1) = trnE c.T c.k c.x c.n from rfl] at hB'
    obtain ⟨tA, htA⟩ : ∃ t, (if chkE c.T [] [c.n] = 0 then routesT c.T [] c.n.toNat else ⟨0, [], []⟩) = t := ⟨_, rfl⟩
    obtain ⟨tB, htB⟩ : ∃ t, (if trnE c.T c.k c.x c.n = 0 then trnT c.T (maskL c.T c.k c.x) c.n.toNat else ⟨0, [], []⟩) = t := ⟨_, rfl⟩
    obtain ⟨tC, htC⟩ : ∃ t, (if trnE c.T c.k c.x c.n = 0 then routesT c.T (maskL c.T c.k c.x) c.n.toNat else ⟨0, [], []⟩) = t := ⟨_, rfl⟩
    rw [htA] at hA hA'
    rw [htB] at hB hB'
    rw [htC] at hC hC'
    obtain ⟨q1, h1⟩ : ∃ q, decide (chkE c.T [] [c.n] = chkE c.T [] [c.n]) = q := ⟨_, rfl⟩
    obtain ⟨q2, h2⟩ : ∃ q, decide (trnE c.T c.k c.x c.n = trnE c.T c.k c.x c.n) = q := ⟨_, rfl⟩
    have e1 : q1 = true := by rw [← h1]; exact decide_eq_true rfl
    have e2 : q2 = true := by rw [← h2]; exact decide_eq_true rfl
    obtain ⟨q3, h3⟩ : ∃ q, q = true := ⟨_, rfl⟩
    have hsA := rtab_yes tA
    have hsB := rtab_yes tB
    have hsC := rtab_yes tC
    rw [← h3] at hsA hsB hsC
    refine W_skip ?_
    refine W_rs ?_
    refine WR_a 4 rfl <| WR_c rfl (hA) rfl <| WR_a 6 rfl <| WR_k [1, 3, 4] rfl ?_
    refine W_rs ?_
    refine WR_a 4 rfl <| WR_c rfl (hA') rfl <| WR_a 6 rfl <| WR_k [1, 3, 4, 5, 6] rfl ?_
    refine W_rs ?_
    refine WR_a 6 rfl <| WR_c rfl (hB) rfl <| WR_a 6 rfl <| WR_k [1, 3, 4, 5, 6, 7, 8] rfl ?_
    refine W_rs ?_
    refine WR_a 6 rfl <| WR_c rfl (hB') rfl <| WR_a 6 rfl <| WR_k [1, 3, 4, 5, 6, 7, 8, 9, 10] rfl ?_
    refine W_rs ?_
    refine WR_a 6 rfl <| WR_c rfl (hC) rfl <| WR_a 6 rfl <| WR_k [1, 3, 4, 5, 6, 7, 8, 9, 10, 11, 12] rfl ?_
    refine W_rs ?_
    refine WR_a 6 rfl <| WR_c rfl (hC') rfl <| WR_a 6 rfl <| WR_k [3, 4, 5, 6, 7, 8, 9, 10, 11, 12, 13, 14] rfl ?_
    refine W_csK 2 (.raw (.bool (((((q1 && q2) && q2) && q3) && q3) && q3))) [] rfl ?_ ?_
    · refine .a 2 rfl <| .v (y_q rfl (h1)) rfl <| .a 1 rfl <| ?_
      cases q1
      · exact .a 25 rfl <| .k [2] rfl
      · refine .a 2 rfl <| .v (y_q rfl (h2)) rfl <| .a 2 rfl <| ?_
        cases q2
        · exact .a 20 rfl <| .k [2] rfl
        · refine .a 2 rfl <| .v (y_q rfl (h2)) rfl <| .a 4 rfl <| .c rfl (hsA) rfl <| .a 2 rfl <| ?_
          cases q3
          · exact .a 10 rfl <| .k [2] rfl
          · exact .a 2 rfl <| .c rfl (hsB) rfl <| .a 4 rfl <| .c rfl (hsC) rfl <| .a 2 rfl <| .k [2] rfl
    refine W_ret ?_
    exact ⟨_, _, ResL.of rfl, Pur.pure, by rw [e1, e2, h3]; rfl⟩
end PW
end Go.Proofs.YtbpgndbjbaoolaaGreat
