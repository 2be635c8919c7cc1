/- TableNearer returns true for every input: each arc of an entry for d is not down, and leads to a node that is nearer to d by its cost; a node from which d can be reached has such an arc. No conditions. -/
import Derived.Test.YtkaalpdfppbdeaaDoorCardNB9
/- Package table: Routes. -/
namespace Go.Proofs.YtkaalpdfppbdeaaDoor
set_option linter.unusedVariables false
set_option linter.unusedSimpArgs false
namespace PW
open Go.RowKit Reg Mem Net

set_option maxRecDepth 10000 in
set_option maxHeartbeats 1000000 in
theorem routes_can (T : Topo) (D : List Bool) (n : Int) : Can Tryd.prog 11 [topoV T, boolsV D, num n] (· = .tuple [tabV (routesE T D n), num (chkE T D [n])]) := by
  refine can_of Tryd.func11 rfl Tryd.ntmps11 rfl ?_
  refine W_rs ?_
  refine WR_a 3 rfl <| WR_k [1, 2, 3, 6] rfl ?_
  refine W_seq ?_
  obtain ⟨q1, hq1⟩ : ∃ q, validB T = q := ⟨_, rfl⟩
  obtain ⟨q2, hq2⟩ : ∃ q, fitsB T D = q := ⟨_, rfl⟩
  refine W_csK 22 (.raw (.bool ((!q1) || (!q2)))) [1, 2, 3, 6] rfl ?_ ?_
  · refine .a 1 rfl <| .c rfl (hq1 ▸ valid_can T) rfl <| .a 2 rfl <| ?_
    cases q1
    · exact .a 5 rfl <| .k [22, 1, 2, 3, 6] rfl
    · exact .a 2 rfl <| .c rfl (hq2 ▸ fits_can T D (by have := links_le hq1; omega)) rfl <| .a 2 rfl <| .k [22, 1, 2, 3, 6] rfl
  refine W_cond rfl (fun hc => ?_) (fun hc => ?_)
  · have hch : chkE T D [n] = 1 := by
      unfold chkE
      rw [hq1, hq2, if_neg]
      revert hc
      cases q1 <;> cases q2 <;> simp
    refine W_rs ?_
    refine WR_a 3 rfl <| WR_k [6, 7] rfl ?_
    refine W_ret ?_
    exact ⟨_, _, ResL.of rfl, Pur.tupleL (PurL.cons (Pur.aggL (PurL.cons Pur.pure <| PurL.cons Pur.nils <| PurL.cons Pur.nils PurL.nil)) (PurL.cons Pur.pure PurL.nil)), by unfold routesE; rw [hch]; rfl⟩
  · have hok : (validB T && fitsB T D) = true := by
      rw [hq1, hq2]
      revert hc
      cases q1 <;> cases q2 <;> simp
    clear hc hq1 hq2
    refine W_skip ?_
    refine W_seq ?_
    refine W_cs (.a 2 rfl <| .c rfl (node_can T n) rfl <| .a 1 rfl <| .k [1, 2, 3, 6, 27] rfl) ?_
    refine W_cond rfl (fun hc => ?_) (fun hc => ?_)
    · have hn : nodeB T n = false := by revert hc; cases nodeB T n <;> simp
      have hch : chkE T D [n] = 2 := by
        unfold chkE
        rw [if_pos hok, if_neg]
        simp [hn]
      refine W_rs ?_
      refine WR_a 3 rfl <| WR_k [6, 7] rfl ?_
      refine W_ret ?_
      exact ⟨_, _, ResL.of rfl, Pur.tupleL (PurL.cons (Pur.aggL (PurL.cons Pur.pure <| PurL.cons Pur.nils <| PurL.cons Pur.nils PurL.nil)) (PurL.cons Pur.pure PurL.nil)), by unfold routesE; rw [hch]; rfl⟩
    · have hn : nodeB T n = true := by revert hc; cases nodeB T n <;> simp
      have hch : chkE T D [n] = 0 := by
        unfold chkE
        rw [if_pos hok, if_pos]
        simp [hn]
      obtain ⟨hv, hf⟩ := Bool.and_eq_true_iff.1 hok
      rw [nodeB_iff] at hn
      obtain ⟨m, rfl⟩ := Int.eq_ofNat_of_zero_le hn.1
      obtain ⟨N, hN⟩ : ∃ N : Nat, T.nodes = (N : Int) := ⟨T.nodes.toNat, by omega⟩
      have hN64 : N ≤ 64 := by have := (sound_of hv).nodes; omega
      have hll := links_le hv
      refine W_skip ?_
      refine W_rs ?_
      refine WR_a 4 rfl <| WR_k [1, 2, 3, 6, 8] rfl ?_
      refine W_adoptCell 1 1 40 3 rfl rfl ?_
      refine W_adoptCell 1 2 3 1 rfl rfl ?_
      refine W_seq ?_
      refine W_cs (.a 1 rfl <| .v (y_ld rfl ((show some (num T.nodes) = some (num (N : Int)) by rw [hN]))) rfl <| .a 1 rfl <| .k [1, 2, 3, 6, 8, 32, 33] rfl) ?_
      refine W_block ?_
      refine W_k [1, 2, 3, 6, 8, 32, 33] rfl ?_
      refine W_loop (fun r s => ∃ j, j ≤ N ∧ r = N - j ∧ s = ⟨[(1, boolsV D), (2, num m), (3, .pin (topoP T) 0), (6, .ptr 0 0), (8, .ptr 1 0), (32, num N), (33, num j)], [some (.cells 31 [num 0, .raw (.slice none 0 0), .raw (.slice none 0 0)]), some (.cells 31 [num m, .own 2, .own 3]), some (.row 40 3 j (entsP (toL T D m j))), some (.row 3 1 0 [])]⟩) N ⟨0, by omega, by omega, rfl⟩ ?_
      rintro r s ⟨j, hj, rfl, rfl⟩
      refine W_cs (.a 1 rfl <| .k [1, 2, 3, 6, 8, 32, 33, 34] rfl) ?_
      refine W_seq ?_
      refine W_cond rfl (fun hc => ?_) (fun hc => ?_)
      · have hlt : j < N := by have := of_decide_eq_true hc; omega
        have hne : nodeE T D (m : Int) (j : Int) = 0 := by
          have hnb : nodeB T (j : Int) = true := nodeB_iff.2 ⟨by omega, by omega⟩
          have hch' : chkE T D [(j : Int)] = 0 := by
            unfold chkE
            rw [if_pos hok, if_pos]
            simp [hnb]
          unfold nodeE
          rw [if_pos hch', if_pos (nodeB_iff.2 hn)]
        have hnx : Can Tryd.prog 30 [topoV T, boolsV D, num m, num j] (· = .tuple [intsV (nextL T D m j), num 0]) := by
          have h := next_can T D (m : Int) (j : Int)
          rw [hne] at h
          exact h
        refine W_skip ?_
        refine W_seq ?_
        refine W_block ?_
        refine W_cs (.a 2 rfl <| .k [1, 2, 3, 6, 8, 9, 32, 33] rfl) ?_
        refine W_cs (.a 4 rfl <| .c rfl (hnx) rfl <| .a 5 rfl <| .k [1, 2, 3, 6, 8, 10, 32, 33] rfl) ?_
        refine W_region ?_
        refine WR_a 3 rfl <| WR_v (y_le (y_build (xs := [_, _, _]) rfl (fok.st.get rfl) rfl rfl) (PLe.aggL (.cons (PLe.refl _) <| .cons (PLe.refl _) <| .cons PLe.nils .nil))) rfl <| WR_a 1 rfl <| WR_l (l_append rfl (fok.rk.get rfl) rfl rfl rfl rfl (by unfold maxLen; omega)) rfl <| WR_a 2 rfl ?_
        refine WR_ren [0, 1, 4, 3] (.c 1 <| .c 2 <| .c 3 <| .c 6 <| .c 8 <| .c 32 <| .c 33 <| .nil) (.kept rfl (.cells (RenL.c <| RenL.c <| RenL.c <| RenL.nil)) <| .kept rfl (.cells (RenL.c <| RenL.c <| RenL.c <| RenL.nil)) <| .kept rfl (.rowP rfl (show _ = entsP (toL T D m (j + 1)) by rw [toL_step]; exact entsP_snoc _ ⟨nextL T D m j, false, []⟩)) <| .kept rfl (.row RenL.pure) <| .nil) rfl rfl (WR_nil ?_)
        refine W_chain (.v (y_ar rfl) rfl <| .a 1 rfl <| .k [1, 2, 3, 6, 8, 32, 33] rfl) ?_
        exact ⟨N - (j + 1), by omega, j + 1, by omega, rfl, rfl⟩
      · have hje : j = N := by have := of_decide_eq_false hc; omega
        subst hje
        refine W_exit ?_
        refine W_seq ?_
        have hol : (outL T m).length ≤ 512 := Nat.le_trans (outTo_len T m _) (by omega)
        refine W_cs (.a 2 rfl <| .c rfl (out_can T hll _) rfl <| .a 2 rfl <| .k [1, 6, 8, 54, 55, 56] rfl) ?_
        refine W_block ?_
        refine W_k [1, 6, 8, 54, 55, 56] rfl ?_
        refine W_loop (fun r s => ∃ i, i ≤ (outL T m).length ∧ r = (outL T m).length - i ∧ s = ⟨[(1, boolsV D), (6, .ptr 0 0), (8, .ptr 1 0), (54, intsV (outL T m)), (55, num (outL T m).length), (56, num i)], [some (.cells 31 [num 0, .raw (.slice none 0 0), .raw (.slice none 0 0)]), some (.cells 31 [num m, .own 2, .own 3]), some (.row 40 3 j (entsP (toL T D m j))), some (.row 3 1 (downL D ((outL T m).take i)).length (intsP (downL D ((outL T m).take i))))]⟩) (outL T m).length ⟨0, by omega, by omega, rfl⟩ ?_
        rintro r s ⟨i, hi, rfl, rfl⟩
        refine W_cs (.a 1 rfl <| .k [1, 6, 8, 54, 55, 56, 57] rfl) ?_
        refine W_seq ?_
        refine W_cond rfl (fun hc => ?_) (fun hc => ?_)
        · have hlt : i < (outL T m).length := by have := of_decide_eq_true hc; omega
          obtain ⟨h0, h1⟩ := outL_mem (getD_mem (d := 0) hlt)
          obtain ⟨a, ha⟩ := Int.eq_ofNat_of_zero_le h0
          have hDl : D.length = 0 ∨ a < D.length := by simp only [fitsB, decide_eq_true_eq] at hf; omega
          have hstep : downL D ((outL T m).take (i + 1)) = downL D ((outL T m).take i) ++ (if downN D a then [(a : Int)] else []) := by
            unfold downL
            rw [take_step _ i 0 hlt, List.filter_append, ha]
            simp only [List.filter_cons, List.filter_nil, Int.toNat_natCast]
          have hdl : (downL D ((outL T m).take i)).length ≤ 1000 := Nat.le_trans (List.length_filter_le _ _) (by rw [List.length_take]; have := outTo_len T m (2 * T.links.length); unfold outL at *; omega)
          refine W_skip ?_
          refine W_seq ?_
          refine W_block ?_
          refine W_cs (.v (y_ix (i) rfl) rfl <| .v (y_ld rfl ((ints_get _ i hlt).trans (by rw [ha]))) rfl <| .a 1 rfl <| .k [1, 6, 8, 13, 54, 55, 56] rfl) ?_
          refine W_cs (.a 2 rfl <| .c rfl (down_can D a hDl) rfl <| .k [1, 6, 8, 13, 54, 55, 56, 62] rfl) ?_
          refine W_cond rfl (fun hcd => ?_) (fun hcd => ?_)
          · rw [hcd, if_pos rfl] at hstep
            refine W_region ?_
            refine WR_a 4 rfl <| WR_l (l_append rfl (fok.rk.get rfl) rfl rfl rfl rfl (by unfold maxLen; omega)) rfl <| WR_a 2 rfl ?_
            refine WR_ren [0, 1, 2, 4] (.c 1 <| .c 6 <| .c 8 <| .c 54 <| .c 55 <| .c 56 <| .nil) (.kept rfl (.cells (RenL.c <| RenL.c <| RenL.c <| RenL.nil)) <| .kept rfl (.cells (RenL.c <| RenL.c <| RenL.c <| RenL.nil)) <| .kept rfl (.row RenL.pure) <| .kept rfl (.rowP rfl (intsP_snoc _ _)) <| .nil) rfl rfl (WR_nil ?_)
            refine W_chain (.v (y_ar rfl) rfl <| .a 1 rfl <| .k [1, 6, 8, 54, 55, 56] rfl) ?_
            refine ⟨(outL T m).length - (i + 1), by omega, i + 1, by omega, rfl, ?_⟩
            rw [hstep]
            first
              | rfl
              | (simp only [List.length_append, List.length_singleton]; rfl)
          · rw [hcd, if_neg (by simp), List.append_nil] at hstep
            refine W_skip ?_
            refine W_chain (.v (y_ar rfl) rfl <| .a 1 rfl <| .k [1, 6, 8, 54, 55, 56] rfl) ?_
            refine ⟨(outL T m).length - (i + 1), by omega, i + 1, by omega, rfl, ?_⟩
            rw [hstep]
            first
              | rfl
              | (simp only [List.length_append, List.length_singleton]; rfl)
        · have hie : i = (outL T m).length := by have := of_decide_eq_false hc; omega
          subst hie
          refine W_exit ?_
          refine W_rs ?_
          refine WR_v (y_loadPtrAgg (ys := [num m, .own 2, .own 3]) rfl (fok.tk.get rfl) rfl rfl rfl rfl) rfl <| WR_a 2 rfl <| WR_k [6, 7] rfl ?_
          refine W_ret ?_
          refine ⟨_, _, ResL.of rfl, Pur.tupleL (PurL.cons (Pur.aggL (PurL.cons Pur.pure <| PurL.cons (Pur.ownL rfl PurL.pure) <| PurL.cons (Pur.ownL rfl PurL.pure) PurL.nil)) (PurL.cons Pur.pure PurL.nil)), ?_⟩
          unfold routesE
          rw [hch, if_pos rfl, List.take_length]
          unfold routesT tabV tabP entsV intsV
          rw [toL_len, show T.nodes.toNat = j by omega]
          rfl
end PW
end Go.Proofs.YtkaalpdfppbdeaaDoor

/- The laws on tables: awake, large. -/
namespace Go.Proofs.YtkaalpdfppbdeaaDoor
set_option linter.unusedVariables false
set_option linter.unusedSimpArgs false
namespace PW
open Go.RowKit Reg Mem Net

theorem lnksP_snoc (l : List Lnk) (e : Lnk) : lnksP l ++ lnkP e = lnksP (l ++ [e]) := by simp [lnksP]
theorem ringL_step (k : Nat) : ringL (k + 1) = ringL k ++ [⟨(k : Int), (((k + 1) % 4 : Nat) : Int), 1, 1, 0, 1, 0⟩] := by simp [ringL, List.range_succ]
/-- A pair of constants. -/
theorem y_build2 {P : Program} {σ : Sto} {t : Tms} {o : Oper} {ty : TypeId} {v0 v1 c0 c1 : Value} (ho : o.op = .build ty #[(0, .const v0), (1, .const v1)]) (hb : P.built ty [(0, v0), (1, v1)] = some #[c0, c1]) : Yield P σ t o (.agg [.raw c0, .raw c1]) := by
  intro F base E ρ w hρ hS hT
  have hrun := run_build (P := P) w ty #[(0, v0), (1, v1)] #[c0, c1] hb
  have h0 : ρ (.const v0) = v0 := hρ.const v0
  have h1 : ρ (.const v1) = v1 := hρ.const v1
  have hr : (execOp ρ o).run P w = .ok (.value (.agg #[c0, c1])) w := by
    simp only [execOp, ho, Sem.run_bind, List.map_toArray, List.map_cons, List.map_nil, h0, h1, hrun, Result.andThen_ok, Sem.run_pure]
  rw [hr]
  refine upon_val (.agg #[c0, c1] _ rfl (fun i x u k1 k2 => ?_))
  match i, k1, k2 with
  | 0, k1, k2 => simp at k1 k2; subst k1; subst k2; exact .raw _
  | 1, k1, k2 => simp at k1 k2; subst k1; subst k2; exact .raw _
  | _ + 2, k1, k2 => simp at k2
theorem ring_small : Small ringTab := by
  refine ⟨by decide, by decide, fun e he => ?_, by decide, fun a ha => by cases ha⟩
  simp [ringTab] at he
  rcases he with rfl | rfl | rfl | rfl <;> simp
theorem ring_len1 : (List.range 5).all (fun k => Nat.ble ((lineL [[116, 97, 98, 108, 101], Lib.decDigits ringTab.node.toNat]).length + (entsT ringTab.ents k).length) 100000000) = true := by kernel_rfl
theorem ring_len2 : (List.range 4).all (fun d => Nat.ble (lineL ([[116, 111], Lib.decDigits d, [111, 118, 101, 114]] ++ numsT (ringTab.ents.getD d ⟨[], false, []⟩).arcs)).length 100000000) = true := by kernel_rfl
theorem ring_len3 : Nat.ble (lineL ([100, 111, 119, 110] :: numsT ringTab.down)).length 100000000 = true := by kernel_rfl
theorem ring_text_can : Can Tryd.prog 16 [tabV ringTab] (· = strV ringBytes) := by
  rw [← ring_text]
  refine text_small ringTab ring_small (fun k hk => ?_) (fun d e he => ?_) (Nat.le_of_ble_eq_true ring_len3)
  · have h4 : k ≤ 4 := hk
    exact Nat.le_of_ble_eq_true (List.all_eq_true.1 ring_len1 k (List.mem_range.2 (by omega)))
  · have hd : d < ringTab.ents.length := (List.getElem?_eq_some_iff.1 he).1
    have h4 : d < 4 := hd
    have h := Nat.le_of_ble_eq_true (List.all_eq_true.1 ring_len2 d (List.mem_range.2 h4))
    rw [show ringTab.ents.getD d ⟨[], false, []⟩ = e by rw [List.getD_eq_getElem?_getD, he]; rfl] at h
    exact h

set_option maxRecDepth 10000 in
set_option maxHeartbeats 1000000 in
theorem awake_can : Can Tryd.prog 9 [] (· = flag true) := by
  have hro := routes_can ringT [] 0
  rw [ring_routes, show chkE ringT [] [0] = 0 by kernel_rfl] at hro
  refine can_of Tryd.func9 rfl Tryd.ntmps9 rfl ?_
  refine W_cs (.a 1 rfl <| .k [] rfl) ?_
  refine W_cs (.a 1 rfl <| .k [1] rfl) ?_
  refine W_adopt 1 56 7 rfl ?_
  refine W_seq ?_
  refine W_cs (.a 1 rfl <| .k [1, 5] rfl) ?_
  refine W_block ?_
  refine W_k [1, 5] rfl ?_
  refine W_loop (fun r s => ∃ k, k ≤ 4 ∧ r = 4 - k ∧ s = ⟨[(1, .own 0), (5, num k)], [some (.row 56 7 k (lnksP (ringL k)))]⟩) 4 ⟨0, by omega, by omega, rfl⟩ ?_
  rintro r s ⟨k, hk, rfl, rfl⟩
  refine W_cs (.a 1 rfl <| .k [1, 5, 6] rfl) ?_
  refine W_seq ?_
  refine W_cond rfl (fun hc => ?_) (fun hc => ?_)
  · have hlt : k < 4 := by have := of_decide_eq_true hc; omega
    refine W_skip ?_
    refine W_seq ?_
    refine W_block ?_
    refine W_cs (.a 2 rfl <| .k [1, 2, 5] rfl) ?_
    refine W_region ?_
    refine WR_a 3 rfl <| WR_v (y_ar rfl) rfl <| WR_v (y_rem rfl rfl rfl (by decide) ((show ((k : Int) + 1).tmod 4 = (((k + 1) % 4 : Nat) : Int) by rw [Int.tmod_eq_emod_of_nonneg (by omega)]; omega))) rfl <| WR_v (y_build2 rfl (show Tryd.prog.built 54 [(0, .int .i64 1), (1, .int .i64 1)] = some #[.int .i64 1, .int .i64 1] by kernel_rfl)) rfl <| WR_a 2 rfl <| WR_l (l_append rfl (fok.rk.get rfl) rfl rfl rfl rfl (by unfold maxLen; omega)) rfl <| WR_a 1 rfl ?_
    refine WR_ren [1] (.c 1 <| .c 5 <| .nil) (.kept rfl (.rowP rfl (show _ = lnksP (ringL (k + 1)) by rw [ringL_step]; exact lnksP_snoc _ ⟨(k : Int), (((k + 1) % 4 : Nat) : Int), 1, 1, 0, 1, 0⟩)) <| .nil) rfl rfl (WR_nil ?_)
    refine W_chain (.v (y_ar rfl) rfl <| .a 1 rfl <| .k [1, 5] rfl) ?_
    exact ⟨4 - (k + 1), by omega, k + 1, by omega, rfl, rfl⟩
  · have hke : k = 4 := by have := of_decide_eq_false hc; omega
    subst hke
    refine W_seal 1 0 rfl rfl ?_
    refine W_ren [] (.cons 1 rfl (Ren.pure (p := .slice 4 (lnksP (ringL 4)))) .nil) .nil rfl rfl ?_
    refine W_exit ?_
    refine W_rs ?_
    refine WR_a 2 rfl <| WR_v (y_cP rfl (PurL.cons (Pur.aggL (PurL.cons Pur.pure <| PurL.cons Pur.nils <| PurL.cons Pur.pure PurL.nil)) <| PurL.cons Pur.nils <| PurL.cons Pur.pure PurL.nil) (hro)) rfl <| WR_a 6 rfl <| WR_k [3, 4] rfl ?_
    refine W_sto (σ' := [some (.cells 31 (tabP ringTab))]) rfl ?_
    refine W_sealPtr 3 0 0 rfl rfl ?_
    refine W_ren [] (.cons 3 rfl (Ren.pure (p := .pin (tabP ringTab) 0)) <| .cons 4 rfl Ren.pure .nil) .nil rfl rfl ?_
    refine W_csK 0 (.raw (.bool (true))) [] rfl ?_ ?_
    · exact .a 4 rfl <| .c rfl (ring_text_can) rfl <| .v (y_strEql rfl rfl rfl (beq_self_eq_true (ByteArray.toList ⟨ringBytes.toArray⟩))) rfl <| .a 2 rfl <| .k [0] rfl
    refine W_ret ?_
    exact ⟨_, _, ResL.of rfl, Pur.pure, rfl⟩
end PW
end Go.Proofs.YtkaalpdfppbdeaaDoor

/- The law TableRoutes, walked. -/
namespace Go.Proofs.YtkaalpdfppbdeaaDoor
set_option linter.unusedVariables false
set_option linter.unusedSimpArgs false
namespace PW
open Go.RowKit Reg Mem Net

def largeB (T : Topo) (D : List Bool) : Bool := ((decide (100 < (T.over.length : Int)) || decide (24 < (T.links.length : Int))) || decide (100 < (D.length : Int))) || decide (16 < T.nodes)
set_option maxRecDepth 10000 in
set_option maxHeartbeats 1000000 in
theorem large_can (T : Topo) (D : List Bool) : Can Tryd.prog 10 [topoV T, boolsV D] (· = flag (largeB T D)) := by
  obtain ⟨p1, hp1⟩ : ∃ q, decide (100 < (T.over.length : Int)) = q := ⟨_, rfl⟩
  obtain ⟨p2, hp2⟩ : ∃ q, decide (24 < (T.links.length : Int)) = q := ⟨_, rfl⟩
  obtain ⟨p3, hp3⟩ : ∃ q, decide (100 < (D.length : Int)) = q := ⟨_, rfl⟩
  obtain ⟨p4, hp4⟩ : ∃ q, decide (16 < T.nodes) = q := ⟨_, rfl⟩
  have he : largeB T D = (((p1 || p2) || p3) || p4) := by unfold largeB; rw [hp1, hp2, hp3, hp4]
  rw [he]
  refine can_of Tryd.func10 rfl Tryd.ntmps10 rfl ?_
  refine W_cs (.a 2 rfl <| .k [1, 2] rfl) ?_
  refine W_csK 4 (.raw (.bool (((p1 || p2) || p3) || p4))) [] rfl ?_ ?_
  · refine .a 3 rfl <| .v (y_q rfl (hp1)) rfl <| .a 1 rfl <| ?_
    cases p1
    · refine .a 3 rfl <| .v (y_q rfl (hp2)) rfl <| .a 2 rfl <| ?_
      cases p2
      · refine .a 2 rfl <| .v (y_q rfl (hp3)) rfl <| .a 2 rfl <| ?_
        cases p3
        · exact .a 2 rfl <| .v (y_q rfl (hp4)) rfl <| .a 2 rfl <| .k [4] rfl
        · exact .a 5 rfl <| .k [4] rfl
      · exact .a 10 rfl <| .k [4] rfl
    · exact .a 16 rfl <| .k [4] rfl
  refine W_ret ?_
  exact ⟨_, _, ResL.of rfl, Pur.pure, rfl⟩

set_option maxRecDepth 10000 in
set_option maxHeartbeats 1000000 in
theorem lawRoutes_can (T : Topo) (D : List Bool) (n : Int) : Can Tryd.prog 3 [topoV T, boolsV D, num n] (· = flag true) := by
  have hsame := rtab_can (routesE T D n) (routesE T D n)
  rw [decide_eq_true rfl] at hsame
  have he : decide (chkE T D [n] = chkE T D [n]) = true := decide_eq_true rfl
  refine can_of Tryd.func3 rfl Tryd.ntmps3 rfl ?_
  refine W_cs (.a 2 rfl <| .k [1, 2, 3] rfl) ?_
  refine W_seq ?_
  refine W_cs (.c rfl (awake_can) rfl <| .a 1 rfl <| .k [1, 2, 3, 12] rfl) ?_
  refine W_cond rfl (fun hc => ?_) (fun hc => ?_)
  · cases hc
  · refine W_skip ?_
    refine W_seq ?_
    refine W_cs (.a 2 rfl <| .c rfl (large_can T D) rfl <| .k [1, 2, 3, 15] rfl) ?_
    refine W_cond rfl (fun hc => ?_) (fun hc => ?_)
    · refine W_cs (.a 1 rfl <| .k [6] rfl) ?_
      refine W_ret ?_
      exact ⟨_, _, ResL.of rfl, Pur.pure, rfl⟩
    · refine W_skip ?_
      refine W_rs ?_
      refine WR_a 3 rfl <| WR_c rfl (routes_can T D n) rfl <| WR_a 6 rfl <| WR_k [1, 2, 3, 7, 8] rfl ?_
      refine W_sto (σ' := [some (.cells 31 (tabP (routesE T D n)))]) rfl ?_
      refine W_sealPtr 7 0 0 rfl rfl ?_
      refine W_ren [] (.cons 1 rfl Ren.pure <| .cons 2 rfl Ren.pure <| .cons 3 rfl Ren.pure <| .cons 7 rfl Ren.pure <| .cons 8 rfl Ren.pure .nil) .nil rfl rfl ?_
      refine W_rs ?_
      refine WR_a 3 rfl <| WR_c rfl (rroutes_can T D n) rfl <| WR_a 6 rfl <| WR_k [7, 8, 9, 10] rfl ?_
      refine W_sto (σ' := [some (.cells 31 (tabP (routesE T D n)))]) rfl ?_
      refine W_sealPtr 9 0 0 rfl rfl ?_
      refine W_ren [] (.cons 7 rfl Ren.pure <| .cons 8 rfl Ren.pure <| .cons 9 rfl Ren.pure <| .cons 10 rfl Ren.pure .nil) .nil rfl rfl ?_
      refine W_csK 6 (.raw (.bool (true))) [] rfl ?_ ?_
      · exact .a 2 rfl <| .v (y_eql rfl rfl rfl he) rfl <| .a 3 rfl <| .c rfl (hsame) rfl <| .a 2 rfl <| .k [6] rfl
      refine W_ret ?_
      exact ⟨_, _, ResL.of rfl, Pur.pure, rfl⟩
end PW
end Go.Proofs.YtkaalpdfppbdeaaDoor

/- package table: All; the reference's. -/
namespace Go.Proofs.YtkaalpdfppbdeaaDoor
set_option linter.unusedVariables false
set_option linter.unusedSimpArgs false
namespace PW
open Go.RowKit Reg Mem Net

noncomputable def allL (T : Topo) (D : List Bool) (k : Nat) : List Tab := (List.range k).map fun n => routesT T D n
noncomputable def allE (T : Topo) (D : List Bool) : List Tab := if chkE T D [] = 0 then allL T D T.nodes.toNat else []
theorem allL_len (T : Topo) (D : List Bool) (k : Nat) : (allL T D k).length = k := by simp [allL]
theorem allL_step (T : Topo) (D : List Bool) (k : Nat) : allL T D (k + 1) = allL T D k ++ [routesT T D k] := by simp [allL, List.range_succ]
theorem chk_nil {T : Topo} {D : List Bool} (h : (validB T && fitsB T D) = true) : chkE T D [] = 0 := by unfold chkE; rw [if_pos h]; rfl
theorem chk_bad {T : Topo} {D : List Bool} {ns : List Int} (h : (validB T && fitsB T D) = false) : chkE T D ns = 1 := by unfold chkE; rw [h]; rfl
theorem chk_one {T : Topo} {D : List Bool} {n : Int} (h : (validB T && fitsB T D) = true) (hn : nodeB T n = true) : chkE T D [n] = 0 := by
  unfold chkE; rw [if_pos h, if_pos]; simp [hn]
theorem routes_ok {T : Topo} {D : List Bool} {n : Nat} (h : (validB T && fitsB T D) = true) (hn : (n : Int) < T.nodes) : routesE T D n = routesT T D n := by
  unfold routesE
  rw [chk_one h (nodeB_iff.2 ⟨by omega, hn⟩)]
  rfl
set_option maxRecDepth 10000 in
set_option maxHeartbeats 1000000 in
theorem tall_can (T : Topo) (D : List Bool) : Can Tryd.prog 25 [topoV T, boolsV D] (· = .tuple [tabsV (allE T D), num (chkE T D [])]) := by
  obtain ⟨q1, hq1⟩ : ∃ q, validB T = q := ⟨_, rfl⟩
  obtain ⟨q2, hq2⟩ : ∃ q, fitsB T D = q := ⟨_, rfl⟩
  refine can_of Tryd.func25 rfl Tryd.ntmps25 rfl ?_
  refine W_cs (.a 3 rfl <| .k [1, 2] rfl) ?_
  refine W_seq ?_
  refine W_csK 18 (.raw (.bool ((!q1) || !q2))) [1, 2] rfl ?_ ?_
  · refine .a 1 rfl <| .c rfl (hq1 ▸ valid_can T) rfl <| .a 2 rfl <| ?_
    cases q1
    · exact .a 5 rfl <| .k [18, 1, 2] rfl
    · exact .a 2 rfl <| .c rfl (hq2 ▸ fits_can T D (by have := links_le hq1; omega)) rfl <| .a 2 rfl <| .k [18, 1, 2] rfl
  refine W_cond rfl (fun hc => ?_) (fun hc => ?_)
  · have hb : (validB T && fitsB T D) = false := by rw [hq1, hq2]; revert hc; cases q1 <;> cases q2 <;> simp
    refine W_cs (.a 2 rfl <| .k [4, 5] rfl) ?_
    refine W_ret ?_
    exact ⟨_, _, ResL.of rfl, Pur.tupleL (PurL.cons Pur.nils (PurL.cons Pur.pure PurL.nil)), by unfold allE; rw [chk_bad hb]; rfl⟩
  · have hok : (validB T && fitsB T D) = true := by rw [hq1, hq2]; revert hc; cases q1 <;> cases q2 <;> simp
    have hv := (Bool.and_eq_true_iff.1 hok).1
    have hN := (sound_of hv).nodes
    obtain ⟨N, hNN⟩ : ∃ N : Nat, T.nodes = (N : Int) := ⟨T.nodes.toNat, by omega⟩
    refine W_skip ?_
    refine W_cs (.a 1 rfl <| .k [1, 2, 6] rfl) ?_
    refine W_adopt 6 31 3 rfl ?_
    refine W_seq ?_
    refine W_cs (.a 1 rfl <| .v (y_ld rfl ((show some (num T.nodes) = some (num (N : Int)) by rw [hNN]))) rfl <| .a 1 rfl <| .k [1, 2, 6, 20, 21] rfl) ?_
    refine W_block ?_
    refine W_k [1, 2, 6, 20, 21] rfl ?_
    refine W_loop (fun r s => ∃ k, k ≤ N ∧ r = N - k ∧ s = ⟨[(1, boolsV D), (2, .pin (topoP T) 0), (6, .own 0), (20, num N), (21, num k)], [some (.row 31 3 k (tabsP (allL T D k)))]⟩) N ⟨0, by omega, by omega, rfl⟩ ?_
    rintro r s ⟨k, hk, rfl, rfl⟩
    refine W_cs (.a 1 rfl <| .k [1, 2, 6, 20, 21, 22] rfl) ?_
    refine W_seq ?_
    refine W_cond rfl (fun hy => ?_) (fun hy => ?_)
    · have hlt : k < N := by have := tt hy; omega
      have hr := routes_can T D (k : Int)
      rw [routes_ok hok (by omega)] at hr
      refine W_skip ?_
      refine W_seq ?_
      refine W_block ?_
      refine W_cs (.a 2 rfl <| .k [1, 2, 6, 7, 20, 21] rfl) ?_
      refine W_rs ?_
      refine WR_a 3 rfl <| WR_c rfl (hr) rfl <| WR_a 6 rfl <| WR_k [1, 2, 6, 8, 20, 21] rfl ?_
      refine W_region ?_
      refine WR_a 3 rfl <| WR_l (l_append rfl (fok.rk.get rfl) rfl rfl rfl rfl (by unfold maxLen; omega)) rfl <| WR_a 1 rfl ?_
      refine WR_ren [2] (.c 1 <| .c 2 <| .c 6 <| .c 20 <| .c 21 <| .nil) (.kept rfl (.rowP rfl (show _ = tabsP (allL T D (k + 1)) by rw [allL_step]; exact tabsP_snoc _ _)) <| .nil) rfl rfl (WR_nil ?_)
      refine W_chain (.v (y_ar rfl) rfl <| .a 1 rfl <| .k [1, 2, 6, 20, 21] rfl) ?_
      exact ⟨N - (k + 1), by omega, k + 1, by omega, rfl, rfl⟩
    · have hke : k = N := by have := ff hy; omega
      subst hke
      refine W_exit ?_
      refine W_cs (.a 3 rfl <| .k [4, 5] rfl) ?_
      refine W_ret ?_
      refine ⟨_, _, ResL.of rfl, Pur.tupleL (PurL.cons (Pur.ownL rfl PurL.pure) (PurL.cons Pur.pure PurL.nil)), ?_⟩
      unfold allE
      rw [chk_nil hok, if_pos rfl]
      unfold tabsV
      rw [allL_len, show T.nodes.toNat = k by omega]
set_option maxRecDepth 10000 in
set_option maxHeartbeats 1000000 in
theorem rtall_can (T : Topo) (D : List Bool) : Can Tryd.prog 26 [topoV T, boolsV D] (· = .tuple [tabsV (allE T D), num (chkE T D [])]) := by
  refine can_of Tryd.func26 rfl Tryd.ntmps26 rfl ?_
  refine W_cs (.a 3 rfl <| .k [1, 2] rfl) ?_
  refine W_seq ?_
  refine W_cs (.a 2 rfl <| .c rfl (rfits_can T D) rfl <| .a 1 rfl <| .k [1, 2, 13] rfl) ?_
  refine W_cond rfl (fun hc => ?_) (fun hc => ?_)
  · have hb : (validB T && fitsB T D) = false := by revert hc; cases (validB T && fitsB T D) <;> simp
    refine W_cs (.a 2 rfl <| .k [4, 5] rfl) ?_
    refine W_ret ?_
    exact ⟨_, _, ResL.of rfl, Pur.tupleL (PurL.cons Pur.nils (PurL.cons Pur.pure PurL.nil)), by unfold allE; rw [chk_bad hb]; rfl⟩
  · have hok : (validB T && fitsB T D) = true := by simpa using hc
    have hv := (Bool.and_eq_true_iff.1 hok).1
    have hN := (sound_of hv).nodes
    obtain ⟨N, hNN⟩ : ∃ N : Nat, T.nodes = (N : Int) := ⟨T.nodes.toNat, by omega⟩
    refine W_skip ?_
    refine W_cs (.a 1 rfl <| .k [1, 2, 6] rfl) ?_
    refine W_adopt 6 31 3 rfl ?_
    refine W_seq ?_
    refine W_cs (.a 1 rfl <| .k [1, 2, 6, 7] rfl) ?_
    refine W_block ?_
    refine W_k [1, 2, 6, 7] rfl ?_
    refine W_loop (fun r s => ∃ k, k ≤ N ∧ r = N - k ∧ s = ⟨[(1, boolsV D), (2, .pin (topoP T) 0), (6, .own 0), (7, num k)], [some (.row 31 3 k (tabsP (allL T D k)))]⟩) N ⟨0, by omega, by omega, rfl⟩ ?_
    rintro r s ⟨k, hk, rfl, rfl⟩
    refine W_seq ?_
    refine W_cs (.a 2 rfl <| .v (y_ld rfl ((show some (num T.nodes) = some (num (N : Int)) by rw [hNN]))) rfl <| .a 1 rfl <| .k [1, 2, 6, 7, 17] rfl) ?_
    refine W_cond rfl (fun hy => ?_) (fun hy => ?_)
    · have hlt : k < N := by have := tt hy; omega
      have hr := rroutes_can T D (k : Int)
      rw [routes_ok hok (by omega)] at hr
      refine W_skip ?_
      refine W_seq ?_
      refine W_block ?_
      refine W_rs ?_
      refine WR_a 3 rfl <| WR_c rfl (hr) rfl <| WR_a 6 rfl <| WR_k [1, 2, 6, 7, 8] rfl ?_
      refine W_region ?_
      refine WR_a 3 rfl <| WR_l (l_append rfl (fok.rk.get rfl) rfl rfl rfl rfl (by unfold maxLen; omega)) rfl <| WR_a 1 rfl ?_
      refine WR_ren [2] (.c 1 <| .c 2 <| .c 6 <| .c 7 <| .nil) (.kept rfl (.rowP rfl (show _ = tabsP (allL T D (k + 1)) by rw [allL_step]; exact tabsP_snoc _ _)) <| .nil) rfl rfl (WR_nil ?_)
      refine W_chain (.a 1 rfl <| .v (y_ar rfl) rfl <| .a 1 rfl <| .k [1, 2, 6, 7] rfl) ?_
      exact ⟨N - (k + 1), by omega, k + 1, by omega, rfl, rfl⟩
    · have hke : k = N := by have := ff hy; omega
      subst hke
      refine W_exit ?_
      refine W_cs (.a 3 rfl <| .k [4, 5] rfl) ?_
      refine W_ret ?_
      refine ⟨_, _, ResL.of rfl, Pur.tupleL (PurL.cons (Pur.ownL rfl PurL.pure) (PurL.cons Pur.pure PurL.nil)), ?_⟩
      unfold allE
      rw [chk_nil hok, if_pos rfl]
      unfold tabsV
      rw [allL_len, show T.nodes.toNat = k by omega]
theorem all_valid {T : Topo} {D : List Bool} {k : Nat} {x : Tab} (h : (allE T D)[k]? = some x) : tabOK T x = true := by
  unfold allE at h
  split at h
  · rename_i h0
    obtain ⟨hv, _, _⟩ := chkE_zero h0
    unfold allL at h
    rw [List.getElem?_map, Option.map_eq_some_iff] at h
    obtain ⟨n, hn, rfl⟩ := h
    have := List.mem_range.1 (List.mem_of_getElem? hn)
    exact routes_valid hv (by omega)
  · simp at h
set_option maxRecDepth 10000 in
set_option maxHeartbeats 1000000 in
theorem lawAll_can (T : Topo) (D : List Bool) : Can Tryd.prog 8 [topoV T, boolsV D] (· = flag true) := by
  have h1 : decide (chkE T D [] ≠ chkE T D []) = false := by simp
  have h2 : decide (((allE T D).length : Int) ≠ ((allE T D).length : Int)) = false := by simp
  refine can_of Tryd.func8 rfl Tryd.ntmps8 rfl ?_
  refine W_cs (.a 2 rfl <| .k [1, 2] rfl) ?_
  refine W_seq ?_
  refine W_cs (.c rfl (awake_can) rfl <| .a 1 rfl <| .k [1, 2, 11] rfl) ?_
  refine W_cond rfl (fun hc => ?_) (fun hc => ?_)
  · cases hc
  · refine W_skip ?_
    refine W_seq ?_
    refine W_cs (.a 2 rfl <| .c rfl (large_can T D) rfl <| .k [1, 2, 14] rfl) ?_
    refine W_cond rfl (fun hc => ?_) (fun hc => ?_)
    · refine W_cs (.a 1 rfl <| .k [4] rfl) ?_
      refine W_ret ?_
      exact ⟨_, _, ResL.of rfl, Pur.pure, rfl⟩
    · refine W_skip ?_
      refine W_cs (.a 2 rfl <| .c rfl (tall_can T D) rfl <| .a 5 rfl <| .k [1, 2, 5, 6] rfl) ?_
      refine W_cs (.a 2 rfl <| .c rfl (rtall_can T D) rfl <| .a 5 rfl <| .k [2, 5, 6, 7, 8] rfl) ?_
      refine W_seq ?_
      refine W_csK 36 (.raw (.bool (false))) [2, 5, 7] rfl ?_ ?_
      · exact .a 2 rfl <| .v (y_q rfl h1) rfl <| .a 5 rfl <| .v (y_q rfl h2) rfl <| .a 1 rfl <| .k [36, 2, 5, 7] rfl
      refine W_cond rfl (fun hc => ?_) (fun hc => ?_)
      · cases hc
      · have hA : (allE T D).length ≤ 64 := by
          unfold allE
          split
          · rename_i h0
            rw [allL_len]
            have := (sound_of (chkE_zero h0).1).nodes
            omega
          · simp
        refine W_skip ?_
        refine W_seq ?_
        refine W_cs (.a 3 rfl <| .k [2, 5, 7, 38, 39] rfl) ?_
        refine W_block ?_
        refine W_k [2, 5, 7, 38, 39] rfl ?_
        refine W_loop (fun r s => ∃ k, k ≤ (allE T D).length ∧ r = (allE T D).length - k ∧ s = ⟨[(2, .pin (topoP T) 0), (5, tabsV (allE T D)), (7, tabsV (allE T D)), (38, num (allE T D).length), (39, num k)], []⟩) (allE T D).length ⟨0, by omega, by omega, rfl⟩ ?_
        rintro r s ⟨k, hk, rfl, rfl⟩
        refine W_cs (.a 1 rfl <| .k [2, 5, 7, 38, 39, 40] rfl) ?_
        refine W_seq ?_
        refine W_cond rfl (fun hy => ?_) (fun hc => ?_)
        · have hlt : k < (allE T D).length := by have := tt hy; omega
          obtain ⟨x, hx⟩ : ∃ a, (allE T D)[k]? = some a := ⟨(allE T D)[k], by simp [hlt]⟩
          have hs := rtab_can x x
          rw [decide_eq_true rfl] at hs
          have hw := tvalid_can T x
          rw [all_valid hx] at hw
          refine W_skip ?_
          refine W_seq ?_
          refine W_block ?_
          refine W_cs (.a 2 rfl <| .k [2, 5, 7, 9, 38, 39] rfl) ?_
          refine W_drsK mixed (by kernel_rfl) 60 (.raw (.bool (false))) [2, 5, 7, 38, 39] rfl ?_ ?_
          · exact .a 2 rfl <| .v [42, 43] (y_ix (k * 3) rfl) rfl rfl <| .v [44] (y_la rfl (tabs_drop _ k x hx) rfl) rfl rfl <| .a 2 rfl <| .v [46, 47] (y_ix (k * 3) rfl) rfl rfl <| .v [48] (y_la rfl (tabs_drop _ k x hx) rfl) rfl rfl <| .v [45, 49] (y_c rfl (hs)) rfl rfl <| .a 5 rfl <| .v [54, 55] (y_ix (k * 3) rfl) rfl rfl <| .v [56] (y_la rfl (tabs_drop _ k x hx) rfl) rfl rfl <| .v [53, 57] (y_c rfl (hw)) rfl rfl <| .a 2 rfl <| .k [60, 2, 5, 7, 38, 39] rfl
          refine W_cond rfl (fun hc => ?_) (fun hc => ?_)
          · cases hc
          · refine W_skip ?_
            refine W_chain (.v (y_ar rfl) rfl <| .a 1 rfl <| .k [2, 5, 7, 38, 39] rfl) ?_
            exact ⟨(allE T D).length - (k + 1), by omega, k + 1, by omega, rfl, rfl⟩
        · refine W_exit ?_
          refine W_cs (.a 1 rfl <| .k [4] rfl) ?_
          refine W_ret ?_
          exact ⟨_, _, ResL.of rfl, Pur.pure, rfl⟩
end PW
end Go.Proofs.YtkaalpdfppbdeaaDoor

/- The law TableNearer, walked. -/
namespace Go.Proofs.YtkaalpdfppbdeaaDoor
set_option linter.unusedVariables false
set_option linter.unusedSimpArgs false
namespace PW
open Go.RowKit Reg Mem Net

theorem toL_get {T : Topo} {D : List Bool} {n k d : Nat} (h : d < k) : (toL T D n k)[d]? = some ⟨nextL T D n d, false, []⟩ := by simp [toL, h]
set_option maxRecDepth 10000 in
set_option maxHeartbeats 2000000 in
theorem lawNearer_can (T : Topo) (D : List Bool) (n d : Int) : Can Tryd.prog 7 [topoV T, boolsV D, num n, num d] (· = flag true) := by
  refine can_of Tryd.func7 rfl Tryd.ntmps7 rfl ?_
  refine W_cs (.a 2 rfl <| .k [1, 2, 3, 4] rfl) ?_
  refine W_seq ?_
  refine W_cs (.c rfl (awake_can) rfl <| .a 1 rfl <| .k [1, 2, 3, 4, 17] rfl) ?_
  refine W_cond rfl (fun hc => ?_) (fun hc => ?_)
  · cases hc
  · refine W_skip ?_
    refine W_seq ?_
    refine W_cs (.a 2 rfl <| .c rfl (large_can T D) rfl <| .k [1, 2, 3, 4, 20] rfl) ?_
    refine W_cond rfl (fun hc => ?_) (fun hc => ?_)
    · refine W_cs (.a 1 rfl <| .k [8] rfl) ?_
      refine W_ret ?_
      exact ⟨_, _, ResL.of rfl, Pur.pure, rfl⟩
    · refine W_skip ?_
      refine W_rs ?_
      refine WR_a 3 rfl <| WR_c rfl (routes_can T D n) rfl <| WR_a 6 rfl <| WR_k [1, 2, 3, 4, 9, 10] rfl ?_
      refine W_sealPtr 9 0 0 rfl rfl ?_
      refine W_ren [] (.c 1 <| .c 2 <| .c 3 <| .c 4 <| .c 9 <| .c 10 .nil) .nil rfl rfl ?_
      refine W_seq ?_
      obtain ⟨p1, hp1⟩ : ∃ q, decide (chkE T D [n] ≠ 0) = q := ⟨_, rfl⟩
      obtain ⟨p2, hp2⟩ : ∃ q, decide (d < 0) = q := ⟨_, rfl⟩
      obtain ⟨p3, hp3⟩ : ∃ q, decide (T.nodes ≤ d) = q := ⟨_, rfl⟩
      refine W_csK 39 (.raw (.bool ((p1 || p2) || p3))) [1, 2, 3, 4, 9] rfl ?_ ?_
      · refine .a 1 rfl <| .v (y_q rfl (hp1)) rfl <| .a 1 rfl <| ?_
        cases p1
        · refine .a 1 rfl <| .v (y_q rfl (hp2)) rfl <| .a 2 rfl <| ?_
          cases p2
          · exact .a 3 rfl <| .v (y_q rfl (hp3)) rfl <| .a 1 rfl <| .k [39, 1, 2, 3, 4, 9] rfl
          · exact .a 5 rfl <| .k [39, 1, 2, 3, 4, 9] rfl
        · exact .a 9 rfl <| .k [39, 1, 2, 3, 4, 9] rfl
      refine W_cond rfl (fun hc => ?_) (fun hx => ?_)
      · refine W_cs (.a 1 rfl <| .k [8] rfl) ?_
        refine W_ret ?_
        exact ⟨_, _, ResL.of rfl, Pur.pure, rfl⟩
      · obtain ⟨c1, c3⟩ := Bool.or_eq_false_iff.1 hx
        obtain ⟨c1, c2⟩ := Bool.or_eq_false_iff.1 c1
        rw [c1] at hp1
        rw [c2] at hp2
        rw [c3] at hp3
        have h0 : chkE T D [n] = 0 := Classical.byContradiction (ff hp1)
        obtain ⟨hv, hf, hn⟩ := chkE_zero h0
        have hn := nodeB_iff.1 (hn n (by simp))
        have hok : (validB T && fitsB T D) = true := by rw [hv, hf]; rfl
        have hd0 : 0 ≤ d := by have := ff hp2; omega
        have hd1 : d < T.nodes := by have := ff hp3; omega
        clear hp1 hp2 hp3 c1 c2 c3 hx
        obtain ⟨n, rfl⟩ := Int.eq_ofNat_of_zero_le hn.1
        obtain ⟨d, rfl⟩ := Int.eq_ofNat_of_zero_le hd0
        have hN := (sound_of hv).nodes
        have hll := links_le hv
        have hdi := rdist_can T D (d : Int)
        rw [chk_one hok (nodeB_iff.2 ⟨hd0, hd1⟩)] at hdi
        have hre := routes_ok (D := D) (n := n) hok hn.2
        have hva := tvalid_can T (routesE T D n)
        rw [hre, routes_valid hv hn.2] at hva
        rw [← hre] at hva
        have hlen : (routesE T D (n : Int)).ents.length = T.nodes.toNat := by rw [hre]; exact toL_len _ _ _ _
        have hlen' : decide (((routesE T D (n : Int)).ents.length : Int) ≠ T.nodes) = false := by rw [hlen]; simp; omega
        have hent : (routesE T D (n : Int)).ents[d]? = some ⟨nextL T D n d, false, []⟩ := by rw [hre]; exact toL_get (by omega)
        obtain ⟨hb1, hb2⟩ := distL_bound (D := D) hv (dir := false) hd1
        have hpos := next_pos (D := D) hv hn.2 hd1
        have hnl : (nextL T D n d).length ≤ 512 := by
          unfold nextL
          split
          · simp
          · exact Nat.le_trans (List.length_filter_le _ _) (Nat.le_trans (outTo_len T n _) (by omega))
        generalize hX : routesE T D (n : Int) = X at *
        refine W_skip ?_
        refine W_cs (.a 3 rfl <| .c rfl (hdi) rfl <| .a 5 rfl <| .k [1, 2, 3, 4, 9, 11, 12] rfl) ?_
        refine W_seq ?_
        refine W_csK 62 (.raw (.bool (false))) [1, 2, 3, 4, 9, 11] rfl ?_ ?_
        · exact .a 8 rfl <| .v (y_q rfl hlen') rfl <| .a 4 rfl <| .c rfl (hva) rfl <| .a 2 rfl <| .k [62, 1, 2, 3, 4, 9, 11] rfl
        refine W_cond rfl (fun hc => ?_) (fun hc => ?_)
        · cases hc
        · refine W_skip ?_
          refine W_seq ?_
          refine W_cs (.a 3 rfl <| .v (y_ix (d * 3) rfl) rfl <| .a 1 rfl <| .v (y_ld rfl (ents_get X.ents d 0 _ hent (by omega))) rfl <| .a 2 rfl <| .k [1, 2, 3, 4, 9, 11, 68, 69, 70] rfl) ?_
          refine W_block ?_
          refine W_k [1, 2, 3, 4, 9, 11, 68, 69, 70] rfl ?_
          refine W_loop (fun r s => ∃ k, k ≤ (nextL T D n d).length ∧ r = (nextL T D n d).length - k ∧ s = ⟨[(1, boolsV D), (2, num n), (3, num d), (4, .pin (topoP T) 0), (9, .pin (tabP X) 0), (11, intsV (distL T D d false)), (68, intsV (nextL T D n d)), (69, num (nextL T D n d).length), (70, num k)], []⟩) (nextL T D n d).length ⟨0, by omega, by omega, rfl⟩ ?_
          rintro r s ⟨k, hk, rfl, rfl⟩
          refine W_cs (.a 1 rfl <| .k [1, 2, 3, 4, 9, 11, 68, 69, 70, 71] rfl) ?_
          refine W_seq ?_
          refine W_cond rfl (fun hy => ?_) (fun hy => ?_)
          · have hlt : k < (nextL T D n d).length := by have := tt hy; omega
            obtain ⟨a, ha, hnr⟩ := next_mem (getD_mem (d := 0) hlt)
            have hD : D.length = 0 ∨ a < D.length := by have := hnr.arc; simp only [fitsB, decide_eq_true_eq] at hf; omega
            have hup := rup_can D a hD
            rw [hnr.up] at hup
            obtain ⟨y, hy1⟩ := Int.eq_ofNat_of_zero_le ((sound_of hv).head a hnr.arc).1
            have hy2 : (y : Int) < T.nodes := by rw [← hy1]; exact ((sound_of hv).head a hnr.arc).2
            have hyl : y < (distL T D d false).length := by omega
            have hnl' : n < (distL T D d false).length := by omega
            have hh := rheadN_can T hv a hnr.arc
            rw [hy1] at hh
            have hsum := hnr.sum
            rw [hy1, Int.toNat_natCast] at hsum
            have hy3 := hb2 _ (getD_mem (d := 0) hyl)
            have hc3 := (sound_of hv).cost a hnr.arc
            have hne1 : decide ((y : Int) < 0) = false := decide_eq_false (by omega)
            have hne2 : decide ((distL T D d false).getD n 0 ≠ (distL T D d false).getD y 0 + costN T a) = false := decide_eq_false (by rw [hsum]; simp)
            refine W_skip ?_
            refine W_seq ?_
            refine W_block ?_
            refine W_cs (.v (y_ix (k) rfl) rfl <| .v (y_ld rfl ((ints_get _ k hlt).trans (by rw [ha]))) rfl <| .a 1 rfl <| .k [1, 2, 3, 4, 9, 11, 14, 68, 69, 70] rfl) ?_
            refine W_cs (.a 2 rfl <| .c rfl (hh) rfl <| .a 1 rfl <| .k [1, 2, 3, 4, 9, 11, 14, 15, 68, 69, 70] rfl) ?_
            refine W_drsK mixed (by kernel_rfl) 99 (.raw (.bool (false))) [1, 2, 3, 4, 9, 11, 68, 69, 70] rfl ?_ ?_
            · exact .a 1 rfl <| .v [77] (y_q rfl hne1) rfl rfl <| .a 3 rfl <| .v [80, 81] (y_c rfl (hup)) rfl rfl <| .a 5 rfl <| .v [86, 87] (y_ix (n) rfl) rfl rfl <| .v [88] (y_ld rfl (ints_get _ n hnl')) rfl rfl <| .a 2 rfl <| .v [90, 91] (y_ix (y) rfl) rfl rfl <| .v [92] (y_ld rfl (ints_get _ y hyl)) rfl rfl <| .a 2 rfl <| .v [94, 95] (y_c rfl (rcostN_can T hv a hnr.arc)) rfl rfl <| .v [93, 96] (y_ar rfl (hn := by unfold In64; omega)) rfl rfl <| .v [89, 97] (y_q rfl hne2) rfl rfl <| .a 1 rfl <| .k [99, 1, 2, 3, 4, 9, 11, 68, 69, 70] rfl
            refine W_cond rfl (fun hc => ?_) (fun hc => ?_)
            · cases hc
            · refine W_skip ?_
              refine W_chain (.v (y_ar rfl) rfl <| .a 1 rfl <| .k [1, 2, 3, 4, 9, 11, 68, 69, 70] rfl) ?_
              exact ⟨(nextL T D n d).length - (k + 1), by omega, k + 1, by omega, rfl, rfl⟩
          · have hnl' : n < (distL T D d false).length := by omega
            refine W_exit ?_
            refine W_drs mixed (by kernel_rfl) (.a 3 rfl <| .v [102, 103] (y_ix (d * 3) rfl) rfl rfl <| .a 1 rfl <| .v [105] (y_ld rfl (ents_get X.ents d 0 _ hent (by omega))) rfl rfl <| .a 4 rfl <| .v [109, 110] (y_ix (n) rfl) rfl rfl <| .v [111] (y_ld rfl (ints_get _ n hnl')) rfl rfl <| .a 1 rfl <| .v [108, 113] (y_q rfl (show (decide (0 < ((nextL T D n d).length : Int)) == decide (0 < (distL T D d false).getD n 0)) = true by rw [hpos]; simp)) rfl rfl <| .a 1 rfl <| .k [8] rfl) ?_
            refine W_ret ?_
            exact ⟨_, _, ResL.of rfl, Pur.pure, rfl⟩
end PW
end Go.Proofs.YtkaalpdfppbdeaaDoor

namespace Go.Proofs.YtkaalpdfppbdeaaDoor.tableNearer
set_option linter.unusedVariables false
set_option linter.unusedSimpArgs false
open Go.ChangeShapes Go.WideShapes Go.ChangeAt Go.RowKit
open Reg Mem PW

set_option maxRecDepth 100000 in
theorem lifted (os : Os) (started : os.Started) (H : Type) (enc : TypeId × Value → H) :
    ReturnsInHanded {} Tryd.checked os 7 .any (fun w args => (Rows.tableNearerSpec.pre enc Tryd.prog Tryd.f7 [] false w args ∧ laidMetH Tryd.prog Rows.tableNearerRow.laid w) ∧ sizedMet enc Tryd.prog Tryd.f7 (OpenSpec.ofChange Rows.tableNearerSpec) false w args)
      (Rows.tableNearerSpec.post enc Tryd.prog Tryd.f7 false true false false) := by
  refine returnsInHanded_of_change_and (C := Tryd.checked) (X := fun w _ => laidMetH Tryd.prog Rows.tableNearerRow.laid w) (fun _ _ _ hh h => h.of_heap hh) own started (by kernel_rfl) Tryd.func7
    (ChangeSpec.witness_shaped (enc := enc) (C := Tryd.checked) (os := os) (X := fun w _ => laidMetH Tryd.prog Rows.tableNearerRow.laid w) false (World.doorLaid Tryd.prog 400 os) #[.agg #[.int .i64 0, .slice none 0 0, .slice none 0 0], .slice none 0 0, .int .i64 0, .int .i64 0] 8 rfl (World.shaped_of_RefB (by kernel_rfl) (by kernel_rfl)) (by kernel_rfl) (by kernel_rfl) (by kernel_rfl) (laidMetH_of_parts3 (fuel := 8) (laidMet_of_run' 8 (by kernel_rfl) (by kernel_rfl)) (by kernel_rfl) (by kernel_rfl))) ?_
  intro W base args ds gs before hval0 hW _ _ hL _
  have hval : ∀ (j : Nat) t v, Tryd.f7.params[j]? = some t → args[j]? = some v → Value.okWide Tryd.prog W .any base t v := hval0
  have hW' := hW
  obtain ⟨p, q, hA0, hV, rfl, hfz, hnd⟩ := hW
  have hA : DataW.TrodAll enc Tryd.prog W 0 (fun _ => true) true Tryd.f7.params.toList args.toList ds p := hA0
  rw [Tryd.params7] at hA hval
  obtain ⟨v0, vs0, d0, ds0, p0, q0, hargs, rfl, rfl, h0, r0⟩ := trodAll_cons hA
  obtain ⟨v1, vs1, d1, ds1, p1, q1, rfl, rfl, rfl, h1, r1⟩ := trodAll_cons r0
  obtain ⟨v2, vs2, d2, ds2, p2, q2, rfl, rfl, rfl, h2, r2⟩ := trodAll_cons r1
  obtain ⟨v3, vs3, d3, ds3, p3, q3, rfl, rfl, rfl, h3, r3⟩ := trodAll_cons r2
  obtain ⟨rfl, rfl, rfl⟩ := trodAll_nil r3
  obtain rfl : args = #[v0, v1, v2, v3] := by cases args; simp_all
  obtain ⟨rfl, rfl⟩ := trodVars_none hV
  have lt0 := lt_of h0
  obtain ⟨T, R0⟩ := rd_topo (hval 0 25 v0 rfl rfl) h0
  have lt1 := lt_of h1
  obtain ⟨D, R1⟩ := arg_bools (hval 1 22 v1 rfl rfl) h1
  have lt2 := lt_of h2
  obtain ⟨n, R2⟩ := arg_int (hval 2 3 v2 rfl rfl) h2
  have lt3 := lt_of h3
  obtain ⟨d, R3⟩ := arg_int (hval 3 3 v3 rfl rfl) h3
  clear hA0 hval0
  refine ((lawNearer_can T D n d) (fun _ => False) W #[v0, v1, v2, v3] (fun _ h => h.elim) (RepL.cons R0 (RepL.cons R1 (RepL.cons R2 (RepL.cons R3 (RepL.nil _ _)))))).mono fun e W' ⟨x, he, bel, r, hr, hx⟩ => ?_
  subst hr
  cases hx
  subst he
  exact ⟨_, rfl, _, _, _, [], _, [], hW', trodAll_mk1 (shut_bool Tryd.underlying4 _), (trodAll_cons_mk (Below.trod laidOut (by kernel_rfl) (of_decide_eq_true (by kernel_rfl)) h0 bel lt0) (trodAll_cons_mk (Below.trod laidOut (by kernel_rfl) (of_decide_eq_true (by kernel_rfl)) h1 bel lt1) (trodAll_cons_mk (Below.trod laidOut (by kernel_rfl) (of_decide_eq_true (by kernel_rfl)) h2 bel lt2) (trodAll_cons_mk (Below.trod laidOut (by kernel_rfl) (of_decide_eq_true (by kernel_rfl)) h3 bel lt3) trodAll_mk0)))), rfl, bel.frame _, fun h => by cases h⟩

theorem over : Rows.tableNearerRow.holds Tryd.pinned (OpenSpec.ofChange Rows.tableNearerSpec) :=
  OpenClaim.holds_of_wide 7 Tryd.f7 rfl rfl rfl rfl rfl rfl rfl ⟨rfl, rfl, rfl, rfl, rfl⟩ rfl rfl rfl rfl rfl (by kernel_rfl) Tryd.func7 (by kernel_rfl)
    (of_decide_eq_true (by kernel_rfl)) (by unfold Func.isWrapper; first | (rw [if_pos (by decide +kernel)]; kernel_rfl) | (rw [if_neg (by decide +kernel)]; exact ⟨rfl, rfl⟩))
    (fun os started H enc _ => lifted os started H enc)

theorem proved : Rows.TableNearerCardSaid :=
  Claim7.holds_tied_plain_at .later [] [.data, .data, .data] true (true, "b6f37571878e50a4db78bf11737a66575ad26af79a1a95ed8600468fc83ed6c1") false
    over (fun _ h => by cases h) (by kernel_rfl) (fun _ h => by cases h) tableNearer_row_tie rfl ⟨rfl, rfl⟩ (by kernel_rfl) rfl
    (fun f fn hf hfn => by
      obtain rfl : f = 7 := Option.some.inj ((show Tryd.prog.funcNamed "waypoint/waypointlaw22.TableNearer" = some 7 by kernel_rfl).symm.trans hf) |>.symm
      obtain rfl : fn = Tryd.f7 := (Option.some.inj (Tryd.func7.symm.trans hfn)).symm
      exact ⟨by kernel_rfl, fun j t ht => by
        rw [Tryd.params7] at ht
        have hm : t ∈ [25, 22, 3, 3] := by simpa using Array.mem_of_getElem? ht
        have hall : ([25, 22, 3, 3].all fun u => !Tryd.prog.wantsStandIn u) = true := by kernel_rfl
        exact (show Tryd.prog.wantsStandIn t = false by simpa using List.all_eq_true.1 hall t hm)⟩)
    (by kernel_rfl)
end Go.Proofs.YtkaalpdfppbdeaaDoor.tableNearer
