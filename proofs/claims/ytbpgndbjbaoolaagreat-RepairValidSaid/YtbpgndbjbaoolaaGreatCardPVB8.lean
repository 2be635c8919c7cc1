/- Texts of the proof, part 8. -/
import Derived.Laws.StructEq
import Derived.Test.YtbpgndbjbaoolaaGreatCardPVB7
/- Masks of components: the reference. -/
namespace Go.Proofs.YtbpgndbjbaoolaaGreat
set_option linter.unusedVariables false
set_option linter.unusedSimpArgs false
namespace PW
open Go.RowKit Reg Mem Net Rng

set_option maxRecDepth 10000 in
set_option maxHeartbeats 1000000 in
theorem rvalid10_can (T : Topo) (k x : Int) : Can Tryz.prog 54 [topoV T, compV k x] (· = flag (validB T && compB T k x)) := by
  obtain ⟨q1, h1⟩ : ∃ q, decide (0 ≤ x) = q := ⟨_, rfl⟩
  obtain ⟨q2, h2⟩ : ∃ q, decide (x < (T.links.length : Int)) = q := ⟨_, rfl⟩
  obtain ⟨q5, h5⟩ : ∃ q, decide (x < T.nodes) = q := ⟨_, rfl⟩
  obtain ⟨q3, h3⟩ : ∃ q, decide (1 ≤ x) = q := ⟨_, rfl⟩
  obtain ⟨q4, h4⟩ : ∃ q, decide (x ≤ 64) = q := ⟨_, rfl⟩
  have hnb : nodeB T x = (q1 && q5) := by rw [← h1, ← h5, ← Bool.decide_and]; rfl
  have hB : compB T k x = if k = 1 then (q1 && q2) else if k = 2 then (q1 && q5) else if k = 3 then (q3 && q4) else false := by unfold compB; rw [h1, h2, h3, h4, hnb]
  rw [hB]
  refine can_of Tryz.func54 rfl Tryz.ntmps54 rfl ?_
  refine W_cs (.a 3 rfl <| .k [2, 3] rfl) ?_
  refine W_seq ?_
  refine W_cs (.a 1 rfl <| .c rfl (rvalid_can T) rfl <| .a 1 rfl <| .k [2, 3, 7] rfl) ?_
  refine W_cond rfl (fun hv1 => ?_) (fun hv1 => ?_)
  · have hv : validB T = false := by simpa using hv1
    refine W_cs (.a 1 rfl <| .k [4] rfl) ?_
    refine W_ret ?_
    exact ⟨_, _, ResL.of rfl, Pur.pure, by rw [hv]; rfl⟩
  · have hv : validB T = true := by simpa using hv1
    rw [hv, Bool.true_and]
    refine W_skip ?_
    refine W_seq ?_
    refine W_cs (.a 2 rfl <| .k [2, 3, 9] rfl) ?_
    refine W_block ?_
    refine W_cs (.a 2 rfl <| .k [2, 3, 9, 10] rfl) ?_
    refine W_cond rfl (fun hk1 => ?_) (fun hk1 => ?_)
    · have k1 : k = 1 := tt hk1
      refine W_csK 4 (.raw (.bool (q1 && q2))) [] rfl ?_ ?_
      · refine .a 2 rfl <| .v (y_q rfl (h1)) rfl <| .a 1 rfl <| ?_
        cases q1
        · exact .a 8 rfl <| .k [4] rfl
        · exact .a 5 rfl <| .v (y_q rfl (h2)) rfl <| .a 2 rfl <| .k [4] rfl
      refine W_ret ?_
      exact ⟨_, _, ResL.of rfl, Pur.pure, by rw [if_pos k1]; rfl⟩
    · have k1 : ¬ k = 1 := ff hk1
      refine W_cs (.a 2 rfl <| .k [2, 3, 9, 23] rfl) ?_
      refine W_cond rfl (fun hk2 => ?_) (fun hk2 => ?_)
      · have k2 : k = 2 := tt hk2
        refine W_csK 4 (.raw (.bool (q1 && q5))) [] rfl ?_ ?_
        · refine .a 2 rfl <| .v (y_q rfl (h1)) rfl <| .a 1 rfl <| ?_
          cases q1
          · exact .a 7 rfl <| .k [4] rfl
          · exact .a 4 rfl <| .v (y_q rfl (h5)) rfl <| .a 2 rfl <| .k [4] rfl
        refine W_ret ?_
        exact ⟨_, _, ResL.of rfl, Pur.pure, by rw [if_neg k1, if_pos k2]; rfl⟩
      · have k2 : ¬ k = 2 := ff hk2
        refine W_cs (.a 2 rfl <| .k [3, 35] rfl) ?_
        refine W_cond rfl (fun hk3 => ?_) (fun hk3 => ?_)
        · have k3 : k = 3 := tt hk3
          refine W_csK 4 (.raw (.bool (q3 && q4))) [] rfl ?_ ?_
          · refine .a 2 rfl <| .v (y_q rfl (h3)) rfl <| .a 1 rfl <| ?_
            cases q3
            · exact .a 5 rfl <| .k [4] rfl
            · exact .a 2 rfl <| .v (y_q rfl (h4)) rfl <| .a 2 rfl <| .k [4] rfl
          refine W_ret ?_
          exact ⟨_, _, ResL.of rfl, Pur.pure, by rw [if_neg k1, if_neg k2, if_pos k3]; rfl⟩
        · have k3 : ¬ k = 3 := ff hk3
          refine W_skip ?_
          refine W_cs (.a 1 rfl <| .k [4] rfl) ?_
          refine W_ret ?_
          exact ⟨_, _, ResL.of rfl, Pur.pure, by rw [if_neg k1, if_neg k2, if_neg k3]; rfl⟩
theorem lnks_drop7 (L : List Lnk) (i : Nat) (hi : i < L.length) : ((lnksP L).drop (i * 7)).take 7 = lnkP (lnk L i) := by
  apply List.ext_getElem?
  intro j
  by_cases hj : j < 7
  · rw [List.getElem?_take, if_pos hj, List.getElem?_drop, lnks_getP L i j hi hj]
  · rw [List.getElem?_take, if_neg hj, List.getElem?_eq_none (by simp [lnkP]; omega)]
set_option maxRecDepth 10000 in
set_option maxHeartbeats 1000000 in
theorem rof_can (T : Topo) (k x : Int) (a : Nat) (ha : a < 2 * T.links.length) (hl : T.links.length ≤ 256) : Can Tryz.prog 104 [topoV T, compV k x, num a] (· = flag (partB k x T.links (a / 2))) := by
  have hi : a / 2 < T.links.length := by omega
  obtain ⟨e, he⟩ : ∃ e, lnk T.links (a / 2) = e := ⟨_, rfl⟩
  have hdr := lnks_drop7 T.links (a / 2) hi
  rw [he] at hdr
  obtain ⟨q1, h1⟩ : ∃ q, decide (((a / 2 : Nat) : Int) = x) = q := ⟨_, rfl⟩
  obtain ⟨q2, h2⟩ : ∃ q, decide (e.a = x) = q := ⟨_, rfl⟩
  obtain ⟨q3, h3⟩ : ∃ q, decide (e.b = x) = q := ⟨_, rfl⟩
  obtain ⟨q4, h4⟩ : ∃ q, decide (e.grp = x) = q := ⟨_, rfl⟩
  have hP : partB k x T.links (a / 2) = if k = 1 then q1 else if k = 2 then (q2 || q3) else q4 := by unfold partB; rw [he, h1, h2, h3, h4]
  rw [hP]
  refine can_of Tryz.func104 rfl Tryz.ntmps104 rfl ?_
  refine W_cs (.a 3 rfl <| .k [2, 3, 4] rfl) ?_
  refine W_rs ?_
  refine WR_a 3 rfl <| WR_v (y_quo rfl rfl rfl (by decide) ((show (a : Int).tdiv 2 = ((a / 2 : Nat) : Int) by rw [Int.tdiv_eq_ediv_of_nonneg (by omega)]; omega)) (by unfold In64; omega)) rfl <| WR_v (y_ix ((a / 2 * 7)) rfl) rfl <| WR_v (y_la rfl (hdr) rfl) rfl <| WR_a 2 rfl <| WR_k [2, 4, 7] rfl ?_
  refine W_sto (σ' := [some (.cells 72 (lnkP e))]) rfl ?_
  refine W_seq ?_
  refine W_cs (.a 2 rfl <| .k [2, 4, 7, 15] rfl) ?_
  refine W_block ?_
  refine W_cs (.a 2 rfl <| .k [2, 4, 7, 15, 16] rfl) ?_
  refine W_cond rfl (fun hk1 => ?_) (fun hk1 => ?_)
  · have k1 : k = 1 := tt hk1
    refine W_cs (.a 1 rfl <| .v (y_quo rfl rfl rfl (by decide) ((show (a : Int).tdiv 2 = ((a / 2 : Nat) : Int) by rw [Int.tdiv_eq_ediv_of_nonneg (by omega)]; omega)) (by unfold In64; omega)) rfl <| .a 2 rfl <| .v (y_q rfl (h1)) rfl <| .a 1 rfl <| .k [6] rfl) ?_
    refine W_ret ?_
    exact ⟨_, _, ResL.of rfl, Pur.pure, by rw [if_pos k1]; rfl⟩
  · have k1 : ¬ k = 1 := ff hk1
    refine W_cs (.a 2 rfl <| .k [4, 7, 23] rfl) ?_
    refine W_cond rfl (fun hk2 => ?_) (fun hk2 => ?_)
    · have k2 : k = 2 := tt hk2
      refine W_csK 6 (.raw (.bool (q2 || q3))) [] rfl ?_ ?_
      · refine .a 4 rfl <| .v (y_q rfl (h2)) rfl <| .a 1 rfl <| ?_
        cases q2
        · exact .a 4 rfl <| .v (y_q rfl (h3)) rfl <| .a 2 rfl <| .k [6] rfl
        · exact .a 7 rfl <| .k [6] rfl
      refine W_ret ?_
      exact ⟨_, _, ResL.of rfl, Pur.pure, by rw [if_neg k1, if_pos k2]; rfl⟩
    · have k2 : ¬ k = 2 := ff hk2
      refine W_skip ?_
      refine W_cs (.a 4 rfl <| .v (y_q rfl (h4)) rfl <| .a 1 rfl <| .k [6] rfl) ?_
      refine W_ret ?_
      exact ⟨_, _, ResL.of rfl, Pur.pure, by rw [if_neg k1, if_neg k2]; rfl⟩
/-- The mask as far as m. -/
def mskTo (T : Topo) (k x : Int) (m : Nat) : List Bool := (List.range (2 * T.links.length)).map fun a => decide (a < m) && partB k x T.links (a / 2)
theorem mskTo_zero (T : Topo) (k x : Int) : mskTo T k x 0 = List.replicate (2 * T.links.length) false := by
  unfold mskTo
  apply List.ext_getElem (by simp)
  intro i h1 h2
  simp
theorem mskTo_len (T : Topo) (k x : Int) (m : Nat) : (mskTo T k x m).length = 2 * T.links.length := by simp [mskTo]
theorem mskTo_yes {T : Topo} {k x : Int} {m : Nat} (h : partB k x T.links (m / 2) = true) : (mskTo T k x m).set m true = mskTo T k x (m + 1) := by
  apply List.ext_getElem (by simp [mskTo])
  intro i h1 h2
  rw [List.getElem_set]
  by_cases e : m = i
  · subst e; simp [mskTo, h]
  · rw [if_neg e]
    simp only [mskTo, List.getElem_map, List.getElem_range]
    rw [show decide (i < m + 1) = decide (i < m) from decide_eq_decide.2 (by omega)]
theorem mskTo_no {T : Topo} {k x : Int} {m : Nat} (h : partB k x T.links (m / 2) = false) : mskTo T k x (m + 1) = mskTo T k x m := by
  unfold mskTo
  refine List.map_congr_left fun a _ => ?_
  by_cases e : a = m
  · subst e; rw [h]; simp
  · rw [show decide (a < m + 1) = decide (a < m) from decide_eq_decide.2 (by omega)]
theorem mskTo_all (T : Topo) (k x : Int) : mskTo T k x (2 * T.links.length) = maskL T k x := by
  unfold mskTo maskL
  refine List.map_congr_left fun a ha => ?_
  rw [decide_eq_true (List.mem_range.1 ha), Bool.true_and]
def brow (L : List Bool) : Option Blk := some (.row 4 1 L.length (boolsP L))
set_option maxRecDepth 10000 in
set_option maxHeartbeats 2000000 in
theorem runionS_can (T : Topo) (k x : Int) : CanS Tryz.prog 57 [topoV T, .slice 1 (compP k x)] [] (fun r σ' => ((validB T && compB T k x) = false ∧ r = .tuple [.raw (.slice none 0 0), num 1]) ∨ ((validB T && compB T k x) = true ∧ r = .tuple [.own 0, num 0] ∧ σ' = [brow (maskL T k x)])) := by
  refine canS_of Tryz.func57 rfl Tryz.ntmps57 rfl ?_
  refine W_cs (.a 3 rfl <| .k [1, 2] rfl) ?_
  refine W_seq ?_
  refine W_cs (.a 1 rfl <| .c rfl (rvalid_can T) rfl <| .a 1 rfl <| .k [1, 2, 11] rfl) ?_
  refine W_cond rfl (fun h1 => ?_) (fun h1 => ?_)
  · have hv : validB T = false := by simpa using h1
    refine W_cs (.a 2 rfl <| .k [4, 5] rfl) ?_
    refine W_ret ?_
    exact ⟨_, ResL.of rfl, .inl ⟨by rw [hv]; rfl, rfl⟩⟩
  · have hv : validB T = true := by simpa using h1
    have hll := links_le hv
    refine W_skip ?_
    refine W_rs ?_
    refine WR_a 3 rfl <| WR_v (y_ar rfl) rfl <| WR_l (l_make rfl (fok.rk.get rfl) rfl rfl (show 2 * (T.links.length : Int) = ((2 * T.links.length : Nat) : Int) by omega) (show 2 * (T.links.length : Int) = ((2 * T.links.length : Nat) : Int) by omega) ⟨by unfold maxLen; omega, by omega⟩) rfl <| WR_a 1 rfl <| WR_k [1, 2, 6] rfl ?_
    refine W_sto (σ' := [brow (mskTo T k x 0)]) (by unfold brow; rw [mskTo_zero, List.length_replicate, ← zeros_bools]; rfl) ?_
    refine W_seq ?_
    refine W_cs (.a 1 rfl <| .k [1, 2, 6, 7] rfl) ?_
    refine W_block ?_
    refine W_k [1, 2, 6, 7] rfl ?_
    refine W_loop (fun r st => ∃ (i : Nat) (M : List Bool), i ≤ 1 ∧ r = 1 - i ∧ (i = 0 → M = mskTo T k x 0) ∧ (i = 1 → compB T k x = true ∧ M = maskL T k x) ∧ st = ⟨[(1, .slice 1 (compP k x)), (2, .pin (topoP T) 0), (6, .own 0), (7, num i)], [brow M]⟩) 1 ⟨0, _, by omega, rfl, fun _ => rfl, fun h => by omega, rfl⟩ ?_
    rintro r st ⟨i, M, hi, rfl, hM0, hM1, rfl⟩
    refine W_seq ?_
    refine W_cs (.a 4 rfl <| .k [1, 2, 6, 7, 20] rfl) ?_
    refine W_cond rfl (fun h2 => ?_) (fun h2 => ?_)
    · have hi0 : i = 0 := by have := tt h2; omega
      subst hi0
      obtain rfl := hM0 rfl
      refine W_skip ?_
      refine W_seq ?_
      refine W_block ?_
      refine W_seq ?_
      refine W_drs mixed (by kernel_rfl) (.a 3 rfl <| .v [24, 25] (y_ix (0) rfl) rfl rfl <| .v [26] (y_la rfl ((show ((compP k x).drop 0).take 2 = compP k x from rfl)) rfl) rfl rfl <| .v [23, 27] (y_c rfl (rvalid10_can T k x)) rfl rfl <| .a 1 rfl <| .k [1, 2, 6, 7, 29] rfl) ?_
      refine W_cond rfl (fun h3 => ?_) (fun h3 => ?_)
      · have hc : (validB T && compB T k x) = false := (Bool.not_eq_true' _).mp h3
        refine W_cs (.a 2 rfl <| .k [4, 5] rfl) ?_
        refine W_ret ?_
        exact ⟨_, ResL.of rfl, .inl ⟨hc, rfl⟩⟩
      · have hvc : (validB T && compB T k x) = true := by simpa using h3
        have hc : compB T k x = true := (Bool.and_eq_true_iff.1 hvc).2
        refine W_skip ?_
        refine W_cs (.a 1 rfl <| .k [1, 2, 6, 7, 8] rfl) ?_
        refine W_block ?_
        refine W_k [1, 2, 6, 7, 8] rfl ?_
        refine W_loop (fun r st => ∃ m : Nat, m ≤ 2 * T.links.length ∧ r = 2 * T.links.length - m ∧ st = ⟨[(1, .slice 1 (compP k x)), (2, .pin (topoP T) 0), (6, .own 0), (7, num 0), (8, num m)], [brow (mskTo T k x m)]⟩) (2 * T.links.length) ⟨0, by omega, by omega, rfl⟩ ?_
        rintro r st ⟨m, hm, rfl, rfl⟩
        have hml := mskTo_len T k x m
        refine W_seq ?_
        refine W_cs (.a 4 rfl <| .k [1, 2, 6, 7, 8, 33] rfl) ?_
        refine W_cond rfl (fun h4 => ?_) (fun h4 => ?_)
        · have hlt : m < 2 * T.links.length := by have := tt h4; omega
          refine W_skip ?_
          refine W_seq ?_
          refine W_block ?_
          refine W_drs mixed (by kernel_rfl) (.a 3 rfl <| .v [37, 38] (y_ix (0) rfl) rfl rfl <| .v [39] (y_la rfl ((show ((compP k x).drop 0).take 2 = compP k x from rfl)) rfl) rfl rfl <| .a 1 rfl <| .v [36, 40, 41] (y_c rfl (rof_can T k x m hlt (by omega))) rfl rfl <| .k [1, 2, 6, 7, 8, 42] rfl) ?_
          refine W_cond rfl (fun h5 => ?_) (fun h5 => ?_)
          · have hst := mskTo_yes h5
            refine W_region ?_
            refine WR_a 2 rfl <| WR_v (y_ix (m) rfl) rfl <| WR_loud0 ((by first | exact l_storeInts rfl (fok.tk.get rfl) rfl rfl rfl (by first | omega | (simp; omega)) | exact l_storeBools rfl (fok.tk.get rfl) rfl rfl rfl (by first | omega | (simp; omega)))) rfl rfl <| WR_k [1, 2, 6, 7, 8] rfl ?_
            refine W_chain (.a 1 rfl <| .v (y_ar rfl) rfl <| .a 1 rfl <| .k [1, 2, 6, 7, 8] rfl) ?_
            refine ⟨2 * T.links.length - (m + 1), by omega, m + 1, by omega, rfl, ?_⟩
            first
              | (rw [hst]; rfl)
              | (rw [hst]; unfold brow; rw [mskTo_len, mskTo_len]; rfl)
          · have hst := mskTo_no h5
            refine W_skip ?_
            refine W_chain (.a 1 rfl <| .v (y_ar rfl) rfl <| .a 1 rfl <| .k [1, 2, 6, 7, 8] rfl) ?_
            refine ⟨2 * T.links.length - (m + 1), by omega, m + 1, by omega, rfl, ?_⟩
            first
              | (rw [hst]; rfl)
              | (rw [hst]; unfold brow; rw [mskTo_len, mskTo_len]; rfl)
        · have hme : m = 2 * T.links.length := by have := ff h4; omega
          subst hme
          refine W_exit ?_
          refine W_chain (.a 1 rfl <| .v (y_ar rfl) rfl <| .a 1 rfl <| .k [1, 2, 6, 7] rfl) ?_
          exact ⟨0, by omega, 1, _, by omega, rfl, fun h => by omega, fun _ => ⟨hc, rfl⟩, by rw [mskTo_all]; rfl⟩
    · have hi1 : i = 1 := by have := ff h2; omega
      subst hi1
      obtain ⟨hc, rfl⟩ := hM1 rfl
      refine W_exit ?_
      refine W_cs (.a 3 rfl <| .k [4, 5] rfl) ?_
      refine W_ret ?_
      exact ⟨_, ResL.of rfl, .inr ⟨by rw [hv, hc]; rfl, rfl, rfl⟩⟩
set_option maxRecDepth 10000 in
set_option maxHeartbeats 1000000 in
theorem rmaskS_can (T : Topo) (k x : Int) : CanS Tryz.prog 23 [topoV T, compV k x] [] (fun r σ' => ((validB T && compB T k x) = false ∧ r = .tuple [.raw (.slice none 0 0), num 1]) ∨ ((validB T && compB T k x) = true ∧ r = .tuple [.own 0, num 0] ∧ σ' = [brow (maskL T k x)])) := by
  refine canS_of Tryz.func23 rfl Tryz.ntmps23 rfl ?_
  refine W_cs (.a 4 rfl <| .k [2, 3] rfl) ?_
  refine W_cs (.a 3 rfl <| .k [2, 6] rfl) ?_
  refine W_rs ?_
  refine WR_a 2 rfl <| WR_cS rfl rfl (CanS.mono (CanS.mono (runionS_can T k x) (fun r σ' h => (show ∃ y z, r = .tuple [y, z] ∧ (((validB T && compB T k x) = false ∧ y = .raw (.slice none 0 0) ∧ z = num 1) ∨ ((validB T && compB T k x) = true ∧ y = .own 0 ∧ z = num 0 ∧ σ' = [brow (maskL T k x)])) from by rcases h with ⟨h1, rfl⟩ | ⟨h1, rfl, h2⟩; exact ⟨_, _, rfl, .inl ⟨h1, rfl, rfl⟩⟩; exact ⟨_, _, rfl, .inr ⟨h1, rfl, rfl, h2⟩⟩))) (fun r σ' h => ?_))
  obtain ⟨y, z, rfl, hyz⟩ := h
  refine WR_a 4 rfl <| WR_k [4, 5] rfl ?_
  refine W_ret ?_
  refine ⟨_, ResL.of rfl, ?_⟩
  rcases hyz with ⟨h1, rfl, rfl⟩ | ⟨h1, rfl, rfl, rfl⟩
  · exact .inl ⟨h1, rfl⟩
  · exact .inr ⟨h1, rfl, rfl⟩
theorem rmask_can (T : Topo) (k x : Int) : Can Tryz.prog 23 [topoV T, compV k x] (· = boolsE (maskE T k x) (maskL T k x)) := by
  refine Can.ofS (rmaskS_can T k x) ?_
  rintro r σ' (⟨h1, rfl⟩ | ⟨h1, rfl, rfl⟩)
  · refine ⟨_, Pur.tupleL (PurL.cons Pur.nils (PurL.cons Pur.pure PurL.nil)), ?_⟩
    have he : maskE T k x = 1 := by unfold maskE; rw [if_neg (by rw [h1]; simp)]
    rw [he]
    rfl
  · refine ⟨_, Pur.tupleL (PurL.cons (Pur.ownL rfl PurL.pure) (PurL.cons Pur.pure PurL.nil)), ?_⟩
    unfold boolsE maskE boolsV
    rw [if_pos h1, if_pos rfl]
end PW
end Go.Proofs.YtbpgndbjbaoolaaGreat

/- The reference of the layers 9, 11 and 12, in plain form: scalars, search, Dist. -/
namespace Go.Proofs.YtbpgndbjbaoolaaGreat
set_option linter.unusedVariables false
set_option linter.unusedSimpArgs false
namespace PW
open Go.RowKit Reg Mem Net


set_option maxRecDepth 10000 in
set_option maxHeartbeats 4000000 in
theorem rsearch_can (T : Topo) (D : List Bool) (n : Int) (dir : Bool) : Can Tryz.prog 107 [topoV T, boolsV D, num n, flag dir] (· = intsE (chkE T D [n]) (distL T D n.toNat dir)) := by
  refine can_of Tryz.func107 rfl Tryz.ntmps107 rfl ?_
  refine W_cs (.a 3 rfl <| .k [1, 2, 3, 4] rfl) ?_
  refine W_seq ?_
  refine W_cs (.a 2 rfl <| .c rfl (rfits_can T D) rfl <| .a 1 rfl <| .k [1, 2, 3, 4, 20] rfl) ?_
  refine W_cond rfl (fun hc => ?_) (fun hc => ?_)
  · have hch : chkE T D [n] = 1 := by
      unfold chkE
      rw [if_neg]
      revert hc
      cases (validB T && fitsB T D) <;> simp
    refine W_cs (.a 2 rfl <| .k [8, 9] rfl) ?_
    refine W_ret ?_
    exact ⟨_, _, ResL.of rfl, Pur.tupleL (PurL.cons Pur.nils (PurL.cons Pur.pure PurL.nil)), by unfold intsE; rw [hch]; rfl⟩
  · have hok : (validB T && fitsB T D) = true := by revert hc; cases (validB T && fitsB T D) <;> simp
    refine W_skip ?_
    refine W_seq ?_
    obtain ⟨q1, hq1⟩ : ∃ q, decide (n < 0) = q := ⟨_, rfl⟩
    obtain ⟨q2, hq2⟩ : ∃ q, decide (T.nodes ≤ n) = q := ⟨_, rfl⟩
    have hnb : nodeB T n = !(q1 || q2) := by rw [← hq1, ← hq2]; unfold nodeB; by_cases h1 : n < 0 <;> by_cases h2 : T.nodes ≤ n <;> simp [h1, h2] <;> omega
    refine W_csK 28 (.raw (.bool (q1 || q2))) [1, 2, 3, 4] rfl ?_ ?_
    · refine .a 1 rfl <| .v (y_q rfl (hq1)) rfl <| .a 1 rfl <| ?_
      cases q1
      · exact .a 3 rfl <| .v (y_q rfl (hq2)) rfl <| .a 1 rfl <| .k [28, 1, 2, 3, 4] rfl
      · exact .a 5 rfl <| .k [28, 1, 2, 3, 4] rfl
    refine W_cond rfl (fun hc => ?_) (fun hc => ?_)
    · have hch : chkE T D [n] = 2 := by
        unfold chkE
        rw [if_pos hok, if_neg]
        simp [hnb, hc]
      refine W_cs (.a 2 rfl <| .k [8, 9] rfl) ?_
      refine W_ret ?_
      exact ⟨_, _, ResL.of rfl, Pur.tupleL (PurL.cons Pur.nils (PurL.cons Pur.pure PurL.nil)), by unfold intsE; rw [hch]; rfl⟩
    · have hnb' : nodeB T n = true := by rw [hnb, hc]; rfl
      have hch : chkE T D [n] = 0 := by
        unfold chkE
        rw [if_pos hok, if_pos]
        simp [hnb']
      obtain ⟨hv, hf⟩ := Bool.and_eq_true_iff.1 hok
      have hn := nodeB_iff.1 hnb'
      obtain ⟨n, rfl⟩ := Int.eq_ofNat_of_zero_le hn.1
      have hS := sound_of hv
      have hbd := valid_bd hv
      obtain ⟨N, hN⟩ : ∃ N : Nat, T.nodes = (N : Int) := ⟨T.nodes.toNat, by omega⟩
      have hN64 : N ≤ 64 := by have := hS.nodes; omega
      have hnN : n < N := by omega
      clear hc hq1 hq2 hnb
      refine W_skip ?_
      refine W_rs ?_
      refine WR_a 2 rfl <| WR_l (l_make rfl (fok.rk.get rfl) rfl rfl hN hN ⟨by unfold maxLen; omega, by omega⟩) rfl <| WR_a 1 rfl <| WR_k [1, 2, 3, 4, 10] rfl ?_
      refine W_seq ?_
      refine W_cs (.a 1 rfl <| .k [1, 2, 3, 4, 10, 11] rfl) ?_
      refine W_block ?_
      refine W_k [1, 2, 3, 4, 10, 11] rfl ?_
      refine W_loop (fun r s => ∃ k, k ≤ N ∧ r = N - k ∧ s = ⟨[(1, boolsV D), (2, num n), (3, flag dir), (4, .pin (topoP T) 0), (10, .own 0), (11, num k)], [some (.row 3 1 N (intsP (initTo N k)))]⟩) N ⟨0, by omega, by omega, by have := zeros_ints N; unfold initTo; simp only [List.replicate_zero, List.nil_append, Nat.sub_zero]; rw [← this]; rfl⟩ ?_
      rintro r s ⟨k, hk, rfl, rfl⟩
      refine W_seq ?_
      refine W_cs (.a 4 rfl <| .k [1, 2, 3, 4, 10, 11, 35] rfl) ?_
      refine W_cond rfl (fun hc => ?_) (fun hc => ?_)
      · have hlt : k < N := by have := of_decide_eq_true hc; omega
        have hil : (initTo N k).length = N := by simp [initTo]; omega
        refine W_skip ?_
        refine W_seq ?_
        refine W_block ?_
        refine W_region ?_
        refine WR_a 2 rfl <| WR_v (y_ix (k) rfl) rfl <| WR_loud0 ((by first | exact l_storeInts rfl (fok.tk.get rfl) rfl rfl rfl (by first | omega | (simp; omega)) | exact l_storeBools rfl (fok.tk.get rfl) rfl rfl rfl (by first | omega | (simp; omega)))) rfl rfl <| WR_k [1, 2, 3, 4, 10, 11] rfl ?_
        refine W_sto (σ' := [some (.row 3 1 N (intsP (initTo N (k + 1))))]) (by rw [← initTo_succ N k hlt]; rfl) ?_
        refine W_chain (.a 1 rfl <| .v (y_ar rfl) rfl <| .a 1 rfl <| .k [1, 2, 3, 4, 10, 11] rfl) ?_
        exact ⟨N - (k + 1), by omega, k + 1, by omega, rfl, rfl⟩
      · have hke : k = N := by have := of_decide_eq_false hc; omega
        subst hke
        have hil : (initTo k k).length = k := by simp [initTo]
        refine W_exit ?_
        refine W_rs ?_
        refine WR_a 2 rfl <| WR_v (y_ix (n) rfl) rfl <| WR_loud0 ((by first | exact l_storeInts rfl (fok.tk.get rfl) rfl rfl rfl (by first | omega | (simp; omega)) | exact l_storeBools rfl (fok.tk.get rfl) rfl rfl rfl (by first | omega | (simp; omega)))) rfl rfl <| WR_k [1, 2, 3, 4, 10] rfl ?_
        refine W_sto (σ' := [some (.row 3 1 k (intsP (Net.start k n)))]) (by rw [← initTo_all k n]; rfl) ?_
        have hI0 := start_inv (T := T) (D := D) (N := k) (n := n) (dir := dir) hN.symm hnN
        generalize Net.start k n = out0 at hI0
        refine W_seq ?_
        refine W_cs (.a 1 rfl <| .k [1, 2, 3, 4, 10, 12] rfl) ?_
        refine W_block ?_
        refine W_k [1, 2, 3, 4, 10, 12] rfl ?_
        refine W_loop (fun r s => ∃ (out : List Int) (b : Bool), Inv T D n dir out ∧ (b = false → ∀ a, a < 2 * T.links.length → ¬ Gains T D n dir out a) ∧ r = 2 * mu out + b.toNat ∧ s = ⟨[(1, boolsV D), (2, num n), (3, flag dir), (4, .pin (topoP T) 0), (10, .own 0), (12, flag b)], [some (.row 3 1 k (intsP out))]⟩) (2 * mu out0 + 1) ⟨out0, true, hI0, (fun h => by cases h), rfl, rfl⟩ ?_
        clear hI0 out0
        rintro r s ⟨out, b, hI, hb, rfl, rfl⟩
        refine W_seq ?_
        refine W_cs (.a 1 rfl <| .k [1, 2, 3, 4, 10, 44] rfl) ?_
        refine W_cond rfl (fun hc => ?_) (fun hc => ?_)
        · subst hc
          refine W_skip ?_
          refine W_block ?_
          refine W_cs (.a 1 rfl <| .k [1, 2, 3, 4, 10, 12] rfl) ?_
          refine W_cs (.a 1 rfl <| .k [1, 2, 3, 4, 10, 12, 13] rfl) ?_
          refine W_block ?_
          refine W_k [1, 2, 3, 4, 10, 12, 13] rfl ?_
          refine W_loop (fun r s => ∃ (k' : Nat) (out' : List Int) (b' : Bool), k' ≤ 2 * T.links.length ∧ Inv T D n dir out' ∧ (b' = false → out' = out ∧ ∀ a, a < k' → ¬ Gains T D n dir out a) ∧ (b' = true → mu out' < mu out) ∧ r = 2 * T.links.length - k' ∧ s = ⟨[(1, boolsV D), (2, num n), (3, flag dir), (4, .pin (topoP T) 0), (10, .own 0), (12, flag b'), (13, num k')], [some (.row 3 1 k (intsP out'))]⟩) (2 * T.links.length) ⟨0, out, false, by omega, hI, (fun _ => ⟨rfl, fun a ha => by omega⟩), (fun h => by cases h), by omega, rfl⟩ ?_
          rintro r s ⟨a, out', b', ha, hI', hb', ht', rfl, rfl⟩
          refine W_seq ?_
          refine W_cs (.a 4 rfl <| .v (y_ar rfl (hc := rfl)) rfl <| .a 1 rfl <| .k [1, 2, 3, 4, 10, 12, 13, 50] rfl) ?_
          refine W_cond rfl (fun hc => ?_) (fun hc => ?_)
          · have ham : a < 2 * T.links.length := by have := of_decide_eq_true hc; omega
            obtain ⟨p, hp⟩ := Int.eq_ofNat_of_zero_le (hS.tail a ham).1
            obtain ⟨q, hq⟩ := Int.eq_ofNat_of_zero_le (hS.head a ham).1
            have hpN : p < k := by have := (hS.tail a ham).2; omega
            have hqN : q < k := by have := (hS.head a ham).2; omega
            have hcb := hS.cost a ham
            have hDl : D.length = 0 ∨ a < D.length := by simp only [fitsB, decide_eq_true_eq] at hf; omega
            have hol : out'.length = k := by have := hI'.len; omega
            refine W_skip ?_
            refine W_seq ?_
            refine W_block ?_
            refine W_drs mixed (by kernel_rfl) (.a 2 rfl <| .v [53, 54] (y_c rfl (hp ▸ rtailN_can T hv a ham)) rfl rfl <| .a 2 rfl <| .v [56, 57] (y_c rfl (hq ▸ rheadN_can T hv a ham)) rfl rfl <| .a 2 rfl <| .k [1, 2, 3, 4, 10, 12, 13, 14, 15] rfl) ?_
            refine W_seq ?_
            refine W_cs (.a 1 rfl <| .k [1, 2, 3, 4, 10, 12, 13, 14, 15, 59] rfl) ?_
            refine W_cond rfl (fun hdir => ?_) (fun hdir => ?_)
            · obtain ⟨x, y, hx, hy, ex, ey⟩ : ∃ x y : Nat, arcX T dir a = (x : Int) ∧ arcY T dir a = (y : Int) ∧ x = q ∧ y = p := ⟨q, p, by rw [hdir]; exact hq, by rw [hdir]; exact hp, rfl, rfl⟩
              subst ex
              subst ey
              refine W_chain (.a 4 rfl <| .k [1, 2, 3, 4, 10, 12, 13, 14, 15] rfl) ?_
              refine W_seq ?_
              have gx : out'.getD x 0 = at' out' (x : Int) := by simp [at', List.getD_eq_getElem?_getD, show x < out'.length by omega]
              have gy : out'.getD y 0 = at' out' (y : Int) := by simp [at', List.getD_eq_getElem?_getD, show y < out'.length by omega]
              have uy := hI'.ub y (by omega) (by omega)
              have ly := hI'.ge y (by omega)
              obtain ⟨p1, hp1⟩ : ∃ q, (!downN D a) = q := ⟨_, rfl⟩
              obtain ⟨p2, hp2⟩ : ∃ q, decide (out'.getD y 0 < 0) = q := ⟨_, rfl⟩
              obtain ⟨p3, hp3⟩ : ∃ q, (decide (y = n) || !overN T y) = q := ⟨_, rfl⟩
              refine W_csK 79 (.raw (.bool (((!p1) || p2) || (!p3)))) [1, 2, 3, 4, 10, 12, 13, 14, 15] rfl ?_ ?_
              · refine .a 2 rfl <| .c rfl (hp1 ▸ rup_can D a hDl) rfl <| .a 2 rfl <| ?_
                cases p1
                · exact .a 13 rfl <| .k [79, 1, 2, 3, 4, 10, 12, 13, 14, 15] rfl
                · refine .a 2 rfl <| .v (y_ix (y) rfl) rfl <| .v (y_ld rfl (ints_get out' y (by omega))) rfl <| .v (y_q rfl (hp2)) rfl <| .a 2 rfl <| ?_
                  cases p2
                  · exact .a 3 rfl <| .c rfl (hp3 ▸ rtransit_can T hv y n) rfl <| .a 2 rfl <| .k [79, 1, 2, 3, 4, 10, 12, 13, 14, 15] rfl
                  · exact .a 6 rfl <| .k [79, 1, 2, 3, 4, 10, 12, 13, 14, 15] rfl
              refine W_cond rfl (fun hc => ?_) (fun hc => ?_)
              · have hng : ¬ Gains T D n dir out' a := fun hg => by
                  obtain ⟨⟨w1, w2, w3⟩, _⟩ := hg
                  rw [hy] at w2 w3
                  have e1 : p1 = true := by rw [← hp1, w1]; rfl
                  have e2 : p2 = false := by rw [← hp2, gy]; simp; omega
                  have e3 : p3 = true := by
                    rw [← hp3]
                    rcases w3 with w3 | w3
                    · have : y = n := by omega
                      simp [this]
                    · rw [Int.toNat_natCast] at w3; simp [w3]
                  rw [e1, e2, e3] at hc
                  cases hc
                refine W_exit ?_
                refine W_chain (.a 1 rfl <| .v (y_ar rfl) rfl <| .a 1 rfl <| .k [1, 2, 3, 4, 10, 12, 13] rfl) ?_
                first
                  | exact ⟨2 * T.links.length - (a + 1), by omega, a + 1, _, true, by omega, hIg, fun h => (by cases h), fun _ => (by by_cases e : b' = true; (have := ht' e; omega); (have := (hb' (by cases b'; rfl; exact absurd rfl e)).1; rw [this] at hmg; rw [this]; exact hmg)), rfl, rfl⟩
                  | exact ⟨2 * T.links.length - (a + 1), by omega, a + 1, out', b', by omega, hI', fun h => ⟨(hb' h).1, fun c hc' => by by_cases e : c = a; (rw [e, ← (hb' h).1]; exact hng); exact (hb' h).2 c (by omega)⟩, ht', rfl, rfl⟩
              · have hway : Net.Way T D n dir out' a := by
                  obtain ⟨c1, c3⟩ := Bool.or_eq_false_iff.1 hc
                  obtain ⟨c1, c2⟩ := Bool.or_eq_false_iff.1 c1
                  have e1 : p1 = true := by cases p1; cases c1; rfl
                  have e3 : p3 = true := by cases p3; cases c3; rfl
                  rw [e1] at hp1
                  rw [c2] at hp2
                  rw [e3] at hp3
                  refine ⟨by revert hp1; cases downN D a <;> simp, ?_, ?_⟩
                  · rw [hy, ← gy]; have := of_decide_eq_false hp2; omega
                  · rw [hy, Int.toNat_natCast]
                    rcases Bool.or_eq_true_iff.1 hp3 with h | h
                    · exact .inl (by have := of_decide_eq_true h; omega)
                    · exact .inr (by revert h; cases overN T y <;> simp)
                have wy := hway.2.1
                rw [hy] at wy
                refine W_skip ?_
                refine W_drs mixed (by kernel_rfl) (.a 2 rfl <| .v [80, 81] (y_ix (y) rfl) rfl rfl <| .v [82] (y_ld rfl ((ints_get out' y (by omega)).trans (by rw [gy]))) rfl rfl <| .a 2 rfl <| .v [84, 85] (y_c rfl (rcostN_can T hv a ham)) rfl rfl <| .v [83, 86] (y_ar rfl) rfl rfl <| .a 1 rfl <| .k [1, 2, 3, 4, 10, 12, 13, 14, 16] rfl) ?_
                obtain ⟨p4, hp4⟩ : ∃ q, decide (at' out' (x : Int) < 0) = q := ⟨_, rfl⟩
                obtain ⟨p5, hp5⟩ : ∃ q, decide (at' out' (y : Int) + costN T a < at' out' (x : Int)) = q := ⟨_, rfl⟩
                refine W_csK 100 (.raw (.bool (p4 || p5))) [1, 2, 3, 4, 10, 12, 13, 14, 16] rfl ?_ ?_
                · refine .a 2 rfl <| .v (y_ix (x) rfl) rfl <| .v (y_ld rfl ((ints_get out' x (by omega)).trans (by rw [gx]))) rfl <| .v (y_q rfl (hp4)) rfl <| .a 1 rfl <| ?_
                  cases p4
                  · exact .a 3 rfl <| .v (y_ix (x) rfl) rfl <| .v (y_ld rfl ((ints_get out' x (by omega)).trans (by rw [gx]))) rfl <| .v (y_q rfl (hp5)) rfl <| .a 1 rfl <| .k [100, 1, 2, 3, 4, 10, 12, 13, 14, 16] rfl
                  · exact .a 7 rfl <| .k [100, 1, 2, 3, 4, 10, 12, 13, 14, 16] rfl
                refine W_cond rfl (fun hc => ?_) (fun hc => ?_)
                · have hg : Gains T D n dir out' a := ⟨hway, by
                    rw [hx, hy]
                    rcases Bool.or_eq_true_iff.1 hc with h | h
                    · rw [h] at hp4; exact .inl (of_decide_eq_true hp4)
                    · rw [h] at hp5; exact .inr (of_decide_eq_true hp5)⟩
                  obtain ⟨hIg, hmg⟩ := gain_inv hS hI' a ham hg
                  have hge : gain T dir out' a = out'.set x (at' out' (y : Int) + costN T a) := by unfold gain; rw [hx, hy, Int.toNat_natCast]
                  rw [hge] at hIg hmg
                  refine W_rs ?_
                  refine WR_a 3 rfl <| WR_v (y_ix (x) rfl) rfl <| WR_loud0 ((by first | exact l_storeInts rfl (fok.tk.get rfl) rfl rfl rfl (by first | omega | (simp; omega)) | exact l_storeBools rfl (fok.tk.get rfl) rfl rfl rfl (by first | omega | (simp; omega)))) rfl rfl <| WR_k [1, 2, 3, 4, 10, 13] rfl ?_
                  refine W_chain (.a 1 rfl <| .k [1, 2, 3, 4, 10, 12, 13] rfl) ?_
                  refine W_chain (.a 1 rfl <| .v (y_ar rfl) rfl <| .a 1 rfl <| .k [1, 2, 3, 4, 10, 12, 13] rfl) ?_
                  first
                    | exact ⟨2 * T.links.length - (a + 1), by omega, a + 1, _, true, by omega, hIg, fun h => (by cases h), fun _ => (by by_cases e : b' = true; (have := ht' e; omega); (have := (hb' (by cases b'; rfl; exact absurd rfl e)).1; rw [this] at hmg; rw [this]; exact hmg)), rfl, rfl⟩
                    | exact ⟨2 * T.links.length - (a + 1), by omega, a + 1, out', b', by omega, hI', fun h => ⟨(hb' h).1, fun c hc' => by by_cases e : c = a; (rw [e, ← (hb' h).1]; exact hng); exact (hb' h).2 c (by omega)⟩, ht', rfl, rfl⟩
                · have hng : ¬ Gains T D n dir out' a := fun hg => by
                    obtain ⟨_, hg⟩ := hg
                    rw [hx, hy] at hg
                    obtain ⟨c1, c2⟩ := Bool.or_eq_false_iff.1 hc
                    rw [c1] at hp4
                    rw [c2] at hp5
                    rcases hg with h | h
                    · exact of_decide_eq_false hp4 h
                    · exact of_decide_eq_false hp5 h
                  refine W_skip ?_
                  refine W_chain (.a 1 rfl <| .v (y_ar rfl) rfl <| .a 1 rfl <| .k [1, 2, 3, 4, 10, 12, 13] rfl) ?_
                  first
                    | exact ⟨2 * T.links.length - (a + 1), by omega, a + 1, _, true, by omega, hIg, fun h => (by cases h), fun _ => (by by_cases e : b' = true; (have := ht' e; omega); (have := (hb' (by cases b'; rfl; exact absurd rfl e)).1; rw [this] at hmg; rw [this]; exact hmg)), rfl, rfl⟩
                    | exact ⟨2 * T.links.length - (a + 1), by omega, a + 1, out', b', by omega, hI', fun h => ⟨(hb' h).1, fun c hc' => by by_cases e : c = a; (rw [e, ← (hb' h).1]; exact hng); exact (hb' h).2 c (by omega)⟩, ht', rfl, rfl⟩
            · obtain ⟨x, y, hx, hy, ex, ey⟩ : ∃ x y : Nat, arcX T dir a = (x : Int) ∧ arcY T dir a = (y : Int) ∧ x = p ∧ y = q := ⟨p, q, by rw [hdir]; exact hp, by rw [hdir]; exact hq, rfl, rfl⟩
              subst ex
              subst ey
              refine W_skip ?_
              refine W_seq ?_
              have gx : out'.getD x 0 = at' out' (x : Int) := by simp [at', List.getD_eq_getElem?_getD, show x < out'.length by omega]
              have gy : out'.getD y 0 = at' out' (y : Int) := by simp [at', List.getD_eq_getElem?_getD, show y < out'.length by omega]
              have uy := hI'.ub y (by omega) (by omega)
              have ly := hI'.ge y (by omega)
              obtain ⟨p1, hp1⟩ : ∃ q, (!downN D a) = q := ⟨_, rfl⟩
              obtain ⟨p2, hp2⟩ : ∃ q, decide (out'.getD y 0 < 0) = q := ⟨_, rfl⟩
              obtain ⟨p3, hp3⟩ : ∃ q, (decide (y = n) || !overN T y) = q := ⟨_, rfl⟩
              refine W_csK 79 (.raw (.bool (((!p1) || p2) || (!p3)))) [1, 2, 3, 4, 10, 12, 13, 14, 15] rfl ?_ ?_
              · refine .a 2 rfl <| .c rfl (hp1 ▸ rup_can D a hDl) rfl <| .a 2 rfl <| ?_
                cases p1
                · exact .a 13 rfl <| .k [79, 1, 2, 3, 4, 10, 12, 13, 14, 15] rfl
                · refine .a 2 rfl <| .v (y_ix (y) rfl) rfl <| .v (y_ld rfl (ints_get out' y (by omega))) rfl <| .v (y_q rfl (hp2)) rfl <| .a 2 rfl <| ?_
                  cases p2
                  · exact .a 3 rfl <| .c rfl (hp3 ▸ rtransit_can T hv y n) rfl <| .a 2 rfl <| .k [79, 1, 2, 3, 4, 10, 12, 13, 14, 15] rfl
                  · exact .a 6 rfl <| .k [79, 1, 2, 3, 4, 10, 12, 13, 14, 15] rfl
              refine W_cond rfl (fun hc => ?_) (fun hc => ?_)
              · have hng : ¬ Gains T D n dir out' a := fun hg => by
                  obtain ⟨⟨w1, w2, w3⟩, _⟩ := hg
                  rw [hy] at w2 w3
                  have e1 : p1 = true := by rw [← hp1, w1]; rfl
                  have e2 : p2 = false := by rw [← hp2, gy]; simp; omega
                  have e3 : p3 = true := by
                    rw [← hp3]
                    rcases w3 with w3 | w3
                    · have : y = n := by omega
                      simp [this]
                    · rw [Int.toNat_natCast] at w3; simp [w3]
                  rw [e1, e2, e3] at hc
                  cases hc
                refine W_exit ?_
                refine W_chain (.a 1 rfl <| .v (y_ar rfl) rfl <| .a 1 rfl <| .k [1, 2, 3, 4, 10, 12, 13] rfl) ?_
                first
                  | exact ⟨2 * T.links.length - (a + 1), by omega, a + 1, _, true, by omega, hIg, fun h => (by cases h), fun _ => (by by_cases e : b' = true; (have := ht' e; omega); (have := (hb' (by cases b'; rfl; exact absurd rfl e)).1; rw [this] at hmg; rw [this]; exact hmg)), rfl, rfl⟩
                  | exact ⟨2 * T.links.length - (a + 1), by omega, a + 1, out', b', by omega, hI', fun h => ⟨(hb' h).1, fun c hc' => by by_cases e : c = a; (rw [e, ← (hb' h).1]; exact hng); exact (hb' h).2 c (by omega)⟩, ht', rfl, rfl⟩
              · have hway : Net.Way T D n dir out' a := by
                  obtain ⟨c1, c3⟩ := Bool.or_eq_false_iff.1 hc
                  obtain ⟨c1, c2⟩ := Bool.or_eq_false_iff.1 c1
                  have e1 : p1 = true := by cases p1; cases c1; rfl
                  have e3 : p3 = true := by cases p3; cases c3; rfl
                  rw [e1] at hp1
                  rw [c2] at hp2
                  rw [e3] at hp3
                  refine ⟨by revert hp1; cases downN D a <;> simp, ?_, ?_⟩
                  · rw [hy, ← gy]; have := of_decide_eq_false hp2; omega
                  · rw [hy, Int.toNat_natCast]
                    rcases Bool.or_eq_true_iff.1 hp3 with h | h
                    · exact .inl (by have := of_decide_eq_true h; omega)
                    · exact .inr (by revert h; cases overN T y <;> simp)
                have wy := hway.2.1
                rw [hy] at wy
                refine W_skip ?_
                refine W_drs mixed (by kernel_rfl) (.a 2 rfl <| .v [80, 81] (y_ix (y) rfl) rfl rfl <| .v [82] (y_ld rfl ((ints_get out' y (by omega)).trans (by rw [gy]))) rfl rfl <| .a 2 rfl <| .v [84, 85] (y_c rfl (rcostN_can T hv a ham)) rfl rfl <| .v [83, 86] (y_ar rfl) rfl rfl <| .a 1 rfl <| .k [1, 2, 3, 4, 10, 12, 13, 14, 16] rfl) ?_
                obtain ⟨p4, hp4⟩ : ∃ q, decide (at' out' (x : Int) < 0) = q := ⟨_, rfl⟩
                obtain ⟨p5, hp5⟩ : ∃ q, decide (at' out' (y : Int) + costN T a < at' out' (x : Int)) = q := ⟨_, rfl⟩
                refine W_csK 100 (.raw (.bool (p4 || p5))) [1, 2, 3, 4, 10, 12, 13, 14, 16] rfl ?_ ?_
                · refine .a 2 rfl <| .v (y_ix (x) rfl) rfl <| .v (y_ld rfl ((ints_get out' x (by omega)).trans (by rw [gx]))) rfl <| .v (y_q rfl (hp4)) rfl <| .a 1 rfl <| ?_
                  cases p4
                  · exact .a 3 rfl <| .v (y_ix (x) rfl) rfl <| .v (y_ld rfl ((ints_get out' x (by omega)).trans (by rw [gx]))) rfl <| .v (y_q rfl (hp5)) rfl <| .a 1 rfl <| .k [100, 1, 2, 3, 4, 10, 12, 13, 14, 16] rfl
                  · exact .a 7 rfl <| .k [100, 1, 2, 3, 4, 10, 12, 13, 14, 16] rfl
                refine W_cond rfl (fun hc => ?_) (fun hc => ?_)
                · have hg : Gains T D n dir out' a := ⟨hway, by
                    rw [hx, hy]
                    rcases Bool.or_eq_true_iff.1 hc with h | h
                    · rw [h] at hp4; exact .inl (of_decide_eq_true hp4)
                    · rw [h] at hp5; exact .inr (of_decide_eq_true hp5)⟩
                  obtain ⟨hIg, hmg⟩ := gain_inv hS hI' a ham hg
                  have hge : gain T dir out' a = out'.set x (at' out' (y : Int) + costN T a) := by unfold gain; rw [hx, hy, Int.toNat_natCast]
                  rw [hge] at hIg hmg
                  refine W_rs ?_
                  refine WR_a 3 rfl <| WR_v (y_ix (x) rfl) rfl <| WR_loud0 ((by first | exact l_storeInts rfl (fok.tk.get rfl) rfl rfl rfl (by first | omega | (simp; omega)) | exact l_storeBools rfl (fok.tk.get rfl) rfl rfl rfl (by first | omega | (simp; omega)))) rfl rfl <| WR_k [1, 2, 3, 4, 10, 13] rfl ?_
                  refine W_chain (.a 1 rfl <| .k [1, 2, 3, 4, 10, 12, 13] rfl) ?_
                  refine W_chain (.a 1 rfl <| .v (y_ar rfl) rfl <| .a 1 rfl <| .k [1, 2, 3, 4, 10, 12, 13] rfl) ?_
                  first
                    | exact ⟨2 * T.links.length - (a + 1), by omega, a + 1, _, true, by omega, hIg, fun h => (by cases h), fun _ => (by by_cases e : b' = true; (have := ht' e; omega); (have := (hb' (by cases b'; rfl; exact absurd rfl e)).1; rw [this] at hmg; rw [this]; exact hmg)), rfl, rfl⟩
                    | exact ⟨2 * T.links.length - (a + 1), by omega, a + 1, out', b', by omega, hI', fun h => ⟨(hb' h).1, fun c hc' => by by_cases e : c = a; (rw [e, ← (hb' h).1]; exact hng); exact (hb' h).2 c (by omega)⟩, ht', rfl, rfl⟩
                · have hng : ¬ Gains T D n dir out' a := fun hg => by
                    obtain ⟨_, hg⟩ := hg
                    rw [hx, hy] at hg
                    obtain ⟨c1, c2⟩ := Bool.or_eq_false_iff.1 hc
                    rw [c1] at hp4
                    rw [c2] at hp5
                    rcases hg with h | h
                    · exact of_decide_eq_false hp4 h
                    · exact of_decide_eq_false hp5 h
                  refine W_skip ?_
                  refine W_chain (.a 1 rfl <| .v (y_ar rfl) rfl <| .a 1 rfl <| .k [1, 2, 3, 4, 10, 12, 13] rfl) ?_
                  first
                    | exact ⟨2 * T.links.length - (a + 1), by omega, a + 1, _, true, by omega, hIg, fun h => (by cases h), fun _ => (by by_cases e : b' = true; (have := ht' e; omega); (have := (hb' (by cases b'; rfl; exact absurd rfl e)).1; rw [this] at hmg; rw [this]; exact hmg)), rfl, rfl⟩
                    | exact ⟨2 * T.links.length - (a + 1), by omega, a + 1, out', b', by omega, hI', fun h => ⟨(hb' h).1, fun c hc' => by by_cases e : c = a; (rw [e, ← (hb' h).1]; exact hng); exact (hb' h).2 c (by omega)⟩, ht', rfl, rfl⟩
          · have hae : a = 2 * T.links.length := by have := of_decide_eq_false hc; omega
            refine W_sub (.cons (k := 1) rfl <| .cons (k := 2) rfl <| .cons (k := 3) rfl <| .cons (k := 4) rfl <| .cons (k := 10) rfl <| .cons (k := 12) rfl <| Sub.nil _) ?_
            refine W_exit ?_
            refine ⟨_, ?_, out', b', hI', fun h => ?_, rfl, rfl⟩
            · cases b'
              · rw [(hb' rfl).1]; simp
              · have := ht' rfl; simp; omega
            · rw [(hb' h).1]; intro c hc'; exact (hb' h).2 c (by omega)
        · have hdist : distL T D n dir = out := distL_eq hS (inv_dist hI (hb hc))
          refine W_exit ?_
          refine W_cs (.a 3 rfl <| .k [8, 9] rfl) ?_
          refine W_ret ?_
          refine ⟨_, _, ResL.of rfl, Pur.tupleL (PurL.cons (Pur.ownL rfl PurL.pure) (PurL.cons Pur.pure PurL.nil)), ?_⟩
          unfold intsE
          rw [hch, if_pos rfl, Int.toNat_natCast, hdist]
          unfold intsV
          rw [show out.length = k by have := hI.len; omega]

set_option maxRecDepth 10000 in
set_option maxHeartbeats 1000000 in
theorem rdist_can (T : Topo) (D : List Bool) (d : Int) : Can Tryz.prog 64 [topoV T, boolsV D, num d] (· = intsE (chkE T D [d]) (distL T D d.toNat false)) := by
  refine can_of Tryz.func64 rfl Tryz.ntmps64 rfl ?_
  refine W_cs (.a 3 rfl <| .k [1, 2, 3] rfl) ?_
  refine W_cs (.a 3 rfl <| .c rfl (rsearch_can T D d false) rfl <| .a 4 rfl <| .k [6, 7] rfl) ?_
  refine W_ret ?_
  exact ⟨_, _, ResL.of rfl, Pur.pure, rfl⟩
end PW
end Go.Proofs.YtbpgndbjbaoolaaGreat

/- The reference of layer 12: next arcs; Out of layer 9. -/
namespace Go.Proofs.YtbpgndbjbaoolaaGreat
set_option linter.unusedVariables false
set_option linter.unusedSimpArgs false
namespace PW
open Go.RowKit Reg Mem Net

def onB (T : Topo) (D : List Bool) (L : List Int) (a d : Nat) : Bool :=
  ((((!downN D a) && decide (tailN T a ≠ (d : Int))) && decide (0 ≤ L.getD (headN T a).toNat 0)) && (decide ((headN T a).toNat = d) || !overN T (headN T a).toNat)) && decide (L.getD (tailN T a).toNat 0 = L.getD (headN T a).toNat 0 + costN T a)

set_option maxRecDepth 10000 in
set_option maxHeartbeats 1000000 in
theorem on_can (T : Topo) (D : List Bool) (L : List Int) (a d : Nat) (hv : validB T = true) (hf : fitsB T D = true) (hL : (L.length : Int) = T.nodes) (hub : ∀ x ∈ L, -1 ≤ x ∧ x ≤ 4194240) (ha : a < 2 * T.links.length) :
    Can Tryz.prog 65 [topoV T, boolsV D, intsV L, num a, num d] (· = flag (onB T D L a d)) := by
  have hS := sound_of hv
  obtain ⟨x, hx⟩ := Int.eq_ofNat_of_zero_le (hS.tail a ha).1
  obtain ⟨y, hy⟩ := Int.eq_ofNat_of_zero_le (hS.head a ha).1
  have hxL : x < L.length := by have := (hS.tail a ha).2; omega
  have hyL : y < L.length := by have := (hS.head a ha).2; omega
  have hcb := hS.cost a ha
  have hDl : D.length = 0 ∨ a < D.length := by simp only [fitsB, decide_eq_true_eq] at hf; omega
  have uy := hub _ (getD_mem (d := 0) hyL)
  obtain ⟨p1, hp1⟩ : ∃ q, (!downN D a) = q := ⟨_, rfl⟩
  obtain ⟨p2, hp2⟩ : ∃ q, decide ((x : Int) ≠ (d : Int)) = q := ⟨_, rfl⟩
  obtain ⟨p3, hp3⟩ : ∃ q, decide (0 ≤ L.getD y 0) = q := ⟨_, rfl⟩
  obtain ⟨p4, hp4⟩ : ∃ q, (decide (y = d) || !overN T y) = q := ⟨_, rfl⟩
  obtain ⟨p5, hp5⟩ : ∃ q, decide (L.getD x 0 = L.getD y 0 + costN T a) = q := ⟨_, rfl⟩
  have hon : onB T D L a d = ((((p1 && p2) && p3) && p4) && p5) := by
    unfold onB
    rw [hx, hy, Int.toNat_natCast, Int.toNat_natCast, hp1, hp2, hp3, hp4, hp5]
  rw [hon]
  refine can_of Tryz.func65 rfl Tryz.ntmps65 rfl ?_
  refine W_cs (.a 2 rfl <| .k [1, 2, 3, 4, 5] rfl) ?_
  refine W_drs mixed (by kernel_rfl) (.a 2 rfl <| .v [13, 14] (y_c rfl (hx ▸ rtailN_can T hv a ha)) rfl rfl <| .a 2 rfl <| .v [16, 17] (y_c rfl (hy ▸ rheadN_can T hv a ha)) rfl rfl <| .a 2 rfl <| .k [1, 2, 3, 4, 5, 11, 12] rfl) ?_
  refine W_drsK mixed (by kernel_rfl) 10 (.raw (.bool ((((p1 && p2) && p3) && p4) && p5))) [] rfl ?_ ?_
  · refine .a 2 rfl <| .v [19, 20] (y_c rfl (hp1 ▸ rup_can D a hDl)) rfl rfl <| .a 1 rfl <| ?_
    cases p1
    · exact .a 33 rfl <| .k [10] rfl
    · refine .a 2 rfl <| .v [23, 24] (y_q rfl (hp2)) rfl rfl <| .a 2 rfl <| ?_
      cases p2
      · exact .a 28 rfl <| .k [10] rfl
      · refine .a 2 rfl <| .v [28, 29] (y_ix (y) rfl) rfl rfl <| .v [30] (y_ld rfl (ints_get L y hyL)) rfl rfl <| .v [31] (y_q rfl (hp3)) rfl rfl <| .a 2 rfl <| ?_
        cases p3
        · exact .a 21 rfl <| .k [10] rfl
        · refine .a 3 rfl <| .v [35, 36, 37] (y_c rfl (hp4 ▸ rtransit_can T hv y d)) rfl rfl <| .a 2 rfl <| ?_
          cases p4
          · exact .a 15 rfl <| .k [10] rfl
          · exact .a 2 rfl <| .v [41, 42] (y_ix (x) rfl) rfl rfl <| .v [43] (y_ld rfl (ints_get L x hxL)) rfl rfl <| .a 2 rfl <| .v [45, 46] (y_ix (y) rfl) rfl rfl <| .v [47] (y_ld rfl (ints_get L y hyL)) rfl rfl <| .a 2 rfl <| .v [49, 50] (y_c rfl (rcostN_can T hv a ha)) rfl rfl <| .v [48, 51] (y_ar rfl) rfl rfl <| .v [44, 52] (y_q rfl (hp5)) rfl rfl <| .a 2 rfl <| .k [10] rfl
  refine W_ret ?_
  exact ⟨_, _, ResL.of rfl, Pur.pure, rfl⟩

def rnextTo (T : Topo) (D : List Bool) (L : List Int) (n d k : Nat) : List Int := ((List.range k).filter fun a => decide (tailN T a = (n : Int)) && onB T D L a d).map Int.ofNat
theorem rnextTo_step (T : Topo) (D : List Bool) (L : List Int) (n d k : Nat) : rnextTo T D L n d (k + 1) = rnextTo T D L n d k ++ (if decide (tailN T k = (n : Int)) && onB T D L k d then [(k : Int)] else []) := by
  unfold rnextTo
  rw [List.range_succ, List.filter_append, List.map_append]
  congr 1
  simp only [List.filter_cons, List.filter_nil]
  split <;> simp
theorem rnextTo_len (T : Topo) (D : List Bool) (L : List Int) (n d k : Nat) : (rnextTo T D L n d k).length ≤ k := by
  unfold rnextTo
  rw [List.length_map]
  exact Nat.le_trans (List.length_filter_le _ _) (by simp)

set_option maxRecDepth 10000 in
set_option maxHeartbeats 1000000 in
theorem rnext1_can (T : Topo) (D : List Bool) (L : List Int) (n d : Nat) (hv : validB T = true) (hf : fitsB T D = true) (hL : (L.length : Int) = T.nodes) (hub : ∀ x ∈ L, -1 ≤ x ∧ x ≤ 4194240) :
    Can Tryz.prog 121 [topoV T, boolsV D, intsV L, num n, num d] (· = intsV (rnextTo T D L n d (2 * T.links.length))) := by
  have hll := links_le hv
  refine can_of Tryz.func121 rfl Tryz.ntmps121 rfl ?_
  refine W_cs (.a 2 rfl <| .k [1, 2, 3, 4, 5] rfl) ?_
  refine W_cs (.a 1 rfl <| .k [1, 2, 3, 4, 5, 11] rfl) ?_
  refine W_adopt 11 3 1 rfl ?_
  refine W_seq ?_
  refine W_cs (.a 1 rfl <| .k [1, 2, 3, 4, 5, 11, 12] rfl) ?_
  refine W_block ?_
  refine W_k [1, 2, 3, 4, 5, 11, 12] rfl ?_
  refine W_loop (fun r s => ∃ k, k ≤ 2 * T.links.length ∧ r = 2 * T.links.length - k ∧ s = ⟨[(1, boolsV D), (2, intsV L), (3, num n), (4, num d), (5, .pin (topoP T) 0), (11, .own 0), (12, num k)], [some (.row 3 1 (rnextTo T D L n d k).length (intsP (rnextTo T D L n d k)))]⟩) (2 * T.links.length) ⟨0, by omega, by omega, rfl⟩ ?_
  rintro r s ⟨k, hk, rfl, rfl⟩
  refine W_seq ?_
  refine W_cs (.a 4 rfl <| .v (y_ar rfl (hc := rfl)) rfl <| .a 1 rfl <| .k [1, 2, 3, 4, 5, 11, 12, 18] rfl) ?_
  refine W_cond rfl (fun hc => ?_) (fun hc => ?_)
  · have hlt : k < 2 * T.links.length := by have := of_decide_eq_true hc; omega
    have hlen := rnextTo_len T D L n d k
    have hst := rnextTo_step T D L n d k
    refine W_skip ?_
    refine W_seq ?_
    refine W_block ?_
    obtain ⟨p1, hp1⟩ : ∃ q, decide (tailN T k = (n : Int)) = q := ⟨_, rfl⟩
    obtain ⟨p2, hp2⟩ : ∃ q, onB T D L k d = q := ⟨_, rfl⟩
    refine W_csK 33 (.raw (.bool (p1 && p2))) [1, 2, 3, 4, 5, 11, 12] rfl ?_ ?_
    · refine .a 2 rfl <| .c rfl (rtailN_can T hv k hlt) rfl <| .a 1 rfl <| .v (y_q rfl (hp1)) rfl <| .a 1 rfl <| ?_
      cases p1
      · exact .a 7 rfl <| .k [33, 1, 2, 3, 4, 5, 11, 12] rfl
      · exact .a 5 rfl <| .c rfl (hp2 ▸ on_can T D L k d hv hf hL hub hlt) rfl <| .a 1 rfl <| .k [33, 1, 2, 3, 4, 5, 11, 12] rfl
    refine W_cond rfl (fun hc => ?_) (fun hc => ?_)
    · rw [hp1, hp2, hc, if_pos rfl] at hst
      refine W_region ?_
      refine WR_a 3 rfl <| WR_l (l_append rfl (fok.rk.get rfl) rfl rfl rfl rfl (by unfold maxLen; omega)) rfl <| WR_a 1 rfl ?_
      refine WR_ren [1] (.c 1 <| .c 2 <| .c 3 <| .c 4 <| .c 5 <| .c 11 <| .c 12 <| .nil) (.kept rfl (.rowP rfl (intsP_snoc _ _)) <| .nil) rfl rfl (WR_nil ?_)
      refine W_chain (.a 1 rfl <| .v (y_ar rfl) rfl <| .a 1 rfl <| .k [1, 2, 3, 4, 5, 11, 12] rfl) ?_
      refine ⟨2 * T.links.length - (k + 1), by omega, k + 1, by omega, rfl, ?_⟩
      rw [hst]
      first
        | rfl
        | (simp only [List.length_append, List.length_singleton]; rfl)
    · rw [hp1, hp2, hc, if_neg (by simp), List.append_nil] at hst
      refine W_skip ?_
      refine W_chain (.a 1 rfl <| .v (y_ar rfl) rfl <| .a 1 rfl <| .k [1, 2, 3, 4, 5, 11, 12] rfl) ?_
      refine ⟨2 * T.links.length - (k + 1), by omega, k + 1, by omega, rfl, ?_⟩
      rw [hst]
      first
        | rfl
        | (simp only [List.length_append, List.length_singleton]; rfl)
  · have hke : k = 2 * T.links.length := by have := of_decide_eq_false hc; omega
    subst hke
    refine W_exit ?_
    refine W_cs (.a 2 rfl <| .k [10] rfl) ?_
    refine W_ret ?_
    exact ⟨_, _, ResL.of rfl, Pur.ownL rfl PurL.pure, rfl⟩

theorem next_same (T : Topo) (D : List Bool) (n d : Nat) (hv : validB T = true) (hn : (n : Int) < T.nodes) : rnextTo T D (distL T D d false) n d (2 * T.links.length) = nextL T D n d := by
  have hS := sound_of hv
  unfold nextL
  generalize distL T D d false = L
  have hpass : ∀ k, k < 2 * T.links.length → (decide (tailN T k = (n : Int)) && onB T D L k d) = if n = d ∨ L.getD n 0 < 0 then false else (tailN T k == (n : Int)) && passB T D L (L.getD n 0) d k := fun k hk => by
    obtain ⟨y, hy⟩ := Int.eq_ofNat_of_zero_le (hS.head k hk).1
    have hc := hS.cost k hk
    by_cases ht : tailN T k = (n : Int)
    · simp only [ht, decide_true, Bool.true_and, beq_self_eq_true]
      unfold onB passB
      rw [ht, hy, Int.toNat_natCast, Int.toNat_natCast]
      generalize L.getD n 0 = u
      generalize L.getD y 0 = v
      by_cases h1 : n = d
      · simp [h1]
      · by_cases h2 : u < 0
        · rw [if_pos (.inr h2)]
          by_cases h3 : 0 ≤ v
          · have : ¬ u = v + costN T k := by omega
            simp [this]
          · simp [h3]
        · rw [if_neg (by omega)]
          have e1 : decide ((n : Int) ≠ (d : Int)) = true := by simp; omega
          have e2 : decide (v < 0) = !decide (0 ≤ v) := by
            by_cases h : 0 ≤ v
            · simp only [h, decide_true, Bool.not_true, decide_eq_false_iff_not]; omega
            · simp only [h, decide_false, Bool.not_false, decide_eq_true_eq]; omega
          have e3 : decide ((y : Int) ≠ (d : Int)) = !decide (y = d) := by
            by_cases h : y = d
            · simp [h]
            · simp only [h, decide_false, Bool.not_false, decide_eq_true_eq]; omega
          have e4 : decide (v + costN T k = u) = decide (u = v + costN T k) := by
            by_cases h : u = v + costN T k
            · simp [h]
            · simp only [h, decide_false, decide_eq_false_iff_not]; omega
          rw [e1, e2, e3, e4]
          generalize decide (0 ≤ v) = b1
          generalize decide (y = d) = b2
          generalize decide (u = v + costN T k) = b3
          cases downN D k <;> cases b1 <;> cases b2 <;> cases b3 <;> cases overN T y <;> rfl
    · simp [ht]
  unfold rnextTo
  rw [show (List.range (2 * T.links.length)).filter (fun a => decide (tailN T a = (n : Int)) && onB T D L a d) = (List.range (2 * T.links.length)).filter (fun k => if n = d ∨ L.getD n 0 < 0 then false else (tailN T k == (n : Int)) && passB T D L (L.getD n 0) d k) from List.filter_congr fun k hk => hpass k (List.mem_range.1 hk)]
  by_cases h : n = d ∨ L.getD n 0 < 0
  · simp only [if_pos h]; simp
  · simp only [if_neg h]
    unfold passL outL outTo
    rw [List.filter_map]
    congr 1
    rw [List.filter_filter]
    apply List.filter_congr
    intro k _
    simp [Function.comp, Bool.and_comm]

set_option maxRecDepth 10000 in
set_option maxHeartbeats 1000000 in
theorem rnext_can (T : Topo) (D : List Bool) (n d : Int) : Can Tryz.prog 83 [topoV T, boolsV D, num n, num d] (· = intsE (nodeE T D n d) (nextL T D n.toNat d.toNat)) := by
  refine can_of Tryz.func83 rfl Tryz.ntmps83 rfl ?_
  refine W_cs (.a 3 rfl <| .k [1, 2, 3, 4] rfl) ?_
  refine W_cs (.a 3 rfl <| .c rfl (rdist_can T D d) rfl <| .a 5 rfl <| .k [1, 2, 3, 4, 10, 11] rfl) ?_
  refine W_seq ?_
  refine W_cs (.a 2 rfl <| .k [1, 2, 3, 4, 10, 11, 20] rfl) ?_
  refine W_cond rfl (fun hc => ?_) (fun hc => ?_)
  · have he : chkE T D [d] ≠ 0 := of_decide_eq_true hc
    refine W_cs (.a 3 rfl <| .k [8, 9] rfl) ?_
    refine W_ret ?_
    exact ⟨_, _, ResL.of rfl, Pur.tupleL (PurL.cons Pur.nils (PurL.cons Pur.pure PurL.nil)), by unfold intsE nodeE; rw [if_neg he, if_neg he]; rfl⟩
  · have he : chkE T D [d] = 0 := by have := of_decide_eq_false hc; omega
    rw [he]
    obtain ⟨hv, hf, hd⟩ := chkE_zero he
    have hd := nodeB_iff.1 (hd d (by simp))
    obtain ⟨d, rfl⟩ := Int.eq_ofNat_of_zero_le hd.1
    obtain ⟨hb1, hb2⟩ := distL_bound (D := D) hv (dir := false) hd.2
    refine W_skip ?_
    refine W_seq ?_
    obtain ⟨q1, hq1⟩ : ∃ q, decide (n < 0) = q := ⟨_, rfl⟩
    obtain ⟨q2, hq2⟩ : ∃ q, decide (T.nodes ≤ n) = q := ⟨_, rfl⟩
    have hnb : nodeB T n = !(q1 || q2) := by rw [← hq1, ← hq2]; unfold nodeB; by_cases h1 : n < 0 <;> by_cases h2 : T.nodes ≤ n <;> simp [h1, h2] <;> omega
    refine W_csK 29 (.raw (.bool (q1 || q2))) [1, 2, 3, 4, 10] rfl ?_ ?_
    · refine .a 1 rfl <| .v (y_q rfl (hq1)) rfl <| .a 1 rfl <| ?_
      cases q1
      · exact .a 3 rfl <| .v (y_q rfl (hq2)) rfl <| .a 1 rfl <| .k [29, 1, 2, 3, 4, 10] rfl
      · exact .a 5 rfl <| .k [29, 1, 2, 3, 4, 10] rfl
    refine W_cond rfl (fun hc => ?_) (fun hc => ?_)
    · rw [hc] at hnb
      refine W_cs (.a 2 rfl <| .k [8, 9] rfl) ?_
      refine W_ret ?_
      exact ⟨_, _, ResL.of rfl, Pur.tupleL (PurL.cons Pur.nils (PurL.cons Pur.pure PurL.nil)), by unfold intsE nodeE; rw [if_pos he, hnb]; rfl⟩
    · rw [hc] at hnb
      have hn := nodeB_iff.1 hnb
      obtain ⟨n, rfl⟩ := Int.eq_ofNat_of_zero_le hn.1
      have hcon := rnext1_can T D (distL T D d false) n d hv hf hb1 hb2
      rw [next_same T D n d hv hn.2] at hcon
      refine W_skip ?_
      refine W_cs (.a 5 rfl <| .c rfl (hcon) rfl <| .a 2 rfl <| .k [8, 9] rfl) ?_
      refine W_ret ?_
      exact ⟨_, _, ResL.of rfl, Pur.pure, by unfold intsE nodeE; rw [if_pos he, hnb]; rfl⟩

set_option maxRecDepth 10000 in
set_option maxHeartbeats 1000000 in
theorem rout_can (T : Topo) (hv : validB T = true) (n : Int) : Can Tryz.prog 82 [topoV T, num n] (· = intsV (outL T n)) := by
  have hll := links_le hv
  refine can_of Tryz.func82 rfl Tryz.ntmps82 rfl ?_
  refine W_cs (.a 2 rfl <| .k [1, 2] rfl) ?_
  refine W_cs (.a 1 rfl <| .k [1, 2, 5] rfl) ?_
  refine W_adopt 5 3 1 rfl ?_
  refine W_seq ?_
  refine W_cs (.a 1 rfl <| .k [1, 2, 5, 6] rfl) ?_
  refine W_block ?_
  refine W_k [1, 2, 5, 6] rfl ?_
  refine W_loop (fun r s => ∃ k, k ≤ 2 * T.links.length ∧ r = 2 * T.links.length - k ∧ s = ⟨[(1, num n), (2, .pin (topoP T) 0), (5, .own 0), (6, num k)], [some (.row 3 1 (outTo T n k).length (intsP (outTo T n k)))]⟩) (2 * T.links.length) ⟨0, by omega, by omega, rfl⟩ ?_
  rintro r s ⟨k, hk, rfl, rfl⟩
  refine W_seq ?_
  refine W_cs (.a 2 rfl <| .c rfl (rarcs_can T hv) rfl <| .a 1 rfl <| .k [1, 2, 5, 6, 10] rfl) ?_
  refine W_cond rfl (fun hc => ?_) (fun hc => ?_)
  · have hlt : k < 2 * T.links.length := by have := of_decide_eq_true hc; omega
    have hlen := outTo_len T n k
    refine W_skip ?_
    refine W_seq ?_
    refine W_block ?_
    refine W_cs (.a 2 rfl <| .c rfl (rtailN_can T hv k hlt) rfl <| .a 2 rfl <| .k [1, 2, 5, 6, 17] rfl) ?_
    refine W_cond rfl (fun hc => ?_) (fun hc => ?_)
    · have hst := outTo_yes T n k (by simpa using of_decide_eq_true hc)
      refine W_region ?_
      refine WR_a 3 rfl <| WR_l (l_append rfl (fok.rk.get rfl) rfl rfl rfl rfl (by unfold maxLen; omega)) rfl <| WR_a 1 rfl ?_
      refine WR_ren [1] (.c 1 <| .c 2 <| .c 5 <| .c 6 <| .nil) (.kept rfl (.rowP rfl (intsP_snoc _ _)) <| .nil) rfl rfl (WR_nil ?_)
      refine W_chain (.a 1 rfl <| .v (y_ar rfl) rfl <| .a 1 rfl <| .k [1, 2, 5, 6] rfl) ?_
      refine ⟨2 * T.links.length - (k + 1), by omega, k + 1, by omega, rfl, ?_⟩
      rw [hst]
      first
        | rfl
        | (simp only [List.length_append, List.length_singleton]; rfl)
    · have hst := outTo_no T n k (by simpa using of_decide_eq_false hc)
      refine W_skip ?_
      refine W_chain (.a 1 rfl <| .v (y_ar rfl) rfl <| .a 1 rfl <| .k [1, 2, 5, 6] rfl) ?_
      refine ⟨2 * T.links.length - (k + 1), by omega, k + 1, by omega, rfl, ?_⟩
      rw [hst]
      first
        | rfl
        | (simp only [List.length_append, List.length_singleton]; rfl)
  · have hke : k = 2 * T.links.length := by have := of_decide_eq_false hc; omega
    subst hke
    refine W_exit ?_
    refine W_cs (.a 2 rfl <| .k [4] rfl) ?_
    refine W_ret ?_
    exact ⟨_, _, ResL.of rfl, Pur.ownL rfl PurL.pure, rfl⟩
end PW
end Go.Proofs.YtbpgndbjbaoolaaGreat

/- The reference of layer 22: Routes. -/
namespace Go.Proofs.YtbpgndbjbaoolaaGreat
set_option linter.unusedVariables false
set_option linter.unusedSimpArgs false
namespace PW
open Go.RowKit Reg Mem Net

set_option maxRecDepth 10000 in
set_option maxHeartbeats 1000000 in
theorem rroutes_can (T : Topo) (D : List Bool) (n : Int) : Can Tryz.prog 40 [topoV T, boolsV D, num n] (· = .tuple [tabV (routesE T D n), num (chkE T D [n])]) := by
  refine can_of Tryz.func40 rfl Tryz.ntmps40 rfl ?_
  refine W_rs ?_
  refine WR_a 3 rfl <| WR_k [1, 2, 3, 6] rfl ?_
  refine W_seq ?_
  refine W_cs (.a 2 rfl <| .c rfl (rfits_can T D) rfl <| .a 1 rfl <| .k [1, 2, 3, 6, 17] rfl) ?_
  refine W_cond rfl (fun hc => ?_) (fun hc => ?_)
  · have hch : chkE T D [n] = 1 := by
      unfold chkE
      rw [if_neg]
      revert hc
      cases (validB T && fitsB T D) <;> simp
    refine W_rs ?_
    refine WR_a 3 rfl <| WR_k [6, 7] rfl ?_
    refine W_ret ?_
    exact ⟨_, _, ResL.of rfl, Pur.tupleL (PurL.cons (Pur.aggL (PurL.cons Pur.pure <| PurL.cons Pur.nils <| PurL.cons Pur.nils PurL.nil)) (PurL.cons Pur.pure PurL.nil)), by unfold routesE; rw [hch]; rfl⟩
  · have hok : (validB T && fitsB T D) = true := by revert hc; cases (validB T && fitsB T D) <;> simp
    refine W_skip ?_
    refine W_seq ?_
    obtain ⟨q1, hq1⟩ : ∃ q, decide (n < 0) = q := ⟨_, rfl⟩
    obtain ⟨q2, hq2⟩ : ∃ q, decide (T.nodes ≤ n) = q := ⟨_, rfl⟩
    have hnb : nodeB T n = !(q1 || q2) := by rw [← hq1, ← hq2]; unfold nodeB; by_cases h1 : n < 0 <;> by_cases h2 : T.nodes ≤ n <;> simp [h1, h2] <;> omega
    refine W_csK 26 (.raw (.bool (q1 || q2))) [1, 2, 3, 6] rfl ?_ ?_
    · refine .a 1 rfl <| .v (y_q rfl (hq1)) rfl <| .a 1 rfl <| ?_
      cases q1
      · exact .a 3 rfl <| .v (y_q rfl (hq2)) rfl <| .a 1 rfl <| .k [26, 1, 2, 3, 6] rfl
      · exact .a 5 rfl <| .k [26, 1, 2, 3, 6] rfl
    refine W_cond rfl (fun hc => ?_) (fun hc => ?_)
    · have hn : nodeB T n = false := by rw [hnb, hc]; rfl
      have hch : chkE T D [n] = 2 := by
        unfold chkE
        rw [if_pos hok, if_neg]
        simp [hn]
      refine W_rs ?_
      refine WR_a 3 rfl <| WR_k [6, 7] rfl ?_
      refine W_ret ?_
      exact ⟨_, _, ResL.of rfl, Pur.tupleL (PurL.cons (Pur.aggL (PurL.cons Pur.pure <| PurL.cons Pur.nils <| PurL.cons Pur.nils PurL.nil)) (PurL.cons Pur.pure PurL.nil)), by unfold routesE; rw [hch]; rfl⟩
    · have hn : nodeB T n = true := by rw [hnb, hc]; rfl
      have hch : chkE T D [n] = 0 := by
        unfold chkE
        rw [if_pos hok, if_pos]
        simp [hn]
      obtain ⟨hv, hf⟩ := Bool.and_eq_true_iff.1 hok
      rw [nodeB_iff] at hn
      obtain ⟨m, rfl⟩ := Int.eq_ofNat_of_zero_le hn.1
      obtain ⟨N, hN⟩ : ∃ N : Nat, T.nodes = (N : Int) := ⟨T.nodes.toNat, by omega⟩
      have hN64 : N ≤ 64 := by have := (sound_of hv).nodes; omega
      have hll := links_le hv
      clear hc hq1 hq2 hnb
      refine W_skip ?_
      refine W_rs ?_
      refine WR_a 4 rfl <| WR_k [1, 2, 3, 6, 8] rfl ?_
      refine W_adoptCell 1 1 47 3 rfl rfl ?_
      refine W_adoptCell 1 2 3 1 rfl rfl ?_
      refine W_seq ?_
      refine W_cs (.a 1 rfl <| .k [1, 2, 3, 6, 8, 9] rfl) ?_
      refine W_block ?_
      refine W_k [1, 2, 3, 6, 8, 9] rfl ?_
      refine W_loop (fun r s => ∃ j, j ≤ N ∧ r = N - j ∧ s = ⟨[(1, boolsV D), (2, num m), (3, .pin (topoP T) 0), (6, .ptr 0 0), (8, .ptr 1 0), (9, num j)], [some (.cells 35 [num 0, .raw (.slice none 0 0), .raw (.slice none 0 0)]), some (.cells 35 [num m, .own 2, .own 3]), some (.row 47 3 j (entsP (toL T D m j))), some (.row 3 1 0 [])]⟩) N ⟨0, by omega, by omega, rfl⟩ ?_
      rintro r s ⟨j, hj, rfl, rfl⟩
      refine W_seq ?_
      refine W_cs (.a 2 rfl <| .v (y_ld rfl ((show some (num T.nodes) = some (num (N : Int)) by rw [hN]))) rfl <| .a 1 rfl <| .k [1, 2, 3, 6, 8, 9, 33] rfl) ?_
      refine W_cond rfl (fun hc => ?_) (fun hc => ?_)
      · have hlt : j < N := by have := of_decide_eq_true hc; omega
        have hne : nodeE T D (m : Int) (j : Int) = 0 := by
          have hnb : nodeB T (j : Int) = true := nodeB_iff.2 ⟨by omega, by omega⟩
          have hch' : chkE T D [(j : Int)] = 0 := by
            unfold chkE
            rw [if_pos hok, if_pos]
            simp [hnb]
          unfold nodeE
          rw [if_pos hch', if_pos (nodeB_iff.2 hn)]
        have hnx : Can Tryz.prog 83 [topoV T, boolsV D, num m, num j] (· = .tuple [intsV (nextL T D m j), num 0]) := by
          have h := rnext_can T D (m : Int) (j : Int)
          rw [hne] at h
          exact h
        refine W_skip ?_
        refine W_seq ?_
        refine W_block ?_
        refine W_cs (.a 4 rfl <| .c rfl (hnx) rfl <| .a 5 rfl <| .k [1, 2, 3, 6, 8, 9, 10] rfl) ?_
        refine W_region ?_
        refine WR_a 3 rfl <| WR_v (y_le (y_build (xs := [_, _, _]) rfl (fok.st.get rfl) rfl rfl) (PLe.aggL (.cons (PLe.refl _) <| .cons (PLe.refl _) <| .cons PLe.nils .nil))) rfl <| WR_a 1 rfl <| WR_l (l_append rfl (fok.rk.get rfl) rfl rfl rfl rfl (by unfold maxLen; omega)) rfl <| WR_a 2 rfl ?_
        refine WR_ren [0, 1, 4, 3] (.c 1 <| .c 2 <| .c 3 <| .c 6 <| .c 8 <| .c 9 <| .nil) (.kept rfl (.cells (RenL.c <| RenL.c <| RenL.c <| RenL.nil)) <| .kept rfl (.cells (RenL.c <| RenL.c <| RenL.c <| RenL.nil)) <| .kept rfl (.rowP rfl (show _ = entsP (toL T D m (j + 1)) by rw [toL_step]; exact entsP_snoc _ ⟨nextL T D m j, false, []⟩)) <| .kept rfl (.row RenL.pure) <| .nil) rfl rfl (WR_nil ?_)
        refine W_chain (.a 1 rfl <| .v (y_ar rfl) rfl <| .a 1 rfl <| .k [1, 2, 3, 6, 8, 9] rfl) ?_
        exact ⟨N - (j + 1), by omega, j + 1, by omega, rfl, rfl⟩
      · have hje : j = N := by have := of_decide_eq_false hc; omega
        subst hje
        refine W_exit ?_
        have hol : (outL T m).length ≤ 512 := Nat.le_trans (outTo_len T m _) (by omega)
        refine W_cs (.a 2 rfl <| .c rfl (rout_can T hv _) rfl <| .a 1 rfl <| .k [1, 6, 8, 12] rfl) ?_
        refine W_seq ?_
        refine W_cs (.a 1 rfl <| .k [1, 6, 8, 12, 13] rfl) ?_
        refine W_block ?_
        refine W_k [1, 6, 8, 12, 13] rfl ?_
        refine W_loop (fun r s => ∃ i, i ≤ (outL T m).length ∧ r = (outL T m).length - i ∧ s = ⟨[(1, boolsV D), (6, .ptr 0 0), (8, .ptr 1 0), (12, intsV (outL T m)), (13, num i)], [some (.cells 35 [num 0, .raw (.slice none 0 0), .raw (.slice none 0 0)]), some (.cells 35 [num m, .own 2, .own 3]), some (.row 47 3 j (entsP (toL T D m j))), some (.row 3 1 (downL D ((outL T m).take i)).length (intsP (downL D ((outL T m).take i))))]⟩) (outL T m).length ⟨0, by omega, by omega, rfl⟩ ?_
        rintro r s ⟨i, hi, rfl, rfl⟩
        refine W_seq ?_
        refine W_cs (.a 4 rfl <| .k [1, 6, 8, 12, 13, 57] rfl) ?_
        refine W_cond rfl (fun hc => ?_) (fun hc => ?_)
        · have hlt : i < (outL T m).length := by have := of_decide_eq_true hc; omega
          obtain ⟨h0, h1⟩ := outL_mem (getD_mem (d := 0) hlt)
          obtain ⟨a, ha⟩ := Int.eq_ofNat_of_zero_le h0
          have hDl : D.length = 0 ∨ a < D.length := by simp only [fitsB, decide_eq_true_eq] at hf; omega
          have hstep : downL D ((outL T m).take (i + 1)) = downL D ((outL T m).take i) ++ (if downN D a then [(a : Int)] else []) := by
            unfold downL
            rw [take_step _ i 0 hlt, List.filter_append, ha]
            simp only [List.filter_cons, List.filter_nil, Int.toNat_natCast]
          have hdl : (downL D ((outL T m).take i)).length ≤ 1000 := Nat.le_trans (List.length_filter_le _ _) (by rw [List.length_take]; omega)
          refine W_skip ?_
          refine W_seq ?_
          refine W_block ?_
          refine W_cs (.a 3 rfl <| .v (y_ix (i) rfl) rfl <| .v (y_ld rfl ((ints_get _ i hlt).trans (by rw [ha]))) rfl <| .c rfl (rup_can D a hDl) rfl <| .a 1 rfl <| .k [1, 6, 8, 12, 13, 66] rfl) ?_
          refine W_cond rfl (fun hcd => ?_) (fun hcd => ?_)
          · have hcd' : downN D a = true := by revert hcd; cases downN D a <;> simp
            rw [hcd', if_pos rfl] at hstep
            refine W_drawFlt 7 8 mixed (
              .val [8] rfl (y_a rfl) rfl rfl <|
              .val [67] rfl (y_a rfl) rfl rfl <|
              .val [12] rfl (y_a rfl) rfl rfl <|
              .val [13] rfl (y_a rfl) rfl rfl <|
              .val [69, 70] rfl (y_ix (i) rfl) rfl rfl <|
              .val [71] rfl (y_ld rfl ((ints_get _ i hlt).trans (by rw [ha]))) rfl rfl <|
              .val [72] rfl (y_a rfl) rfl rfl <|
              .nil) (by kernel_rfl) rfl rfl (keepT_sub (ks := [1, 6, 8, 12, 13, 68, 73]) rfl) ?_
            refine WR_l (l_append rfl (fok.rk.get rfl) rfl rfl rfl rfl (by unfold maxLen; omega)) rfl <| WR_a 2 rfl ?_
            refine WR_ren [0, 1, 2, 4] (.c 1 <| .c 6 <| .c 8 <| .c 12 <| .c 13 <| .nil) (.kept rfl (.cells (RenL.c <| RenL.c <| RenL.c <| RenL.nil)) <| .kept rfl (.cells (RenL.c <| RenL.c <| RenL.c <| RenL.nil)) <| .kept rfl (.row RenL.pure) <| .kept rfl (.rowP rfl (intsP_snoc _ _)) <| .nil) rfl rfl (WR_nil ?_)
            refine W_chain (.a 1 rfl <| .v (y_ar rfl) rfl <| .a 1 rfl <| .k [1, 6, 8, 12, 13] rfl) ?_
            refine ⟨(outL T m).length - (i + 1), by omega, i + 1, by omega, rfl, ?_⟩
            rw [hstep]
            first
              | rfl
              | (simp only [List.length_append, List.length_singleton]; rfl)
          · have hcd' : downN D a = false := by revert hcd; cases downN D a <;> simp
            rw [hcd', if_neg (by simp), List.append_nil] at hstep
            refine W_skip ?_
            refine W_chain (.a 1 rfl <| .v (y_ar rfl) rfl <| .a 1 rfl <| .k [1, 6, 8, 12, 13] rfl) ?_
            refine ⟨(outL T m).length - (i + 1), by omega, i + 1, by omega, rfl, ?_⟩
            rw [hstep]
            first
              | rfl
              | (simp only [List.length_append, List.length_singleton]; rfl)
        · have hie : i = (outL T m).length := by have := of_decide_eq_false hc; omega
          subst hie
          refine W_exit ?_
          refine W_rs ?_
          refine WR_v (y_loadPtrAgg (ys := [num m, .own 2, .own 3]) rfl (fok.tk.get rfl) rfl rfl rfl rfl) rfl <| WR_a 2 rfl <| WR_k [6, 7] rfl ?_
          refine W_ret ?_
          refine ⟨_, _, ResL.of rfl, Pur.tupleL (PurL.cons (Pur.aggL (PurL.cons Pur.pure <| PurL.cons (Pur.ownL rfl PurL.pure) <| PurL.cons (Pur.ownL rfl PurL.pure) PurL.nil)) (PurL.cons Pur.pure PurL.nil)), ?_⟩
          unfold routesE
          rw [hch, if_pos rfl, List.take_length]
          unfold routesT tabV tabP entsV intsV
          rw [toL_len, show T.nodes.toNat = j by omega]
          rfl
end PW
end Go.Proofs.YtbpgndbjbaoolaaGreat

/- Segments are compared. -/
namespace Go.Proofs.YtbpgndbjbaoolaaGreat
set_option linter.unusedVariables false
set_option linter.unusedSimpArgs false
namespace PW
open Go.RowKit Reg Mem Net

theorem run_eqSeg (a b c d : Int) (w : World) : (Op.equalIn 10000 53 (.agg #[.int .i64 a, .int .i64 b]) (.agg #[.int .i64 c, .int .i64 d])).run Tryz.prog w = .ok (a == c && b == d) w := by
  have u3 := Tryz.underlying3
  have a3 := Tryz.isAgg3
  have z3 := Tryz.sizeOf3
  have hS : Tryz.prog.underlying 53 = some (.struct (Tryz.prog.fieldsOf 53)) := by kernel_rfl
  rw [show (10000 : Nat) = 9999 + 1 from rfl, run_equalIn_agg w 9999 53 _ _ hS (by kernel_rfl)]
  simp only [Program.fieldsOf, Tryz.underlying53]
  go_simp
  by_cases h1 : a = c <;> by_cases h2 : b = d <;> simp [h1, h2]
theorem rep_seg {E : Env} {w : World} {v : Value} {s : Seg} (h : Rep E w v (segV s)) : v = .agg #[.int .i64 s.kind, .int .i64 s.num] := by
  unfold segV segP at h
  cases h with
  | agg cs _ hl hr =>
    obtain ⟨l⟩ := cs
    match l, hl, hr with
    | [x, y], _, hr =>
      have h0 := rep_raw (hr 0 x _ rfl rfl)
      have h1 := rep_raw (hr 1 y _ rfl rfl)
      subst h0; subst h1; rfl
    | [], hl, _ => simp at hl
    | [_], hl, _ => simp at hl
    | _ :: _ :: _ :: _, hl, _ => simp at hl
theorem y_segNeq {σ : Sto} {t : Tms} {o : Oper} {x y : Operand} {tz : TypeId} {a b : Seg} {q : Bool} (ho : o.op = .binOp .neq 53 x y tz) (hx : evalO t x = some (segV a)) (hy : evalO t y = some (segV b)) (hq : decide (a ≠ b) = q) : Yield Tryz.prog σ t o (.raw (.bool q)) := by
  intro F base E ρ w hρ _ hT
  have h1 := rep_seg (evalO_rep hρ hT hx)
  have h2 := rep_seg (evalO_rep hρ hT hy)
  have hb : (!(a.kind == b.kind && a.num == b.num)) = q := by
    rw [← hq]
    obtain ⟨a1, a2⟩ := a
    obtain ⟨b1, b2⟩ := b
    by_cases e1 : a1 = b1 <;> by_cases e2 : a2 = b2 <;> simp [e1, e2]
  simp only [execOp, ho, h1, h2, Sem.run_bind, run_eqGuard_agg w _ _ _ _ _ _ (show Tryz.prog.eqGuardType Tryz.prog.depth 53 = false by kernel_rfl), Result.andThen_ok, run_neq_struct, run_eqSeg, Sem.run_pure, hb]
  exact upon_val (.raw _)
end PW
end Go.Proofs.YtbpgndbjbaoolaaGreat

/- The reference of the layers 18 and 22: Same. -/
namespace Go.Proofs.YtbpgndbjbaoolaaGreat
set_option linter.unusedVariables false
set_option linter.unusedSimpArgs false
namespace PW
open Go.RowKit Reg Mem Net

set_option maxRecDepth 10000 in
set_option maxHeartbeats 1000000 in
theorem rsegs_can (L M : List Seg) : Can Tryz.prog 30 [segsV L, segsV M] (· = flag (decide (L = M))) := by
  refine can_rep fun ⟨E, w, vs, hR⟩ => ?_
  obtain ⟨v, _, hv⟩ := hR.get (i := 0) rfl
  have hm := rep_len hv
  unfold maxLen at hm
  refine can_of Tryz.func30 rfl Tryz.ntmps30 rfl ?_
  refine W_cs (.a 1 rfl <| .k [0, 1] rfl) ?_
  refine W_seq ?_
  refine W_cs (.a 5 rfl <| .k [0, 1, 10] rfl) ?_
  refine W_cond rfl (fun hc => ?_) (fun hc => ?_)
  · have hne : L ≠ M := fun e => by have := of_decide_eq_true hc; rw [e] at this; exact this rfl
    refine W_cs (.a 1 rfl <| .k [4] rfl) ?_
    refine W_ret ?_
    exact ⟨_, _, ResL.of rfl, Pur.pure, by rw [decide_eq_false hne]; rfl⟩
  · have hlen : L.length = M.length := by have := of_decide_eq_false hc; omega
    refine W_skip ?_
    refine W_seq ?_
    refine W_cs (.a 1 rfl <| .k [0, 1, 5] rfl) ?_
    refine W_block ?_
    refine W_k [0, 1, 5] rfl ?_
    refine W_loop (fun r s => ∃ i, i ≤ L.length ∧ (∀ j, j < i → L[j]? = M[j]?) ∧ r = L.length - i ∧ s = ⟨[(0, segsV L), (1, segsV M), (5, num i)], []⟩) L.length ⟨0, by omega, fun j hj => by omega, by omega, rfl⟩ ?_
    rintro r s ⟨i, hi, hall, rfl, rfl⟩
    refine W_seq ?_
    refine W_cs (.a 4 rfl <| .k [0, 1, 5, 14] rfl) ?_
    refine W_cond rfl (fun hc => ?_) (fun hc => ?_)
    · have hlt : i < L.length := by have := of_decide_eq_true hc; omega
      obtain ⟨a, ha⟩ : ∃ a, L[i]? = some a := ⟨L[i], by simp [hlt]⟩
      obtain ⟨b, hb⟩ : ∃ b, M[i]? = some b := ⟨M[i]'(by omega), by simp [show i < M.length by omega]⟩
      refine W_skip ?_
      refine W_seq ?_
      refine W_block ?_
      refine W_drs mixed (by kernel_rfl) (.a 2 rfl <| .v [17, 18] (y_ix (i * 2) rfl) rfl rfl <| .v [19] (y_loadPinAgg rfl (fok.tk.get rfl) rfl (segs_drop L i a ha) rfl) rfl rfl <| .a 2 rfl <| .v [21, 22] (y_ix (i * 2) rfl) rfl rfl <| .v [23] (y_loadPinAgg rfl (fok.tk.get rfl) rfl (segs_drop M i b hb) rfl) rfl rfl <| .v [20, 24] (y_segNeq (a := a) (b := b) rfl rfl rfl rfl) rfl rfl <| .k [0, 1, 5, 25] rfl) ?_
      refine W_cond rfl (fun hc => ?_) (fun hc => ?_)
      · have hne : L ≠ M := fun e => by rw [e, hb] at ha; cases ha; exact of_decide_eq_true hc rfl
        refine W_cs (.a 1 rfl <| .k [4] rfl) ?_
        refine W_ret ?_
        exact ⟨_, _, ResL.of rfl, Pur.pure, by rw [decide_eq_false hne]; rfl⟩
      · have hab : a = b := Classical.byContradiction (of_decide_eq_false hc)
        refine W_skip ?_
        refine W_chain (.a 1 rfl <| .v (y_ar rfl) rfl <| .a 1 rfl <| .k [0, 1, 5] rfl) ?_
        exact ⟨L.length - (i + 1), by omega, i + 1, by omega, fun j hj => by by_cases e : j = i; (rw [e, ha, hb, hab]); exact hall j (by omega), rfl, rfl⟩
    · have hie : i = L.length := by have := of_decide_eq_false hc; omega
      have heq : L = M := List.ext_getElem? fun j => by
        by_cases hj : j < L.length
        · exact hall j (by omega)
        · rw [List.getElem?_eq_none (by omega), List.getElem?_eq_none (by omega)]
      refine W_exit ?_
      refine W_cs (.a 1 rfl <| .k [4] rfl) ?_
      refine W_ret ?_
      exact ⟨_, _, ResL.of rfl, Pur.pure, by rw [decide_eq_true heq]; rfl⟩

def entB (a b : Ent) : Bool := (a.rep == b.rep) && sameB a.arcs b.arcs && decide (a.push = b.push)
set_option maxRecDepth 10000 in
set_option maxHeartbeats 1000000 in
theorem rent_can (a b : Ent) : Can Tryz.prog 29 [entV a, entV b] (· = flag (entB a b)) := by
  obtain ⟨p1, hp1⟩ : ∃ q, (a.rep == b.rep) = q := ⟨_, rfl⟩
  obtain ⟨p2, hp2⟩ : ∃ q, sameB a.arcs b.arcs = q := ⟨_, rfl⟩
  obtain ⟨p3, hp3⟩ : ∃ q, decide (a.push = b.push) = q := ⟨_, rfl⟩
  have he : entB a b = ((p1 && p2) && p3) := by unfold entB; rw [hp1, hp2, hp3]
  rw [he]
  refine can_of Tryz.func29 rfl Tryz.ntmps29 rfl ?_
  refine W_cs (.a 3 rfl <| .k [2, 3] rfl) ?_
  refine W_csK 4 (.raw (.bool ((p1 && p2) && p3))) [] rfl ?_ ?_
  · refine .a 4 rfl <| .v (y_boolEql rfl (fok.bk.get rfl) rfl rfl hp1) rfl <| .a 1 rfl <| ?_
    cases p1
    · exact .a 14 rfl <| .k [4] rfl
    · refine .a 4 rfl <| .c rfl (hp2 ▸ rsame_can a.arcs b.arcs) rfl <| .a 2 rfl <| ?_
      cases p2
      · exact .a 7 rfl <| .k [4] rfl
      · exact .a 4 rfl <| .c rfl (hp3 ▸ rsegs_can a.push b.push) rfl <| .a 2 rfl <| .k [4] rfl
  refine W_ret ?_
  exact ⟨_, _, ResL.of rfl, Pur.pure, rfl⟩

deriving instance DecidableEq for Ent
deriving instance DecidableEq for Tab
theorem rep_tab {E : Env} {w : World} {v : Value} {x : Tab} (h : Rep E w v (tabV x)) : x.ents.length ≤ maxLen ∧ x.down.length ≤ maxLen := by
  unfold tabV tabP at h
  cases h with
  | agg cs _ hl hr =>
    have hr : RepL E w cs.toList _ := ⟨by simpa using hl, fun i x u h1 h2 => hr i x u (by simpa using h1) h2⟩
    obtain ⟨v1, _, h1⟩ := hr.get (i := 1) rfl
    obtain ⟨v2, _, h2⟩ := hr.get (i := 2) rfl
    exact ⟨rep_len h1, rep_len h2⟩
end PW
end Go.Proofs.YtbpgndbjbaoolaaGreat

/- Valid segments and tables: graph.Segment, package table's leaving, proper, Valid; the reference's of layers 18 and 22. -/
namespace Go.Proofs.YtbpgndbjbaoolaaGreat
set_option linter.unusedVariables false
set_option linter.unusedSimpArgs false
namespace PW
open Go.RowKit Reg Mem Net

def segB (T : Topo) (s : Seg) : Bool := if s.kind = 1 then nodeB T s.num else if s.kind = 2 then arcB T s.num else if s.kind = 3 then withinB s.num 1 64 else if s.kind = 4 then withinB s.num 0 65535 else false
def leaveB (T : Topo) (n : Int) (L : List Int) : Bool := decide (∀ i, i < L.length → arcB T (L.getD i 0) = true ∧ tailN T (L.getD i 0).toNat = n ∧ (0 < i → L.getD (i - 1) 0 < L.getD i 0))
def entOK (T : Topo) (n d : Int) (e : Ent) : Bool := leaveB T n e.arcs && (!(decide (d = n) && decide (0 < (e.arcs.length : Int)))) && (if e.rep then decide ((e.arcs.length : Int) = 1) && decide ((e.push.length : Int) ≤ 32) && e.push.all (segB T) else decide ((e.push.length : Int) = 0))
def entD : Ent := ⟨[], false, []⟩
def entsOK (T : Topo) (n : Int) (l : List Ent) : Bool := decide (∀ d, d < l.length → entOK T n d (l.getD d entD) = true)
def tabOK (T : Topo) (x : Tab) : Bool := validB T && nodeB T x.node && decide ((x.ents.length : Int) = T.nodes) && leaveB T x.node x.down && entsOK T x.node x.ents
theorem arcB_iff {T : Topo} {a : Int} : arcB T a = true ↔ 0 ≤ a ∧ a < 2 * (T.links.length : Int) := by simp [arcB]
theorem tailI_can (T : Topo) (a : Int) (h : arcB T a = true) : Can Tryz.prog 87 [topoV T, num a] (· = num (tailN T a.toNat)) := by
  obtain ⟨h0, h1⟩ := arcB_iff.1 h
  obtain ⟨a, rfl⟩ := Int.eq_ofNat_of_zero_le h0
  exact tail_can T a (by omega)

theorem segB_neg {T : Topo} {s : Seg} (h : s.num < 0) : segB T s = false := by
  unfold segB
  have h1 : nodeB T s.num = false := by unfold nodeB; exact decide_eq_false (by omega)
  have h2 : arcB T s.num = false := by unfold arcB; exact decide_eq_false (by omega)
  have h3 : withinB s.num 1 64 = false := by unfold withinB; exact decide_eq_false (by omega)
  have h4 : withinB s.num 0 65535 = false := by unfold withinB; exact decide_eq_false (by omega)
  rw [h1, h2, h3, h4]
  simp
set_option maxRecDepth 10000 in
set_option maxHeartbeats 1000000 in
theorem rseg_can (T : Topo) (hv : validB T = true) (s : Seg) : Can Tryz.prog 60 [topoV T, segV s] (· = flag (segB T s)) := by
  have h := rvalid_can T
  rw [hv] at h
  obtain ⟨p0, hp0⟩ : ∃ q, decide (s.num < 0) = q := ⟨_, rfl⟩
  refine can_of Tryz.func60 rfl Tryz.ntmps60 rfl ?_
  refine W_cs (.a 3 rfl <| .k [2, 3] rfl) ?_
  refine W_seq ?_
  refine W_csK 12 (.raw (.bool (p0))) [2, 3] rfl ?_ ?_
  · exact .a 1 rfl <| .c rfl (h) rfl <| .a 4 rfl <| .v (y_q rfl (hp0)) rfl <| .a 1 rfl <| .k [12, 2, 3] rfl
  refine W_cond rfl (fun hc => ?_) (fun hc => ?_)
  · rw [hc] at hp0
    rw [segB_neg (tt hp0)]
    refine W_cs (.a 1 rfl <| .k [4] rfl) ?_
    refine W_ret ?_
    exact ⟨_, _, ResL.of rfl, Pur.pure, rfl⟩
  · rw [hc] at hp0
    have h0 : 0 ≤ s.num := by have := ff hp0; omega
    unfold segB
    refine W_skip ?_
    refine W_seq ?_
    refine W_cs (.a 2 rfl <| .k [2, 3, 14] rfl) ?_
    refine W_block ?_
    refine W_cs (.a 2 rfl <| .k [2, 3, 14, 15] rfl) ?_
    refine W_cond rfl (fun hc => ?_) (fun hc => ?_)
    · rw [if_pos (tt hc), show nodeB T s.num = decide (s.num < T.nodes) by unfold nodeB; exact decide_eq_decide.2 (by omega)]
      refine W_cs (.a 6 rfl <| .k [4] rfl) ?_
      refine W_ret ?_
      exact ⟨_, _, ResL.of rfl, Pur.pure, rfl⟩
    · rw [if_neg (ff hc)]
      refine W_cs (.a 2 rfl <| .k [2, 3, 14, 22] rfl) ?_
      refine W_cond rfl (fun hc => ?_) (fun hc => ?_)
      · rw [if_pos (tt hc), show arcB T s.num = decide (s.num < 2 * (T.links.length : Int)) by unfold arcB; exact decide_eq_decide.2 (by omega)]
        refine W_drs mixed (by kernel_rfl) (.a 3 rfl <| .v [26] (y_c rfl (rarcs_can T hv)) rfl rfl <| .a 2 rfl <| .k [4] rfl) ?_
        refine W_ret ?_
        exact ⟨_, _, ResL.of rfl, Pur.pure, rfl⟩
      · rw [if_neg (ff hc)]
        refine W_cs (.a 2 rfl <| .k [3, 14, 29] rfl) ?_
        refine W_cond rfl (fun hc => ?_) (fun hc => ?_)
        · rw [if_pos (tt hc)]
          obtain ⟨p1, hp1⟩ : ∃ q, decide (1 ≤ s.num) = q := ⟨_, rfl⟩
          obtain ⟨p2, hp2⟩ : ∃ q, decide (s.num ≤ 64) = q := ⟨_, rfl⟩
          have he : withinB s.num 1 64 = (p1 && p2) := by rw [← hp1, ← hp2]; unfold withinB; exact Bool.decide_and _ _
          rw [he]
          refine W_csK 4 (.raw (.bool (p1 && p2))) [] rfl ?_ ?_
          · refine .a 2 rfl <| .v (y_q rfl (hp1)) rfl <| .a 1 rfl <| ?_
            cases p1
            · exact .a 5 rfl <| .k [4] rfl
            · exact .a 2 rfl <| .v (y_q rfl (hp2)) rfl <| .a 2 rfl <| .k [4] rfl
          refine W_ret ?_
          exact ⟨_, _, ResL.of rfl, Pur.pure, rfl⟩
        · rw [if_neg (ff hc)]
          refine W_cs (.a 2 rfl <| .k [3, 39] rfl) ?_
          refine W_cond rfl (fun hc => ?_) (fun hc => ?_)
          · rw [if_pos (tt hc), show withinB s.num 0 65535 = decide (s.num ≤ 65535) by unfold withinB; exact decide_eq_decide.2 (by omega)]
            refine W_cs (.a 4 rfl <| .k [4] rfl) ?_
            refine W_ret ?_
            exact ⟨_, _, ResL.of rfl, Pur.pure, rfl⟩
          · rw [if_neg (ff hc)]
            refine W_skip ?_
            refine W_cs (.a 1 rfl <| .k [4] rfl) ?_
            refine W_ret ?_
            exact ⟨_, _, ResL.of rfl, Pur.pure, rfl⟩
/-- One step of the check of a list of arcs. -/
def stepB (T : Topo) (n : Int) (L : List Int) (i : Nat) : Bool := decide (arcB T (L.getD i 0) = true ∧ tailN T (L.getD i 0).toNat = n ∧ (0 < i → L.getD (i - 1) 0 < L.getD i 0))
theorem leave_all {T : Topo} {n : Int} {L : List Int} (h : ∀ i, i < L.length → stepB T n L i = true) : leaveB T n L = true := decide_eq_true fun i hi => tt (h i hi)
theorem leave_fail {T : Topo} {n : Int} {L : List Int} {i : Nat} (hi : i < L.length) (h : stepB T n L i = false) : leaveB T n L = false := decide_eq_false fun ha => ff h (ha i hi)
theorem rtail_step {T : Topo} (a n : Int) (hn : 0 ≤ n) : (rtail T a = n) ↔ (arcB T a = true ∧ tailN T a.toNat = n) := by
  unfold rtail
  rw [arcB_iff]
  split
  · rename_i h; exact ⟨fun e => ⟨h, e⟩, fun e => e.2⟩
  · rename_i h; exact ⟨fun e => by omega, fun e => absurd e.1 h⟩
set_option maxRecDepth 10000 in
set_option maxHeartbeats 1000000 in
theorem outgoing_can (T : Topo) (hv : validB T = true) (n : Int) (hn : 0 ≤ n) (L : List Int) : Can Tryz.prog 59 [topoV T, num n, intsV L] (· = flag (leaveB T n L)) := by
  have hll := links_le hv
  refine can_rep fun ⟨E, w, vs, hR⟩ => ?_
  obtain ⟨v, _, hvv⟩ := hR.get (i := 2) rfl
  have hm := rep_len hvv
  unfold maxLen at hm
  refine can_of Tryz.func59 rfl Tryz.ntmps59 rfl ?_
  refine W_cs (.a 2 rfl <| .k [1, 2, 3] rfl) ?_
  refine W_seq ?_
  refine W_cs (.a 1 rfl <| .k [1, 2, 3, 7] rfl) ?_
  refine W_block ?_
  refine W_k [1, 2, 3, 7] rfl ?_
  refine W_loop (fun r s => ∃ k, k ≤ L.length ∧ r = L.length - k ∧ (∀ i, i < k → stepB T n L i = true) ∧ s = ⟨[(1, num n), (2, intsV L), (3, .pin (topoP T) 0), (7, num k)], []⟩) L.length ⟨0, by omega, by omega, fun i hi => by omega, rfl⟩ ?_
  rintro r s ⟨k, hk, rfl, hall, rfl⟩
  refine W_seq ?_
  refine W_cs (.a 4 rfl <| .k [1, 2, 3, 7, 11] rfl) ?_
  refine W_cond rfl (fun hc => ?_) (fun hc => ?_)
  · have hlt : k < L.length := by have := tt hc; omega
    obtain ⟨p1, hp1⟩ : ∃ q, decide (rtail T (L.getD k 0) ≠ n) = q := ⟨_, rfl⟩
    obtain ⟨p3, hp3⟩ : ∃ q, decide (0 < (k : Int)) = q := ⟨_, rfl⟩
    obtain ⟨p4, hp4⟩ : ∃ q, decide (L.getD k 0 ≤ L.getD (k - 1) 0) = q := ⟨_, rfl⟩
    refine W_skip ?_
    refine W_seq ?_
    refine W_block ?_
    refine W_drsK mixed (by kernel_rfl) 37 (.raw (.bool (p1 || (p3 && p4)))) [1, 2, 3, 7] rfl ?_ ?_
    · refine .a 3 rfl <| .v [15, 16] (y_ix (k) rfl) rfl rfl <| .v [17] (y_ld rfl (ints_get L k hlt)) rfl rfl <| .v [14, 18] (y_c rfl (rtail_can T hv (L.getD k 0))) rfl rfl <| .a 1 rfl <| .v [19, 20] (y_q rfl (hp1)) rfl rfl <| .a 1 rfl <| ?_
      cases p1
      · refine .a 1 rfl <| .v [23] (y_q rfl (hp3)) rfl rfl <| .a 1 rfl <| ?_
        cases p3
        · exact .a 12 rfl <| .k [37, 1, 2, 3, 7] rfl
        · exact .a 2 rfl <| .v [26, 27] (y_ix (k) rfl) rfl rfl <| .v [28] (y_ld rfl (ints_get L k hlt)) rfl rfl <| .a 2 rfl <| .v [31] (y_ar rfl) rfl rfl <| .v [30, 32] (y_ix (k - 1) rfl (by have := tt hp3; omega) (by omega)) rfl rfl <| .v [33] (y_ld rfl (ints_get L (k - 1) (by omega))) rfl rfl <| .v [29, 34] (y_q rfl (hp4)) rfl rfl <| .a 2 rfl <| .k [37, 1, 2, 3, 7] rfl
      · exact .a 15 rfl <| .k [37, 1, 2, 3, 7] rfl
    refine W_cond rfl (fun hx => ?_) (fun hx => ?_)
    · have hno : stepB T n L k = false := by
        refine decide_eq_false fun ⟨h1, h2, h3⟩ => ?_
        rw [decide_eq_false (by have := (rtail_step _ n hn).2 ⟨h1, h2⟩; simpa using this)] at hp1
        subst hp1
        simp only [Bool.false_or, Bool.and_eq_true] at hx
        rw [hx.1] at hp3
        rw [hx.2] at hp4
        have := h3 (by have := tt hp3; omega)
        have := tt hp4
        omega
      rw [leave_fail hlt hno]
      refine W_cs (.a 1 rfl <| .k [6] rfl) ?_
      refine W_ret ?_
      exact ⟨_, _, ResL.of rfl, Pur.pure, rfl⟩
    · have hyes : stepB T n L k = true := by
        obtain ⟨c1, c3⟩ := Bool.or_eq_false_iff.1 hx
        rw [c1] at hp1
        obtain ⟨h1, h2⟩ := (rtail_step _ n hn).1 (Classical.byContradiction (ff hp1))
        refine decide_eq_true ⟨h1, h2, fun h0 => ?_⟩
        rw [decide_eq_true (by omega)] at hp3
        subst hp3
        rw [Bool.true_and] at c3
        rw [c3] at hp4
        have := ff hp4
        omega
      refine W_skip ?_
      refine W_chain (.a 1 rfl <| .v (y_ar rfl) rfl <| .a 1 rfl <| .k [1, 2, 3, 7] rfl) ?_
      refine ⟨L.length - (k + 1), by omega, k + 1, by omega, rfl, fun i hi => ?_, rfl⟩
      by_cases h : i = k
      · rw [h]; exact hyes
      · exact hall i (by omega)
  · have hke : k = L.length := by have := ff hc; omega
    subst hke
    rw [leave_all hall]
    refine W_exit ?_
    refine W_cs (.a 1 rfl <| .k [6] rfl) ?_
    refine W_ret ?_
    exact ⟨_, _, ResL.of rfl, Pur.pure, rfl⟩
theorem allT {α : Type} (p : α → Bool) (L : List α) (k : Nat) (a : α) (h : L[k]? = some a) : (L.take (k + 1)).all p = ((L.take k).all p && p a) := by
  rw [List.take_add_one, h, List.all_append]; simp
theorem allF {α : Type} (p : α → Bool) (L : List α) (k : Nat) (a : α) (h : L[k]? = some a) (hp : p a = false) : L.all p = false := by
  rw [Bool.eq_false_iff]
  intro ha
  have := List.all_eq_true.1 ha a (List.mem_of_getElem? h)
  rw [hp] at this
  cases this
theorem ents_getD (l : List Ent) (k : Nat) (e : Ent) (h : l[k]? = some e) : l.getD k entD = e := by rw [List.getD_eq_getElem?_getD, h]; rfl
theorem entsOK_fail {T : Topo} {n : Int} {l : List Ent} {k : Nat} {e : Ent} (h : l[k]? = some e) (hf : entOK T n k e = false) : entsOK T n l = false := decide_eq_false fun ha => by
  have := ha k (List.getElem?_eq_some_iff.1 h).1
  rw [ents_getD l k e h, hf] at this
  cases this
theorem entsOK_all {T : Topo} {n : Int} {l : List Ent} (h : ∀ (k : Nat) e, l[k]? = some e → entOK T n k e = true) : entsOK T n l = true := decide_eq_true fun d hd => by
  have he : l[d]? = some l[d] := by simp [hd]
  rw [ents_getD l d _ he]
  exact h d _ he
set_option maxRecDepth 10000 in
set_option maxHeartbeats 2000000 in
theorem rtvalid_can (T : Topo) (x : Tab) : Can Tryz.prog 24 [topoV T, tabV x] (· = flag (tabOK T x)) := by
  refine can_rep fun ⟨E, w, vs, hR⟩ => ?_
  obtain ⟨v, _, hvv⟩ := hR.get (i := 1) rfl
  have hm := (rep_tab hvv).1
  unfold maxLen at hm
  obtain ⟨p1, hp1⟩ : ∃ q, validB T = q := ⟨_, rfl⟩
  obtain ⟨p2, hp2⟩ : ∃ q, decide (x.node < 0) = q := ⟨_, rfl⟩
  obtain ⟨p5, hp5⟩ : ∃ q, decide (T.nodes ≤ x.node) = q := ⟨_, rfl⟩
  obtain ⟨p3, hp3⟩ : ∃ q, decide ((x.ents.length : Int) ≠ T.nodes) = q := ⟨_, rfl⟩
  obtain ⟨p4, hp4⟩ : ∃ q, leaveB T x.node x.down = q := ⟨_, rfl⟩
  have he : decide ((x.ents.length : Int) = T.nodes) = !p3 := by rw [← hp3]; simp
  have hn : nodeB T x.node = ((!p2) && !p5) := by rw [← hp2, ← hp5, ← decide_not, ← decide_not, ← Bool.decide_and]; unfold nodeB; exact decide_eq_decide.2 (by omega)
  unfold tabOK
  rw [hp1, hn, he, hp4]
  refine can_of Tryz.func24 rfl Tryz.ntmps24 rfl ?_
  refine W_cs (.a 3 rfl <| .k [2, 3] rfl) ?_
  refine W_seq ?_
  refine W_csK 39 (.raw (.bool (((((!p1) || p2) || p5) || p3) || !p4))) [2, 3] rfl ?_ ?_
  · refine .a 1 rfl <| .c rfl (hp1 ▸ rvalid_can T) rfl <| .a 2 rfl <| ?_
    cases p1
    · exact .a 28 rfl <| .k [39, 2, 3] rfl
    · refine .a 2 rfl <| .v (y_q rfl (hp2)) rfl <| .a 2 rfl <| ?_
      cases p2
      · refine .a 4 rfl <| .v (y_q rfl (hp5)) rfl <| .a 2 rfl <| ?_
        cases p5
        · refine .a 5 rfl <| .v (y_q rfl (hp3)) rfl <| .a 2 rfl <| ?_
          cases p3
          · exact .a 5 rfl <| .c rfl (hp4 ▸ outgoing_can T hp1 x.node (by have := ff hp2; omega) x.down) rfl <| .a 2 rfl <| .k [39, 2, 3] rfl
          · exact .a 8 rfl <| .k [39, 2, 3] rfl
        · exact .a 16 rfl <| .k [39, 2, 3] rfl
      · exact .a 23 rfl <| .k [39, 2, 3] rfl
  refine W_cond rfl (fun hc => ?_) (fun hc => ?_)
  · have hf : (p1 && ((!p2) && !p5) && !p3 && p4) = false := by cases p1 <;> cases p2 <;> cases p5 <;> cases p3 <;> cases p4 <;> first | rfl | cases hc
    rw [hf, Bool.false_and]
    refine W_cs (.a 1 rfl <| .k [4] rfl) ?_
    refine W_ret ?_
    exact ⟨_, _, ResL.of rfl, Pur.pure, rfl⟩
  · have hf : (p1 && ((!p2) && !p5) && !p3 && p4) = true := by cases p1 <;> cases p2 <;> cases p5 <;> cases p3 <;> cases p4 <;> first | rfl | cases hc
    rw [hf, Bool.true_and]
    have e1 : p1 = true := by cases p1 <;> simp_all
    have e2 : p2 = false := by cases p2 <;> simp_all
    rw [e1] at hp1
    rw [e2] at hp2
    have hn0 : 0 ≤ x.node := by have := ff hp2; omega
    refine W_skip ?_
    refine W_seq ?_
    refine W_cs (.a 1 rfl <| .k [2, 3, 5] rfl) ?_
    refine W_block ?_
    refine W_k [2, 3, 5] rfl ?_
    refine W_loop (fun r s => ∃ k, k ≤ x.ents.length ∧ r = x.ents.length - k ∧ (∀ (i : Nat) e, i < k → x.ents[i]? = some e → entOK T x.node i e = true) ∧ s = ⟨[(2, .pin (topoP T) 0), (3, .pin (tabP x) 0), (5, num k)], []⟩) x.ents.length ⟨0, by omega, by omega, fun i e hi => by omega, rfl⟩ ?_
    rintro r s ⟨k, hk, rfl, hall, rfl⟩
    refine W_seq ?_
    refine W_cs (.a 5 rfl <| .k [2, 3, 5, 44] rfl) ?_
    refine W_cond rfl (fun hy => ?_) (fun hy => ?_)
    · have hlt : k < x.ents.length := by have := tt hy; omega
      obtain ⟨e, hek⟩ : ∃ a, x.ents[k]? = some a := ⟨x.ents[k], by simp [hlt]⟩
      obtain ⟨q1, g1⟩ : ∃ q, leaveB T x.node e.arcs = q := ⟨_, rfl⟩
      obtain ⟨q2, g2⟩ : ∃ q, decide ((k : Int) = x.node) = q := ⟨_, rfl⟩
      obtain ⟨q3, g3⟩ : ∃ q, decide (0 < (e.arcs.length : Int)) = q := ⟨_, rfl⟩
      obtain ⟨q4, g4⟩ : ∃ q, e.rep = q := ⟨_, rfl⟩
      obtain ⟨q5, g5⟩ : ∃ q, decide (0 < (e.push.length : Int)) = q := ⟨_, rfl⟩
      obtain ⟨q6, g6⟩ : ∃ q, decide ((e.arcs.length : Int) ≠ 1) = q := ⟨_, rfl⟩
      obtain ⟨q7, g7⟩ : ∃ q, decide (32 < (e.push.length : Int)) = q := ⟨_, rfl⟩
      have hOK : entOK T x.node k e = ((q1 && !(q2 && q3)) && (if q4 then (!q6 && !q7) && e.push.all (segB T) else !q5)) := by
        unfold entOK
        rw [g1, g2, g3, g4, ← g5, ← g6, ← g7, ← decide_not, ← decide_not, ← decide_not]
        congr 2
        · congr 2
          · exact decide_eq_decide.2 (by omega)
          · exact decide_eq_decide.2 (by omega)
        · exact decide_eq_decide.2 (by omega)
      refine W_skip ?_
      refine W_seq ?_
      refine W_block ?_
      refine W_rs ?_
      refine WR_a 3 rfl <| WR_v (y_ix (k * 3) rfl) rfl <| WR_v (y_la rfl (ents_drop x.ents k e hek) rfl) rfl <| WR_a 2 rfl <| WR_k [2, 3, 5, 6] rfl ?_
      refine W_sealPtr 6 0 0 rfl rfl ?_
      refine W_ren [] (.c 2 <| .c 3 <| .c 5 <| .c 6 .nil) .nil rfl rfl ?_
      refine W_seq ?_
      refine W_csK 81 (.raw (.bool (((!q1) || (q2 && q3)) || ((!q4) && q5)))) [2, 3, 5, 6] rfl ?_ ?_
      · refine .a 5 rfl <| .c rfl (g1 ▸ outgoing_can T hp1 x.node hn0 e.arcs) rfl <| .a 2 rfl <| ?_
        cases q1
        · exact .a 22 rfl <| .k [81, 2, 3, 5, 6] rfl
        · refine .a 3 rfl <| .v (y_q rfl (g2)) rfl <| .a 1 rfl <| ?_
          cases q2
          · refine .a 8 rfl <| .v (y_ld rfl (show some (flag e.rep) = some (flag q4) by rw [g4])) rfl <| .a 2 rfl <| ?_
            cases q4
            · exact .a 3 rfl <| .v (y_q rfl (g5)) rfl <| .a 2 rfl <| .k [81, 2, 3, 5, 6] rfl
            · exact .a 6 rfl <| .k [81, 2, 3, 5, 6] rfl
          · refine .a 3 rfl <| .v (y_q rfl (g3)) rfl <| .a 3 rfl <| ?_
            cases q3
            · refine .a 1 rfl <| .v (y_ld rfl (show some (flag e.rep) = some (flag q4) by rw [g4])) rfl <| .a 2 rfl <| ?_
              cases q4
              · exact .a 3 rfl <| .v (y_q rfl (g5)) rfl <| .a 2 rfl <| .k [81, 2, 3, 5, 6] rfl
              · exact .a 6 rfl <| .k [81, 2, 3, 5, 6] rfl
            · exact .a 10 rfl <| .k [81, 2, 3, 5, 6] rfl
      refine W_cond rfl (fun hz => ?_) (fun hz => ?_)
      · rw [entsOK_fail hek (by rw [hOK]; revert hz; cases q1 <;> cases q2 <;> cases q3 <;> cases q4 <;> cases q5 <;> intro hz <;> first | rfl | (simp; done) | cases hz)]
        refine W_cs (.a 1 rfl <| .k [4] rfl) ?_
        refine W_ret ?_
        exact ⟨_, _, ResL.of rfl, Pur.pure, rfl⟩
      · skip
        refine W_skip ?_
        refine W_seq ?_
        refine W_csK 95 (.raw (.bool (q4 && (q6 || q7)))) [2, 3, 5, 6] rfl ?_ ?_
        · refine .a 1 rfl <| .v (y_ld rfl (show some (flag e.rep) = some (flag q4) by rw [g4])) rfl <| .a 1 rfl <| ?_
          cases q4
          · exact .a 11 rfl <| .k [95, 2, 3, 5, 6] rfl
          · refine .a 3 rfl <| .v (y_q rfl (g6)) rfl <| .a 1 rfl <| ?_
            cases q6
            · exact .a 3 rfl <| .v (y_q rfl (g7)) rfl <| .a 2 rfl <| .k [95, 2, 3, 5, 6] rfl
            · exact .a 6 rfl <| .k [95, 2, 3, 5, 6] rfl
        refine W_cond rfl (fun hz2 => ?_) (fun hz2 => ?_)
        · rw [entsOK_fail hek (by rw [hOK]; revert hz2; cases q4 <;> cases q6 <;> cases q7 <;> intro hz2 <;> first | rfl | (simp; done) | cases hz2)]
          refine W_cs (.a 1 rfl <| .k [4] rfl) ?_
          refine W_ret ?_
          exact ⟨_, _, ResL.of rfl, Pur.pure, rfl⟩
        · have hpl : e.push.length ≤ 32 ∨ e.push = [] := by
            cases q4
            · right
              have : q5 = false := by cases q5 <;> simp_all
              subst this
              have := ff g5
              exact List.eq_nil_of_length_eq_zero (by omega)
            · left
              have : q7 = false := by cases q7 <;> simp_all
              subst this
              have := ff g7
              omega
          have hpl' : e.push.length ≤ 32 := by rcases hpl with h | h; exact h; rw [h]; simp
          have hfin : e.push.all (segB T) = true → entOK T x.node k e = true := fun ha => by
            rw [hOK, ha]
            clear hOK g1 g2 g3 g4 g5 g6 g7 hpl hpl' hall
            revert hz hz2
            cases q1 <;> cases q2 <;> cases q3 <;> cases q4 <;> cases q5 <;> cases q6 <;> cases q7 <;> intro hz hz2 <;> first | rfl | (cases hz; done) | (cases hz2; done)
          have hfail : e.push.all (segB T) = false → entOK T x.node k e = false := fun ha => by
            rcases hpl with h | h
            · rw [hOK, ha]
              cases q4
              · have : q5 = true := by
                  cases q5
                  · have := ff g5
                    have h0 := List.eq_nil_of_length_eq_zero (by omega : e.push.length = 0)
                    rw [h0] at ha; cases ha
                  · rfl
                subst this
                simp
              · simp
            · rw [h] at ha; cases ha
          refine W_skip ?_
          refine W_cs (.a 1 rfl <| .k [2, 3, 5, 6, 7] rfl) ?_
          refine W_block ?_
          refine W_k [2, 3, 5, 6, 7] rfl ?_
          refine W_loop (fun r s => ∃ j, j ≤ e.push.length ∧ r = e.push.length - j ∧ (e.push.take j).all (segB T) = true ∧ s = ⟨[(2, .pin (topoP T) 0), (3, .pin (tabP x) 0), (5, num k), (6, .pin (entP e) 0), (7, num j)], []⟩) e.push.length ⟨0, by omega, by omega, by simp, rfl⟩ ?_
          rintro r s ⟨j, hj, rfl, hpall, rfl⟩
          refine W_seq ?_
          refine W_cs (.a 5 rfl <| .k [2, 3, 5, 6, 7, 100] rfl) ?_
          refine W_cond rfl (fun hw => ?_) (fun hw => ?_)
          · have hlt2 : j < e.push.length := by have := tt hw; omega
            obtain ⟨a, ha⟩ : ∃ a, e.push[j]? = some a := ⟨e.push[j], by simp [hlt2]⟩
            refine W_skip ?_
            refine W_seq ?_
            refine W_block ?_
            refine W_drs mixed (by kernel_rfl) (.a 4 rfl <| .v [105, 106] (y_ix (j * 2) rfl) rfl rfl <| .v [107] (y_la rfl (segs_drop e.push j a ha) rfl) rfl rfl <| .v [103, 108] (y_c rfl (rseg_can T hp1 a)) rfl rfl <| .a 1 rfl <| .k [2, 3, 5, 6, 7, 110] rfl) ?_
            refine W_cond rfl (fun hs => ?_) (fun hs => ?_)
            · rw [entsOK_fail hek (hfail (allF _ _ j a ha (by simpa using hs)))]
              refine W_cs (.a 1 rfl <| .k [4] rfl) ?_
              refine W_ret ?_
              exact ⟨_, _, ResL.of rfl, Pur.pure, rfl⟩
            · have hs' : segB T a = true := by simpa using hs
              refine W_skip ?_
              refine W_chain (.a 1 rfl <| .v (y_ar rfl) rfl <| .a 1 rfl <| .k [2, 3, 5, 6, 7] rfl) ?_
              exact ⟨e.push.length - (j + 1), by omega, j + 1, by omega, rfl, by rw [allT _ _ j a ha, hpall, hs']; rfl, rfl⟩
          · have hje : j = e.push.length := by have := ff hw; omega
            subst hje
            rw [List.take_length] at hpall
            have hyes := hfin hpall
            refine W_exit ?_
            refine W_chain (.a 1 rfl <| .v (y_ar rfl) rfl <| .a 1 rfl <| .k [2, 3, 5] rfl) ?_
            refine ⟨x.ents.length - (k + 1), by omega, k + 1, by omega, rfl, fun i e' hi he' => ?_, rfl⟩
            by_cases h : i = k
            · subst h; rw [hek] at he'; cases he'; exact hyes
            · exact hall i e' (by omega) he'
    · have hke : k = x.ents.length := by have := ff hy; omega
      rw [entsOK_all fun i e hi => hall i e (by have := (List.getElem?_eq_some_iff.1 hi).1; omega) hi]
      refine W_exit ?_
      refine W_cs (.a 1 rfl <| .k [4] rfl) ?_
      refine W_ret ?_
      exact ⟨_, _, ResL.of rfl, Pur.pure, rfl⟩
end PW
end Go.Proofs.YtbpgndbjbaoolaaGreat

/- The next arcs of a node, as plain mathematics: they lead to nodes that are nearer; a node that reaches has one; tables of routes are valid. -/
namespace Go.Proofs.YtbpgndbjbaoolaaGreat
set_option linter.unusedVariables false
set_option linter.unusedSimpArgs false
namespace PW
open Go.RowKit Reg Mem Net

theorem outL_sorted (T : Topo) (n : Int) : (outL T n).Pairwise (· < ·) := by
  unfold outL outTo
  refine List.Pairwise.map _ (fun a b h => ?_) ((List.pairwise_lt_range (n := 2 * T.links.length)).filter _)
  show (a : Int) < (b : Int)
  omega
theorem outL_iff {T : Topo} {n : Int} {a : Int} : a ∈ outL T n ↔ arcB T a = true ∧ tailN T a.toNat = n := by
  unfold outL outTo
  rw [List.mem_map, arcB_iff]
  constructor
  · rintro ⟨b, hb, rfl⟩
    obtain ⟨h1, h2⟩ := List.mem_filter.1 hb
    have := List.mem_range.1 h1
    refine ⟨⟨by simp, by simp; omega⟩, by simpa using h2⟩
  · rintro ⟨⟨h0, h1⟩, h2⟩
    refine ⟨a.toNat, List.mem_filter.2 ⟨List.mem_range.2 (by omega), by simpa using h2⟩, by simp; omega⟩
theorem leave_of {T : Topo} {n : Int} {L : List Int} (hs : L.Pairwise (· < ·)) (hm : ∀ a ∈ L, arcB T a = true ∧ tailN T a.toNat = n) : leaveB T n L = true := decide_eq_true fun i hi => by
  have h1 := hm _ (getD_mem (d := 0) hi)
  refine ⟨h1.1, h1.2, fun h0 => ?_⟩
  have := List.pairwise_iff_getElem.1 hs (i - 1) i (by omega) hi (by omega)
  rw [List.getD_eq_getElem?_getD, List.getD_eq_getElem?_getD, List.getElem?_eq_getElem hi, List.getElem?_eq_getElem (by omega : i - 1 < L.length)]
  exact this
theorem leave_out (T : Topo) (n : Int) (p : Int → Bool) : leaveB T n ((outL T n).filter p) = true := leave_of ((outL_sorted T n).filter p) fun _ ha => outL_iff.1 (List.mem_filter.1 ha).1
theorem leave_next (T : Topo) (D : List Bool) (n d : Nat) : leaveB T n (nextL T D n d) = true := by
  unfold nextL
  split
  · exact decide_eq_true fun i hi => by simp at hi
  · exact leave_out T n _
theorem next_self (T : Topo) (D : List Bool) (n : Nat) : nextL T D n n = [] := by unfold nextL; rw [if_pos (.inl rfl)]
theorem dist_at {T : Topo} {D : List Bool} (hv : validB T = true) {d x : Nat} (hd : (d : Int) < T.nodes) (hx : (x : Int) < T.nodes) : (distL T D d false).getD x 0 = at' (distL T D d false) (x : Int) := by
  have hl := (distL_bound (D := D) hv (dir := false) hd).1
  unfold at'
  rw [Int.toNat_natCast, List.getD_eq_getElem?_getD, List.getD_eq_getElem?_getD, List.getElem?_eq_getElem (by omega)]
  rfl
/-- What is known of a next arc. -/
structure Nearer (T : Topo) (D : List Bool) (n d a : Nat) : Prop where
  arc : a < 2 * T.links.length
  tail : tailN T a = (n : Int)
  up : downN D a = false
  ne : n ≠ d
  reach : 0 ≤ (distL T D d false).getD (headN T a).toNat 0
  pass : headN T a = (d : Int) ∨ overN T (headN T a).toNat = false
  sum : (distL T D d false).getD n 0 = (distL T D d false).getD (headN T a).toNat 0 + costN T a
theorem next_mem {T : Topo} {D : List Bool} {n d : Nat} {a : Int} (h : a ∈ nextL T D n d) : ∃ k : Nat, a = k ∧ Nearer T D n d k := by
  unfold nextL at h
  split at h
  · simp at h
  · rename_i hne
    obtain ⟨h1, h2⟩ := List.mem_filter.1 h
    obtain ⟨h3, h4⟩ := outL_iff.1 h1
    obtain ⟨h5, h6⟩ := arcB_iff.1 h3
    obtain ⟨k, rfl⟩ := Int.eq_ofNat_of_zero_le h5
    rw [Int.toNat_natCast] at h2 h4
    unfold passB at h2
    simp only [Bool.and_eq_true, Bool.not_eq_true', Bool.or_eq_false_iff, decide_eq_true_eq, decide_eq_false_iff_not] at h2
    obtain ⟨⟨⟨g1, g2⟩, g3⟩, g4⟩ := h2
    refine ⟨k, rfl, by omega, h4, g1, fun e => hne (.inl e), by omega, ?_, by omega⟩
    rcases Bool.and_eq_false_iff.1 g3 with g | g
    · exact .inl (Classical.byContradiction (ff g))
    · exact .inr g
theorem next_of {T : Topo} {D : List Bool} {n d k : Nat} (h : Nearer T D n d k) (hc : 1 ≤ costN T k) : (k : Int) ∈ nextL T D n d := by
  have hs := h.sum
  have hr := h.reach
  unfold nextL
  rw [if_neg (by rintro (e | e); exact h.ne e; omega)]
  refine List.mem_filter.2 ⟨outL_iff.2 ⟨arcB_iff.2 ⟨by omega, by have := h.arc; omega⟩, h.tail⟩, ?_⟩
  unfold passB
  rw [Int.toNat_natCast]
  simp only [Bool.and_eq_true, Bool.not_eq_true', Bool.or_eq_false_iff, decide_eq_true_eq, decide_eq_false_iff_not]
  refine ⟨⟨⟨h.up, by omega⟩, ?_⟩, by omega⟩
  rcases h.pass with g | g
  · rw [decide_eq_false (by simpa using g)]; rfl
  · rw [g, Bool.and_false]
theorem next_ex {T : Topo} {D : List Bool} (hv : validB T = true) {n d : Nat} (hn : (n : Int) < T.nodes) (hd : (d : Int) < T.nodes) (hne : n ≠ d) (h0 : 0 ≤ (distL T D d false).getD n 0) : ∃ k, Nearer T D n d k := by
  have hS := sound_of hv
  have hI := distL_is hS D false hd
  have e1 := dist_at (D := D) hv hd hn
  rcases hI.supp n hn (by rw [← e1]; exact h0) with h | ⟨a, ha, hx, ⟨w1, w2, w3⟩, hs⟩
  · exact absurd h hne
  · have hh := hS.head a ha
    obtain ⟨y, hy⟩ := Int.eq_ofNat_of_zero_le hh.1
    have e2 := dist_at (D := D) hv hd (x := y) (by omega)
    simp only [arcX, arcY, Bool.false_eq_true, if_false] at hx w2 w3 hs
    rw [hy] at w2 w3 hs
    refine ⟨a, ha, hx, w1, hne, ?_, ?_, ?_⟩
    · rw [hy, Int.toNat_natCast, e2]; exact w2
    · rw [hy]; exact w3
    · rw [hy, Int.toNat_natCast, e1, e2]; exact hs
theorem dist_self {T : Topo} {D : List Bool} (hv : validB T = true) {d : Nat} (hd : (d : Int) < T.nodes) : (distL T D d false).getD d 0 = 0 := by
  rw [dist_at hv hd hd]
  exact (distL_is (sound_of hv) D false hd).root
end PW
end Go.Proofs.YtbpgndbjbaoolaaGreat
