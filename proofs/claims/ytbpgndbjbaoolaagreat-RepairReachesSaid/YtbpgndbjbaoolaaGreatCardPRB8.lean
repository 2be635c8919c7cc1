/- Texts of the proof, part 8. -/
import Derived.Laws.StructEq
import Derived.Test.YtbpgndbjbaoolaaGreatCardPRB7
/- Masks of components: the reference. -/
namespace Go.Proofs.YtbpgndbjbaoolaaGreat
set_option linter.unusedVariables false
set_option linter.unusedSimpArgs false
namespace PW
open Go.RowKit Reg Mem Net Rng

set_option maxRecDepth 10000 in
set_option maxHeartbeats 1000000 in
theorem rvalid10_can (T : Topo) (k x : Int) : Can Tryz.prog 54 [topoV T, compV k x] (· = flag (validB T && compB T k x)) := by
  obtain ⟨q1, h1⟩ : ∃ q, decide (0 ≤ x) = q := ⟨_, rfl⟩
  obtain ⟨q2, h2⟩ : ∃ q, decide (x < (T.links.length : Int)) = q := ⟨_, rfl⟩
  obtain ⟨q5, h5⟩ : ∃ q, decide (x < T.nodes) = q := ⟨_, rfl⟩
  obtain ⟨q3, h3⟩ : ∃ q, decide (1 ≤ x) = q := ⟨_, rfl⟩
  obtain ⟨q4, h4⟩ : ∃ q, decide (x ≤ 64) = q := ⟨_, rfl⟩
  have hnb : nodeB T x = (q1 && q5) := by rw [← h1, ← h5, ← Bool.decide_and]; rfl
  have hB : compB T k x = if k = 1 then (q1 && q2) else if k = 2 then (q1 && q5) else if k = 3 then (q3 && q4) else false := by unfold compB; rw [h1, h2, h3, h4, hnb]
  rw [hB]
  refine can_of Tryz.func54 rfl Tryz.ntmps54 rfl ?_
  refine W_cs (.a 3 rfl <| .k [2, 3] rfl) ?_
  refine W_seq ?_
  refine W_cs (.a 1 rfl <| .c rfl (rvalid_can T) rfl <| .a 1 rfl <| .k [2, 3, 7] rfl) ?_
  refine W_cond rfl (fun hv1 => ?_) (fun hv1 => ?_)
  · have hv : validB T = false := by simpa using hv1
    refine W_cs (.a 1 rfl <| .k [4] rfl) ?_
    refine W_ret ?_
    exact ⟨_, _, ResL.of rfl, Pur.pure, by rw [hv]; rfl⟩
  · have hv : validB T = true := by simpa using hv1
    rw [hv, Bool.true_and]
    refine W_skip ?_
    refine W_seq ?_
    refine W_cs (.a 2 rfl <| .k [2, 3, 9] rfl) ?_
    refine W_block ?_
    refine W_cs (.a 2 rfl <| .k [2, 3, 9, 10] rfl) ?_
    refine W_cond rfl (fun hk1 => ?_) (fun hk1 => ?_)
    · have k1 : k = 1 := tt hk1
      refine W_csK 4 (.raw (.bool (q1 && q2))) [] rfl ?_ ?_
      · refine .a 2 rfl <| .v (y_q rfl (h1)) rfl <| .a 1 rfl <| ?_
        cases q1
        · exact .a 8 rfl <| .k [4] rfl
        · exact .a 5 rfl <| .v (y_q rfl (h2)) rfl <| .a 2 rfl <| .k [4] rfl
      refine W_ret ?_
      exact ⟨_, _, ResL.of rfl, Pur.pure, by rw [if_pos k1]; rfl⟩
    · have k1 : ¬ k = 1 := ff hk1
      refine W_cs (.a 2 rfl <| .k [2, 3, 9, 23] rfl) ?_
      refine W_cond rfl (fun hk2 => ?_) (fun hk2 => ?_)
      · have k2 : k = 2 := tt hk2
        refine W_csK 4 (.raw (.bool (q1 && q5))) [] rfl ?_ ?_
        · refine .a 2 rfl <| .v (y_q rfl (h1)) rfl <| .a 1 rfl <| ?_
          cases q1
          · exact .a 7 rfl <| .k [4] rfl
          · exact .a 4 rfl <| .v (y_q rfl (h5)) rfl <| .a 2 rfl <| .k [4] rfl
        refine W_ret ?_
        exact ⟨_, _, ResL.of rfl, Pur.pure, by rw [if_neg k1, if_pos k2]; rfl⟩
      · have k2 : ¬ k = 2 := ff hk2
        refine W_cs (.a 2 rfl <| .k [3, 35] rfl) ?_
        refine W_cond rfl (fun hk3 => ?_) (fun hk3 => ?_)
        · have k3 : k = 3 := tt hk3
          refine W_csK 4 (.raw (.bool (q3 && q4))) [] rfl ?_ ?_
          · refine .a 2 rfl <| .v (y_q rfl (h3)) rfl <| .a 1 rfl <| ?_
            cases q3
            · exact .a 5 rfl <| .k [4] rfl
            · exact .a 2 rfl <| .v (y_q rfl (h4)) rfl <| .a 2 rfl <| .k [4] rfl
          refine W_ret ?_
          exact ⟨_, _, ResL.of rfl, Pur.pure, by rw [if_neg k1, if_neg k2, if_pos k3]; rfl⟩
        · have k3 : ¬ k = 3 := ff hk3
          refine W_skip ?_
          refine W_cs (.a 1 rfl <| .k [4] rfl) ?_
          refine W_ret ?_
          exact ⟨_, _, ResL.of rfl, Pur.pure, by rw [if_neg k1, if_neg k2, if_neg k3]; rfl⟩
theorem lnks_drop7 (L : List Lnk) (i : Nat) (hi : i < L.length) : ((lnksP L).drop (i * 7)).take 7 = lnkP (lnk L i) := by
  apply List.ext_getElem?
  intro j
  by_cases hj : j < 7
  · rw [List.getElem?_take, if_pos hj, List.getElem?_drop, lnks_getP L i j hi hj]
  · rw [List.getElem?_take, if_neg hj, List.getElem?_eq_none (by simp [lnkP]; omega)]
set_option maxRecDepth 10000 in
set_option maxHeartbeats 1000000 in
theorem rof_can (T : Topo) (k x : Int) (a : Nat) (ha : a < 2 * T.links.length) (hl : T.links.length ≤ 256) : Can Tryz.prog 104 [topoV T, compV k x, num a] (· = flag (partB k x T.links (a / 2))) := by
  have hi : a / 2 < T.links.length := by omega
  obtain ⟨e, he⟩ : ∃ e, lnk T.links (a / 2) = e := ⟨_, rfl⟩
  have hdr := lnks_drop7 T.links (a / 2) hi
  rw [he] at hdr
  obtain ⟨q1, h1⟩ : ∃ q, decide (((a / 2 : Nat) : Int) = x) = q := ⟨_, rfl⟩
  obtain ⟨q2, h2⟩ : ∃ q, decide (e.a = x) = q := ⟨_, rfl⟩
  obtain ⟨q3, h3⟩ : ∃ q, decide (e.b = x) = q := ⟨_, rfl⟩
  obtain ⟨q4, h4⟩ : ∃ q, decide (e.grp = x) = q := ⟨_, rfl⟩
  have hP : partB k x T.links (a / 2) = if k = 1 then q1 else if k = 2 then (q2 || q3) else q4 := by unfold partB; rw [he, h1, h2, h3, h4]
  rw [hP]
  refine can_of Tryz.func104 rfl Tryz.ntmps104 rfl ?_
  refine W_cs (.a 3 rfl <| .k [2, 3, 4] rfl) ?_
  refine W_rs ?_
  refine WR_a 3 rfl <| WR_v (y_quo rfl rfl rfl (by decide) ((show (a : Int).tdiv 2 = ((a / 2 : Nat) : Int) by rw [Int.tdiv_eq_ediv_of_nonneg (by omega)]; omega)) (by unfold In64; omega)) rfl <| WR_v (y_ix ((a / 2 * 7)) rfl) rfl <| WR_v (y_la rfl (hdr) rfl) rfl <| WR_a 2 rfl <| WR_k [2, 4, 7] rfl ?_
  refine W_sto (σ' := [some (.cells 72 (lnkP e))]) rfl ?_
  refine W_seq ?_
  refine W_cs (.a 2 rfl <| .k [2, 4, 7, 15] rfl) ?_
  refine W_block ?_
  refine W_cs (.a 2 rfl <| .k [2, 4, 7, 15, 16] rfl) ?_
  refine W_cond rfl (fun hk1 => ?_) (fun hk1 => ?_)
  · have k1 : k = 1 := tt hk1
    refine W_cs (.a 1 rfl <| .v (y_quo rfl rfl rfl (by decide) ((show (a : Int).tdiv 2 = ((a / 2 : Nat) : Int) by rw [Int.tdiv_eq_ediv_of_nonneg (by omega)]; omega)) (by unfold In64; omega)) rfl <| .a 2 rfl <| .v (y_q rfl (h1)) rfl <| .a 1 rfl <| .k [6] rfl) ?_
    refine W_ret ?_
    exact ⟨_, _, ResL.of rfl, Pur.pure, by rw [if_pos k1]; rfl⟩
  · have k1 : ¬ k = 1 := ff hk1
    refine W_cs (.a 2 rfl <| .k [4, 7, 23] rfl) ?_
    refine W_cond rfl (fun hk2 => ?_) (fun hk2 => ?_)
    · have k2 : k = 2 := tt hk2
      refine W_csK 6 (.raw (.bool (q2 || q3))) [] rfl ?_ ?_
      · refine .a 4 rfl <| .v (y_q rfl (h2)) rfl <| .a 1 rfl <| ?_
        cases q2
        · exact .a 4 rfl <| .v (y_q rfl (h3)) rfl <| .a 2 rfl <| .k [6] rfl
        · exact .a 7 rfl <| .k [6] rfl
      refine W_ret ?_
      exact ⟨_, _, ResL.of rfl, Pur.pure, by rw [if_neg k1, if_pos k2]; rfl⟩
    · have k2 : ¬ k = 2 := ff hk2
      refine W_skip ?_
      refine W_cs (.a 4 rfl <| .v (y_q rfl (h4)) rfl <| .a 1 rfl <| .k [6] rfl) ?_
      refine W_ret ?_
      exact ⟨_, _, ResL.of rfl, Pur.pure, by rw [if_neg k1, if_neg k2]; rfl⟩
/-- The mask as far as m. -/
def mskTo (T : Topo) (k x : Int) (m : Nat) : List Bool := (List.range (2 * T.links.length)).map fun a => decide (a < m) && partB k x T.links (a / 2)
theorem mskTo_zero (T : Topo) (k x : Int) : mskTo T k x 0 = List.replicate (2 * T.links.length) false := by
  unfold mskTo
  apply List.ext_getElem (by simp)
  intro i h1 h2
  simp
theorem mskTo_len (T : Topo) (k x : Int) (m : Nat) : (mskTo T k x m).length = 2 * T.links.length := by simp [mskTo]
theorem mskTo_yes {T : Topo} {k x : Int} {m : Nat} (h : partB k x T.links (m / 2) = true) : (mskTo T k x m).set m true = mskTo T k x (m + 1) := by
  apply List.ext_getElem (by simp [mskTo])
  intro i h1 h2
  rw [List.getElem_set]
  by_cases e : m = i
  · subst e; simp [mskTo, h]
  · rw [if_neg e]
    simp only [mskTo, List.getElem_map, List.getElem_range]
    rw [show decide (i < m + 1) = decide (i < m) from decide_eq_decide.2 (by omega)]
theorem mskTo_no {T : Topo} {k x : Int} {m : Nat} (h : partB k x T.links (m / 2) = false) : mskTo T k x (m + 1) = mskTo T k x m := by
  unfold mskTo
  refine List.map_congr_left fun a _ => ?_
  by_cases e : a = m
  · subst e; rw [h]; simp
  · rw [show decide (a < m + 1) = decide (a < m) from decide_eq_decide.2 (by omega)]
theorem mskTo_all (T : Topo) (k x : Int) : mskTo T k x (2 * T.links.length) = maskL T k x := by
  unfold mskTo maskL
  refine List.map_congr_left fun a ha => ?_
  rw [decide_eq_true (List.mem_range.1 ha), Bool.true_and]
def brow (L : List Bool) : Option Blk := some (.row 4 1 L.length (boolsP L))
set_option maxRecDepth 10000 in
set_option maxHeartbeats 2000000 in
theorem runionS_can (T : Topo) (k x : Int) : CanS Tryz.prog 57 [topoV T, .slice 1 (compP k x)] [] (fun r σ' => ((validB T && compB T k x) = false ∧ r = .tuple [.raw (.slice none 0 0), num 1]) ∨ ((validB T && compB T k x) = true ∧ r = .tuple [.own 0, num 0] ∧ σ' = [brow (maskL T k x)])) := by
  refine canS_of Tryz.func57 rfl Tryz.ntmps57 rfl ?_
  refine W_cs (.a 3 rfl <| .k [1, 2] rfl) ?_
  refine W_seq ?_
  refine W_cs (.a 1 rfl <| .c rfl (rvalid_can T) rfl <| .a 1 rfl <| .k [1, 2, 11] rfl) ?_
  refine W_cond rfl (fun h1 => ?_) (fun h1 => ?_)
  · have hv : validB T = false := by simpa using h1
    refine W_cs (.a 2 rfl <| .k [4, 5] rfl) ?_
    refine W_ret ?_
    exact ⟨_, ResL.of rfl, .inl ⟨by rw [hv]; rfl, rfl⟩⟩
  · have hv : validB T = true := by simpa using h1
    have hll := links_le hv
    refine W_skip ?_
    refine W_rs ?_
    refine WR_a 3 rfl <| WR_v (y_ar rfl) rfl <| WR_l (l_make rfl (fok.rk.get rfl) rfl rfl (show 2 * (T.links.length : Int) = ((2 * T.links.length : Nat) : Int) by omega) (show 2 * (T.links.length : Int) = ((2 * T.links.length : Nat) : Int) by omega) ⟨by unfold maxLen; omega, by omega⟩) rfl <| WR_a 1 rfl <| WR_k [1, 2, 6] rfl ?_
    refine W_sto (σ' := [brow (mskTo T k x 0)]) (by unfold brow; rw [mskTo_zero, List.length_replicate, ← zeros_bools]; rfl) ?_
    refine W_seq ?_
    refine W_cs (.a 1 rfl <| .k [1, 2, 6, 7] rfl) ?_
    refine W_block ?_
    refine W_k [1, 2, 6, 7] rfl ?_
    refine W_loop (fun r st => ∃ (i : Nat) (M : List Bool), i ≤ 1 ∧ r = 1 - i ∧ (i = 0 → M = mskTo T k x 0) ∧ (i = 1 → compB T k x = true ∧ M = maskL T k x) ∧ st = ⟨[(1, .slice 1 (compP k x)), (2, .pin (topoP T) 0), (6, .own 0), (7, num i)], [brow M]⟩) 1 ⟨0, _, by omega, rfl, fun _ => rfl, fun h => by omega, rfl⟩ ?_
    rintro r st ⟨i, M, hi, rfl, hM0, hM1, rfl⟩
    refine W_seq ?_
    refine W_cs (.a 4 rfl <| .k [1, 2, 6, 7, 20] rfl) ?_
    refine W_cond rfl (fun h2 => ?_) (fun h2 => ?_)
    · have hi0 : i = 0 := by have := tt h2; omega
      subst hi0
      obtain rfl := hM0 rfl
      refine W_skip ?_
      refine W_seq ?_
      refine W_block ?_
      refine W_seq ?_
      refine W_drs mixed (by kernel_rfl) (.a 3 rfl <| .v [24, 25] (y_ix (0) rfl) rfl rfl <| .v [26] (y_la rfl ((show ((compP k x).drop 0).take 2 = compP k x from rfl)) rfl) rfl rfl <| .v [23, 27] (y_c rfl (rvalid10_can T k x)) rfl rfl <| .a 1 rfl <| .k [1, 2, 6, 7, 29] rfl) ?_
      refine W_cond rfl (fun h3 => ?_) (fun h3 => ?_)
      · have hc : (validB T && compB T k x) = false := (Bool.not_eq_true' _).mp h3
        refine W_cs (.a 2 rfl <| .k [4, 5] rfl) ?_
        refine W_ret ?_
        exact ⟨_, ResL.of rfl, .inl ⟨hc, rfl⟩⟩
      · have hvc : (validB T && compB T k x) = true := by simpa using h3
        have hc : compB T k x = true := (Bool.and_eq_true_iff.1 hvc).2
        refine W_skip ?_
        refine W_cs (.a 1 rfl <| .k [1, 2, 6, 7, 8] rfl) ?_
        refine W_block ?_
        refine W_k [1, 2, 6, 7, 8] rfl ?_
        refine W_loop (fun r st => ∃ m : Nat, m ≤ 2 * T.links.length ∧ r = 2 * T.links.length - m ∧ st = ⟨[(1, .slice 1 (compP k x)), (2, .pin (topoP T) 0), (6, .own 0), (7, num 0), (8, num m)], [brow (mskTo T k x m)]⟩) (2 * T.links.length) ⟨0, by omega, by omega, rfl⟩ ?_
        rintro r st ⟨m, hm, rfl, rfl⟩
        have hml := mskTo_len T k x m
        refine W_seq ?_
        refine W_cs (.a 4 rfl <| .k [1, 2, 6, 7, 8, 33] rfl) ?_
        refine W_cond rfl (fun h4 => ?_) (fun h4 => ?_)
        · have hlt : m < 2 * T.links.length := by have := tt h4; omega
          refine W_skip ?_
          refine W_seq ?_
          refine W_block ?_
          refine W_drs mixed (by kernel_rfl) (.a 3 rfl <| .v [37, 38] (y_ix (0) rfl) rfl rfl <| .v [39] (y_la rfl ((show ((compP k x).drop 0).take 2 = compP k x from rfl)) rfl) rfl rfl <| .a 1 rfl <| .v [36, 40, 41] (y_c rfl (rof_can T k x m hlt (by omega))) rfl rfl <| .k [1, 2, 6, 7, 8, 42] rfl) ?_
          refine W_cond rfl (fun h5 => ?_) (fun h5 => ?_)
          · have hst := mskTo_yes h5
            refine W_region ?_
            refine WR_a 2 rfl <| WR_v (y_ix (m) rfl) rfl <| WR_loud0 ((by first | exact l_storeInts rfl (fok.tk.get rfl) rfl rfl rfl (by first | omega | (simp; omega)) | exact l_storeBools rfl (fok.tk.get rfl) rfl rfl rfl (by first | omega | (simp; omega)))) rfl rfl <| WR_k [1, 2, 6, 7, 8] rfl ?_
            refine W_chain (.a 1 rfl <| .v (y_ar rfl) rfl <| .a 1 rfl <| .k [1, 2, 6, 7, 8] rfl) ?_
            refine ⟨2 * T.links.length - (m + 1), by omega, m + 1, by omega, rfl, ?_⟩
            first
              | (rw [hst]; rfl)
              | (rw [hst]; unfold brow; rw [mskTo_len, mskTo_len]; rfl)
          · have hst := mskTo_no h5
            refine W_skip ?_
            refine W_chain (.a 1 rfl <| .v (y_ar rfl) rfl <| .a 1 rfl <| .k [1, 2, 6, 7, 8] rfl) ?_
            refine ⟨2 * T.links.length - (m + 1), by omega, m + 1, by omega, rfl, ?_⟩
            first
              | (rw [hst]; rfl)
              | (rw [hst]; unfold brow; rw [mskTo_len, mskTo_len]; rfl)
        · have hme : m = 2 * T.links.length := by have := ff h4; omega
          subst hme
          refine W_exit ?_
          refine W_chain (.a 1 rfl <| .v (y_ar rfl) rfl <| .a 1 rfl <| .k [1, 2, 6, 7] rfl) ?_
          exact ⟨0, by omega, 1, _, by omega, rfl, fun h => by omega, fun _ => ⟨hc, rfl⟩, by rw [mskTo_all]; rfl⟩
    · have hi1 : i = 1 := by have := ff h2; omega
      subst hi1
      obtain ⟨hc, rfl⟩ := hM1 rfl
      refine W_exit ?_
      refine W_cs (.a 3 rfl <| .k [4, 5] rfl) ?_
      refine W_ret ?_
      exact ⟨_, ResL.of rfl, .inr ⟨by rw [hv, hc]; rfl, rfl, rfl⟩⟩
set_option maxRecDepth 10000 in
set_option maxHeartbeats 1000000 in
theorem rmaskS_can (T : Topo) (k x : Int) : CanS Tryz.prog 23 [topoV T, compV k x] [] (fun r σ' => ((validB T && compB T k x) = false ∧ r = .tuple [.raw (.slice none 0 0), num 1]) ∨ ((validB T && compB T k x) = true ∧ r = .tuple [.own 0, num 0] ∧ σ' = [brow (maskL T k x)])) := by
  refine canS_of Tryz.func23 rfl Tryz.ntmps23 rfl ?_
  refine W_cs (.a 4 rfl <| .k [2, 3] rfl) ?_
  refine W_cs (.a 3 rfl <| .k [2, 6] rfl) ?_
  refine W_rs ?_
  refine WR_a 2 rfl <| WR_cS rfl rfl (CanS.mono (CanS.mono (runionS_can T k x) (fun r σ' h => (show ∃ y z, r = .tuple [y, z] ∧ (((validB T && compB T k x) = false ∧ y = .raw (.slice none 0 0) ∧ z = num 1) ∨ ((validB T && compB T k x) = true ∧ y = .own 0 ∧ z = num 0 ∧ σ' = [brow (maskL T k x)])) from by rcases h with ⟨h1, rfl⟩ | ⟨h1, rfl, h2⟩; exact ⟨_, _, rfl, .inl ⟨h1, rfl, rfl⟩⟩; exact ⟨_, _, rfl, .inr ⟨h1, rfl, rfl, h2⟩⟩))) (fun r σ' h => ?_))
  obtain ⟨y, z, rfl, hyz⟩ := h
  refine WR_a 4 rfl <| WR_k [4, 5] rfl ?_
  refine W_ret ?_
  refine ⟨_, ResL.of rfl, ?_⟩
  rcases hyz with ⟨h1, rfl, rfl⟩ | ⟨h1, rfl, rfl, rfl⟩
  · exact .inl ⟨h1, rfl⟩
  · exact .inr ⟨h1, rfl, rfl⟩
theorem rmask_can (T : Topo) (k x : Int) : Can Tryz.prog 23 [topoV T, compV k x] (· = boolsE (maskE T k x) (maskL T k x)) := by
  refine Can.ofS (rmaskS_can T k x) ?_
  rintro r σ' (⟨h1, rfl⟩ | ⟨h1, rfl, rfl⟩)
  · refine ⟨_, Pur.tupleL (PurL.cons Pur.nils (PurL.cons Pur.pure PurL.nil)), ?_⟩
    have he : maskE T k x = 1 := by unfold maskE; rw [if_neg (by rw [h1]; simp)]
    rw [he]
    rfl
  · refine ⟨_, Pur.tupleL (PurL.cons (Pur.ownL rfl PurL.pure) (PurL.cons Pur.pure PurL.nil)), ?_⟩
    unfold boolsE maskE boolsV
    rw [if_pos h1, if_pos rfl]
end PW
end Go.Proofs.YtbpgndbjbaoolaaGreat

/- The reference of the layers 9, 11 and 12, in plain form: scalars, search, Dist. -/
namespace Go.Proofs.YtbpgndbjbaoolaaGreat
set_option linter.unusedVariables false
set_option linter.unusedSimpArgs false
namespace PW
open Go.RowKit Reg Mem Net


set_option maxRecDepth 10000 in
set_option maxHeartbeats 4000000 in
theorem rsearch_can (T : Topo) (D : List Bool) (n : Int) (dir : Bool) : Can Tryz.prog 107 [topoV T, boolsV D, num n, flag dir] (· = intsE (chkE T D [n]) (distL T D n.toNat dir)) := by
  refine can_of Tryz.func107 rfl Tryz.ntmps107 rfl ?_
  refine W_cs (.a 3 rfl <| .k [1, 2, 3, 4] rfl) ?_
  refine W_seq ?_
  refine W_cs (.a 2 rfl <| .c rfl (rfits_can T D) rfl <| .a 1 rfl <| .k [1, 2, 3, 4, 20] rfl) ?_
  refine W_cond rfl (fun hc => ?_) (fun hc => ?_)
  · have hch : chkE T D [n] = 1 := by
      unfold chkE
      rw [if_neg]
      revert hc
      cases (validB T && fitsB T D) <;> simp
    refine W_cs (.a 2 rfl <| .k [8, 9] rfl) ?_
    refine W_ret ?_
    exact ⟨_, _, ResL.of rfl, Pur.tupleL (PurL.cons Pur.nils (PurL.cons Pur.pure PurL.nil)), by unfold intsE; rw [hch]; rfl⟩
  · have hok : (validB T && fitsB T D) = true := by revert hc; cases (validB T && fitsB T D) <;> simp
    refine W_skip ?_
    refine W_seq ?_
    obtain ⟨q1, hq1⟩ : ∃ q, decide (n < 0) = q := ⟨_, rfl⟩
    obtain ⟨q2, hq2⟩ : ∃ q, decide (T.nodes ≤ n) = q := ⟨_, rfl⟩
    have hnb : nodeB T n = !(q1 || q2) := by rw [← hq1, ← hq2]; unfold nodeB; by_cases h1 : n < 0 <;> by_cases h2 : T.nodes ≤ n <;> simp [h1, h2] <;> omega
    refine W_csK 28 (.raw (.bool (q1 || q2))) [1, 2, 3, 4] rfl ?_ ?_
    · refine .a 1 rfl <| .v (y_q rfl (hq1)) rfl <| .a 1 rfl <| ?_
      cases q1
      · exact .a 3 rfl <| .v (y_q rfl (hq2)) rfl <| .a 1 rfl <| .k [28, 1, 2, 3, 4] rfl
      · exact .a 5 rfl <| .k [28, 1, 2, 3, 4] rfl
    refine W_cond rfl (fun hc => ?_) (fun hc => ?_)
    · have hch : chkE T D [n] = 2 := by
        unfold chkE
        rw [if_pos hok, if_neg]
        simp [hnb, hc]
      refine W_cs (.a 2 rfl <| .k [8, 9] rfl) ?_
      refine W_ret ?_
      exact ⟨_, _, ResL.of rfl, Pur.tupleL (PurL.cons Pur.nils (PurL.cons Pur.pure PurL.nil)), by unfold intsE; rw [hch]; rfl⟩
    · have hnb' : nodeB T n = true := by rw [hnb, hc]; rfl
      have hch : chkE T D [n] = 0 := by
        unfold chkE
        rw [if_pos hok, if_pos]
        simp [hnb']
      obtain ⟨hv, hf⟩ := Bool.and_eq_true_iff.1 hok
      have hn := nodeB_iff.1 hnb'
      obtain ⟨n, rfl⟩ := Int.eq_ofNat_of_zero_le hn.1
      have hS := sound_of hv
      have hbd := valid_bd hv
      obtain ⟨N, hN⟩ : ∃ N : Nat, T.nodes = (N : Int) := ⟨T.nodes.toNat, by omega⟩
      have hN64 : N ≤ 64 := by have := hS.nodes; omega
      have hnN : n < N := by omega
      clear hc hq1 hq2 hnb
      refine W_skip ?_
      refine W_rs ?_
      refine WR_a 2 rfl <| WR_l (l_make rfl (fok.rk.get rfl) rfl rfl hN hN ⟨by unfold maxLen; omega, by omega⟩) rfl <| WR_a 1 rfl <| WR_k [1, 2, 3, 4, 10] rfl ?_
      refine W_seq ?_
      refine W_cs (.a 1 rfl <| .k [1, 2, 3, 4, 10, 11] rfl) ?_
      refine W_block ?_
      refine W_k [1, 2, 3, 4, 10, 11] rfl ?_
      refine W_loop (fun r s => ∃ k, k ≤ N ∧ r = N - k ∧ s = ⟨[(1, boolsV D), (2, num n), (3, flag dir), (4, .pin (topoP T) 0), (10, .own 0), (11, num k)], [some (.row 3 1 N (intsP (initTo N k)))]⟩) N ⟨0, by omega, by omega, by have := zeros_ints N; unfold initTo; simp only [List.replicate_zero, List.nil_append, Nat.sub_zero]; rw [← this]; rfl⟩ ?_
      rintro r s ⟨k, hk, rfl, rfl⟩
      refine W_seq ?_
      refine W_cs (.a 4 rfl <| .k [1, 2, 3, 4, 10, 11, 35] rfl) ?_
      refine W_cond rfl (fun hc => ?_) (fun hc => ?_)
      · have hlt : k < N := by have := of_decide_eq_true hc; omega
        have hil : (initTo N k).length = N := by simp [initTo]; omega
        refine W_skip ?_
        refine W_seq ?_
        refine W_block ?_
        refine W_region ?_
        refine WR_a 2 rfl <| WR_v (y_ix (k) rfl) rfl <| WR_loud0 ((by first | exact l_storeInts rfl (fok.tk.get rfl) rfl rfl rfl (by first | omega | (simp; omega)) | exact l_storeBools rfl (fok.tk.get rfl) rfl rfl rfl (by first | omega | (simp; omega)))) rfl rfl <| WR_k [1, 2, 3, 4, 10, 11] rfl ?_
        refine W_sto (σ' := [some (.row 3 1 N (intsP (initTo N (k + 1))))]) (by rw [← initTo_succ N k hlt]; rfl) ?_
        refine W_chain (.a 1 rfl <| .v (y_ar rfl) rfl <| .a 1 rfl <| .k [1, 2, 3, 4, 10, 11] rfl) ?_
        exact ⟨N - (k + 1), by omega, k + 1, by omega, rfl, rfl⟩
      · have hke : k = N := by have := of_decide_eq_false hc; omega
        subst hke
        have hil : (initTo k k).length = k := by simp [initTo]
        refine W_exit ?_
        refine W_rs ?_
        refine WR_a 2 rfl <| WR_v (y_ix (n) rfl) rfl <| WR_loud0 ((by first | exact l_storeInts rfl (fok.tk.get rfl) rfl rfl rfl (by first | omega | (simp; omega)) | exact l_storeBools rfl (fok.tk.get rfl) rfl rfl rfl (by first | omega | (simp; omega)))) rfl rfl <| WR_k [1, 2, 3, 4, 10] rfl ?_
        refine W_sto (σ' := [some (.row 3 1 k (intsP (Net.start k n)))]) (by rw [← initTo_all k n]; rfl) ?_
        have hI0 := start_inv (T := T) (D := D) (N := k) (n := n) (dir := dir) hN.symm hnN
        generalize Net.start k n = out0 at hI0
        refine W_seq ?_
        refine W_cs (.a 1 rfl <| .k [1, 2, 3, 4, 10, 12] rfl) ?_
        refine W_block ?_
        refine W_k [1, 2, 3, 4, 10, 12] rfl ?_
        refine W_loop (fun r s => ∃ (out : List Int) (b : Bool), Inv T D n dir out ∧ (b = false → ∀ a, a < 2 * T.links.length → ¬ Gains T D n dir out a) ∧ r = 2 * mu out + b.toNat ∧ s = ⟨[(1, boolsV D), (2, num n), (3, flag dir), (4, .pin (topoP T) 0), (10, .own 0), (12, flag b)], [some (.row 3 1 k (intsP out))]⟩) (2 * mu out0 + 1) ⟨out0, true, hI0, (fun h => by cases h), rfl, rfl⟩ ?_
        clear hI0 out0
        rintro r s ⟨out, b, hI, hb, rfl, rfl⟩
        refine W_seq ?_
        refine W_cs (.a 1 rfl <| .k [1, 2, 3, 4, 10, 44] rfl) ?_
        refine W_cond rfl (fun hc => ?_) (fun hc => ?_)
        · subst hc
          refine W_skip ?_
          refine W_block ?_
          refine W_cs (.a 1 rfl <| .k [1, 2, 3, 4, 10, 12] rfl) ?_
          refine W_cs (.a 1 rfl <| .k [1, 2, 3, 4, 10, 12, 13] rfl) ?_
          refine W_block ?_
          refine W_k [1, 2, 3, 4, 10, 12, 13] rfl ?_
          refine W_loop (fun r s => ∃ (k' : Nat) (out' : List Int) (b' : Bool), k' ≤ 2 * T.links.length ∧ Inv T D n dir out' ∧ (b' = false → out' = out ∧ ∀ a, a < k' → ¬ Gains T D n dir out a) ∧ (b' = true → mu out' < mu out) ∧ r = 2 * T.links.length - k' ∧ s = ⟨[(1, boolsV D), (2, num n), (3, flag dir), (4, .pin (topoP T) 0), (10, .own 0), (12, flag b'), (13, num k')], [some (.row 3 1 k (intsP out'))]⟩) (2 * T.links.length) ⟨0, out, false, by omega, hI, (fun _ => ⟨rfl, fun a ha => by omega⟩), (fun h => by cases h), by omega, rfl⟩ ?_
          rintro r s ⟨a, out', b', ha, hI', hb', ht', rfl, rfl⟩
          refine W_seq ?_
          refine W_cs (.a 4 rfl <| .v (y_ar rfl (hc := rfl)) rfl <| .a 1 rfl <| .k [1, 2, 3, 4, 10, 12, 13, 50] rfl) ?_
          refine W_cond rfl (fun hc => ?_) (fun hc => ?_)
          · have ham : a < 2 * T.links.length := by have := of_decide_eq_true hc; omega
            obtain ⟨p, hp⟩ := Int.eq_ofNat_of_zero_le (hS.tail a ham).1
            obtain ⟨q, hq⟩ := Int.eq_ofNat_of_zero_le (hS.head a ham).1
            have hpN : p < k := by have := (hS.tail a ham).2; omega
            have hqN : q < k := by have := (hS.head a ham).2; omega
            have hcb := hS.cost a ham
            have hDl : D.length = 0 ∨ a < D.length := by simp only [fitsB, decide_eq_true_eq] at hf; omega
            have hol : out'.length = k := by have := hI'.len; omega
            refine W_skip ?_
            refine W_seq ?_
            refine W_block ?_
            refine W_drs mixed (by kernel_rfl) (.a 2 rfl <| .v [53, 54] (y_c rfl (hp ▸ rtailN_can T hv a ham)) rfl rfl <| .a 2 rfl <| .v [56, 57] (y_c rfl (hq ▸ rheadN_can T hv a ham)) rfl rfl <| .a 2 rfl <| .k [1, 2, 3, 4, 10, 12, 13, 14, 15] rfl) ?_
            refine W_seq ?_
            refine W_cs (.a 1 rfl <| .k [1, 2, 3, 4, 10, 12, 13, 14, 15, 59] rfl) ?_
            refine W_cond rfl (fun hdir => ?_) (fun hdir => ?_)
            · obtain ⟨x, y, hx, hy, ex, ey⟩ : ∃ x y : Nat, arcX T dir a = (x : Int) ∧ arcY T dir a = (y : Int) ∧ x = q ∧ y = p := ⟨q, p, by rw [hdir]; exact hq, by rw [hdir]; exact hp, rfl, rfl⟩
              subst ex
              subst ey
              refine W_chain (.a 4 rfl <| .k [1, 2, 3, 4, 10, 12, 13, 14, 15] rfl) ?_
              refine W_seq ?_
              have gx : out'.getD x 0 = at' out' (x : Int) := by simp [at', List.getD_eq_getElem?_getD, show x < out'.length by omega]
              have gy : out'.getD y 0 = at' out' (y : Int) := by simp [at', List.getD_eq_getElem?_getD, show y < out'.length by omega]
              have uy := hI'.ub y (by omega) (by omega)
              have ly := hI'.ge y (by omega)
              obtain ⟨p1, hp1⟩ : ∃ q, (!downN D a) = q := ⟨_, rfl⟩
              obtain ⟨p2, hp2⟩ : ∃ q, decide (out'.getD y 0 < 0) = q := ⟨_, rfl⟩
              obtain ⟨p3, hp3⟩ : ∃ q, (decide (y = n) || !overN T y) = q := ⟨_, rfl⟩
              refine W_csK 79 (.raw (.bool (((!p1) || p2) || (!p3)))) [1, 2, 3, 4, 10, 12, 13, 14, 15] rfl ?_ ?_
              · refine .a 2 rfl <| .c rfl (hp1 ▸ rup_can D a hDl) rfl <| .a 2 rfl <| ?_
                cases p1
                · exact .a 13 rfl <| .k [79, 1, 2, 3, 4, 10, 12, 13, 14, 15] rfl
                · refine .a 2 rfl <| .v (y_ix (y) rfl) rfl <| .v (y_ld rfl (ints_get out' y (by omega))) rfl <| .v (y_q rfl (hp2)) rfl <| .a 2 rfl <| ?_
                  cases p2
                  · exact .a 3 rfl <| .c rfl (hp3 ▸ rtransit_can T hv y n) rfl <| .a 2 rfl <| .k [79, 1, 2, 3, 4, 10, 12, 13, 14, 15] rfl
                  · exact .a 6 rfl <| .k [79, 1, 2, 3, 4, 10, 12, 13, 14, 15] rfl
              refine W_cond rfl (fun hc => ?_) (fun hc => ?_)
              · have hng : ¬ Gains T D n dir out' a := fun hg => by
                  obtain ⟨⟨w1, w2, w3⟩, _⟩ := hg
                  rw [hy] at w2 w3
                  have e1 : p1 = true := by rw [← hp1, w1]; rfl
                  have e2 : p2 = false := by rw [← hp2, gy]; simp; omega
                  have e3 : p3 = true := by
                    rw [← hp3]
                    rcases w3 with w3 | w3
                    · have : y = n := by omega
                      simp [this]
                    · rw [Int.toNat_natCast] at w3; simp [w3]
                  rw [e1, e2, e3] at hc
                  cases hc
                refine W_exit ?_
                refine W_chain (.a 1 rfl <| .v (y_ar rfl) rfl <| .a 1 rfl <| .k [1, 2, 3, 4, 10, 12, 13] rfl) ?_
                first
                  | exact ⟨2 * T.links.length - (a + 1), by omega, a + 1, _, true, by omega, hIg, fun h => (by cases h), fun _ => (by by_cases e : b' = true; (have := ht' e; omega); (have := (hb' (by cases b'; rfl; exact absurd rfl e)).1; rw [this] at hmg; rw [this]; exact hmg)), rfl, rfl⟩
                  | exact ⟨2 * T.links.length - (a + 1), by omega, a + 1, out', b', by omega, hI', fun h => ⟨(hb' h).1, fun c hc' => by by_cases e : c = a; (rw [e, ← (hb' h).1]; exact hng); exact (hb' h).2 c (by omega)⟩, ht', rfl, rfl⟩
              · have hway : Net.Way T D n dir out' a := by
                  obtain ⟨c1, c3⟩ := Bool.or_eq_false_iff.1 hc
                  obtain ⟨c1, c2⟩ := Bool.or_eq_false_iff.1 c1
                  have e1 : p1 = true := by cases p1; cases c1; rfl
                  have e3 : p3 = true := by cases p3; cases c3; rfl
                  rw [e1] at hp1
                  rw [c2] at hp2
                  rw [e3] at hp3
                  refine ⟨by revert hp1; cases downN D a <;> simp, ?_, ?_⟩
                  · rw [hy, ← gy]; have := of_decide_eq_false hp2; omega
                  · rw [hy, Int.toNat_natCast]
                    rcases Bool.or_eq_true_iff.1 hp3 with h | h
                    · exact .inl (by have := of_decide_eq_true h; omega)
                    · exact .inr (by revert h; cases overN T y <;> simp)
                have wy := hway.2.1
                rw [hy] at wy
                refine W_skip ?_
                refine W_drs mixed (by kernel_rfl) (.a 2 rfl <| .v [80, 81] (y_ix (y) rfl) rfl rfl <| .v [82] (y_ld rfl ((ints_get out' y (by omega)).trans (by rw [gy]))) rfl rfl <| .a 2 rfl <| .v [84, 85] (y_c rfl (rcostN_can T hv a ham)) rfl rfl <| .v [83, 86] (y_ar rfl) rfl rfl <| .a 1 rfl <| .k [1, 2, 3, 4, 10, 12, 13, 14, 16] rfl) ?_
                obtain ⟨p4, hp4⟩ : ∃ q, decide (at' out' (x : Int) < 0) = q := ⟨_, rfl⟩
                obtain ⟨p5, hp5⟩ : ∃ q, decide (at' out' (y : Int) + costN T a < at' out' (x : Int)) = q := ⟨_, rfl⟩
                refine W_csK 100 (.raw (.bool (p4 || p5))) [1, 2, 3, 4, 10, 12, 13, 14, 16] rfl ?_ ?_
                · refine .a 2 rfl <| .v (y_ix (x) rfl) rfl <| .v (y_ld rfl ((ints_get out' x (by omega)).trans (by rw [gx]))) rfl <| .v (y_q rfl (hp4)) rfl <| .a 1 rfl <| ?_
                  cases p4
                  · exact .a 3 rfl <| .v (y_ix (x) rfl) rfl <| .v (y_ld rfl ((ints_get out' x (by omega)).trans (by rw [gx]))) rfl <| .v (y_q rfl (hp5)) rfl <| .a 1 rfl <| .k [100, 1, 2, 3, 4, 10, 12, 13, 14, 16] rfl
                  · exact .a 7 rfl <| .k [100, 1, 2, 3, 4, 10, 12, 13, 14, 16] rfl
                refine W_cond rfl (fun hc => ?_) (fun hc => ?_)
                · have hg : Gains T D n dir out' a := ⟨hway, by
                    rw [hx, hy]
                    rcases Bool.or_eq_true_iff.1 hc with h | h
                    · rw [h] at hp4; exact .inl (of_decide_eq_true hp4)
                    · rw [h] at hp5; exact .inr (of_decide_eq_true hp5)⟩
                  obtain ⟨hIg, hmg⟩ := gain_inv hS hI' a ham hg
                  have hge : gain T dir out' a = out'.set x (at' out' (y : Int) + costN T a) := by unfold gain; rw [hx, hy, Int.toNat_natCast]
                  rw [hge] at hIg hmg
                  refine W_rs ?_
                  refine WR_a 3 rfl <| WR_v (y_ix (x) rfl) rfl <| WR_loud0 ((by first | exact l_storeInts rfl (fok.tk.get rfl) rfl rfl rfl (by first | omega | (simp; omega)) | exact l_storeBools rfl (fok.tk.get rfl) rfl rfl rfl (by first | omega | (simp; omega)))) rfl rfl <| WR_k [1, 2, 3, 4, 10, 13] rfl ?_
                  refine W_chain (.a 1 rfl <| .k [1, 2, 3, 4, 10, 12, 13] rfl) ?_
                  refine W_chain (.a 1 rfl <| .v (y_ar rfl) rfl <| .a 1 rfl <| .k [1, 2, 3, 4, 10, 12, 13] rfl) ?_
                  first
                    | exact ⟨2 * T.links.length - (a + 1), by omega, a + 1, _, true, by omega, hIg, fun h => (by cases h), fun _ => (by by_cases e : b' = true; (have := ht' e; omega); (have := (hb' (by cases b'; rfl; exact absurd rfl e)).1; rw [this] at hmg; rw [this]; exact hmg)), rfl, rfl⟩
                    | exact ⟨2 * T.links.length - (a + 1), by omega, a + 1, out', b', by omega, hI', fun h => ⟨(hb' h).1, fun c hc' => by by_cases e : c = a; (rw [e, ← (hb' h).1]; exact hng); exact (hb' h).2 c (by omega)⟩, ht', rfl, rfl⟩
                · have hng : ¬ Gains T D n dir out' a := fun hg => by
                    obtain ⟨_, hg⟩ := hg
                    rw [hx, hy] at hg
                    obtain ⟨c1, c2⟩ := Bool.or_eq_false_iff.1 hc
                    rw [c1] at hp4
                    rw [c2] at hp5
                    rcases hg with h | h
                    · exact of_decide_eq_false hp4 h
                    · exact of_decide_eq_false hp5 h
                  refine W_skip ?_
                  refine W_chain (.a 1 rfl <| .v (y_ar rfl) rfl <| .a 1 rfl <| .k [1, 2, 3, 4, 10, 12, 13] rfl) ?_
                  first
                    | exact ⟨2 * T.links.length - (a + 1), by omega, a + 1, _, true, by omega, hIg, fun h => (by cases h), fun _ => (by by_cases e : b' = true; (have := ht' e; omega); (have := (hb' (by cases b'; rfl; exact absurd rfl e)).1; rw [this] at hmg; rw [this]; exact hmg)), rfl, rfl⟩
                    | exact ⟨2 * T.links.length - (a + 1), by omega, a + 1, out', b', by omega, hI', fun h => ⟨(hb' h).1, fun c hc' => by by_cases e : c = a; (rw [e, ← (hb' h).1]; exact hng); exact (hb' h).2 c (by omega)⟩, ht', rfl, rfl⟩
            · obtain ⟨x, y, hx, hy, ex, ey⟩ : ∃ x y : Nat, arcX T dir a = (x : Int) ∧ arcY T dir a = (y : Int) ∧ x = p ∧ y = q := ⟨p, q, by rw [hdir]; exact hp, by rw [hdir]; exact hq, rfl, rfl⟩
              subst ex
              subst ey
              refine W_skip ?_
              refine W_seq ?_
              have gx : out'.getD x 0 = at' out' (x : Int) := by simp [at', List.getD_eq_getElem?_getD, show x < out'.length by omega]
              have gy : out'.getD y 0 = at' out' (y : Int) := by simp [at', List.getD_eq_getElem?_getD, show y < out'.length by omega]
              have uy := hI'.ub y (by omega) (by omega)
              have ly := hI'.ge y (by omega)
              obtain ⟨p1, hp1⟩ : ∃ q, (!downN D a) = q := ⟨_, rfl⟩
              obtain ⟨p2, hp2⟩ : ∃ q, decide (out'.getD y 0 < 0) = q := ⟨_, rfl⟩
              obtain ⟨p3, hp3⟩ : ∃ q, (decide (y = n) || !overN T y) = q := ⟨_, rfl⟩
              refine W_csK 79 (.raw (.bool (((!p1) || p2) || (!p3)))) [1, 2, 3, 4, 10, 12, 13, 14, 15] rfl ?_ ?_
              · refine .a 2 rfl <| .c rfl (hp1 ▸ rup_can D a hDl) rfl <| .a 2 rfl <| ?_
                cases p1
                · exact .a 13 rfl <| .k [79, 1, 2, 3, 4, 10, 12, 13, 14, 15] rfl
                · refine .a 2 rfl <| .v (y_ix (y) rfl) rfl <| .v (y_ld rfl (ints_get out' y (by omega))) rfl <| .v (y_q rfl (hp2)) rfl <| .a 2 rfl <| ?_
                  cases p2
                  · exact .a 3 rfl <| .c rfl (hp3 ▸ rtransit_can T hv y n) rfl <| .a 2 rfl <| .k [79, 1, 2, 3, 4, 10, 12, 13, 14, 15] rfl
                  · exact .a 6 rfl <| .k [79, 1, 2, 3, 4, 10, 12, 13, 14, 15] rfl
              refine W_cond rfl (fun hc => ?_) (fun hc => ?_)
              · have hng : ¬ Gains T D n dir out' a := fun hg => by
                  obtain ⟨⟨w1, w2, w3⟩, _⟩ := hg
                  rw [hy] at w2 w3
                  have e1 : p1 = true := by rw [← hp1, w1]; rfl
                  have e2 : p2 = false := by rw [← hp2, gy]; simp; omega
                  have e3 : p3 = true := by
                    rw [← hp3]
                    rcases w3 with w3 | w3
                    · have : y = n := by omega
                      simp [this]
                    · rw [Int.toNat_natCast] at w3; simp [w3]
                  rw [e1, e2, e3] at hc
                  cases hc
                refine W_exit ?_
                refine W_chain (.a 1 rfl <| .v (y_ar rfl) rfl <| .a 1 rfl <| .k [1, 2, 3, 4, 10, 12, 13] rfl) ?_
                first
                  | exact ⟨2 * T.links.length - (a + 1), by omega, a + 1, _, true, by omega, hIg, fun h => (by cases h), fun _ => (by by_cases e : b' = true; (have := ht' e; omega); (have := (hb' (by cases b'; rfl; exact absurd rfl e)).1; rw [this] at hmg; rw [this]; exact hmg)), rfl, rfl⟩
                  | exact ⟨2 * T.links.length - (a + 1), by omega, a + 1, out', b', by omega, hI', fun h => ⟨(hb' h).1, fun c hc' => by by_cases e : c = a; (rw [e, ← (hb' h).1]; exact hng); exact (hb' h).2 c (by omega)⟩, ht', rfl, rfl⟩
              · have hway : Net.Way T D n dir out' a := by
                  obtain ⟨c1, c3⟩ := Bool.or_eq_false_iff.1 hc
                  obtain ⟨c1, c2⟩ := Bool.or_eq_false_iff.1 c1
                  have e1 : p1 = true := by cases p1; cases c1; rfl
                  have e3 : p3 = true := by cases p3; cases c3; rfl
                  rw [e1] at hp1
                  rw [c2] at hp2
                  rw [e3] at hp3
                  refine ⟨by revert hp1; cases downN D a <;> simp, ?_, ?_⟩
                  · rw [hy, ← gy]; have := of_decide_eq_false hp2; omega
                  · rw [hy, Int.toNat_natCast]
                    rcases Bool.or_eq_true_iff.1 hp3 with h | h
                    · exact .inl (by have := of_decide_eq_true h; omega)
                    · exact .inr (by revert h; cases overN T y <;> simp)
                have wy := hway.2.1
                rw [hy] at wy
                refine W_skip ?_
                refine W_drs mixed (by kernel_rfl) (.a 2 rfl <| .v [80, 81] (y_ix (y) rfl) rfl rfl <| .v [82] (y_ld rfl ((ints_get out' y (by omega)).trans (by rw [gy]))) rfl rfl <| .a 2 rfl <| .v [84, 85] (y_c rfl (rcostN_can T hv a ham)) rfl rfl <| .v [83, 86] (y_ar rfl) rfl rfl <| .a 1 rfl <| .k [1, 2, 3, 4, 10, 12, 13, 14, 16] rfl) ?_
                obtain ⟨p4, hp4⟩ : ∃ q, decide (at' out' (x : Int) < 0) = q := ⟨_, rfl⟩
                obtain ⟨p5, hp5⟩ : ∃ q, decide (at' out' (y : Int) + costN T a < at' out' (x : Int)) = q := ⟨_, rfl⟩
                refine W_csK 100 (.raw (.bool (p4 || p5))) [1, 2, 3, 4, 10, 12, 13, 14, 16] rfl ?_ ?_
                · refine .a 2 rfl <| .v (y_ix (x) rfl) rfl <| .v (y_ld rfl ((ints_get out' x (by omega)).trans (by rw [gx]))) rfl <| .v (y_q rfl (hp4)) rfl <| .a 1 rfl <| ?_
                  cases p4
                  · exact .a 3 rfl <| .v (y_ix (x) rfl) rfl <| .v (y_ld rfl ((ints_get out' x (by omega)).trans (by rw [gx]))) rfl <| .v (y_q rfl (hp5)) rfl <| .a 1 rfl <| .k [100, 1, 2, 3, 4, 10, 12, 13, 14, 16] rfl
                  · exact .a 7 rfl <| .k [100, 1, 2, 3, 4, 10, 12, 13, 14, 16] rfl
                refine W_cond rfl (fun hc => ?_) (fun hc => ?_)
                · have hg : Gains T D n dir out' a := ⟨hway, by
                    rw [hx, hy]
                    rcases Bool.or_eq_true_iff.1 hc with h | h
                    · rw [h] at hp4; exact .inl (of_decide_eq_true hp4)
                    · rw [h] at hp5; exact .inr (of_decide_eq_true hp5)⟩
                  obtain ⟨hIg, hmg⟩ := gain_inv hS hI' a ham hg
                  have hge : gain T dir out' a = out'.set x (at' out' (y : Int) + costN T a) := by unfold gain; rw [hx, hy, Int.toNat_natCast]
                  rw [hge] at hIg hmg
                  refine W_rs ?_
                  refine WR_a 3 rfl <| WR_v (y_ix (x) rfl) rfl <| WR_loud0 ((by first | exact l_storeInts rfl (fok.tk.get rfl) rfl rfl rfl (by first | omega | (simp; omega)) | exact l_storeBools rfl (fok.tk.get rfl) rfl rfl rfl (by first | omega | (simp; omega)))) rfl rfl <| WR_k [1, 2, 3, 4, 10, 13] rfl ?_
                  refine W_chain (.a 1 rfl <| .k [1, 2, 3, 4, 10, 12, 13] rfl) ?_
                  refine W_chain (.a 1 rfl <| .v (y_ar rfl) rfl <| .a 1 rfl <| .k [1, 2, 3, 4, 10, 12, 13] rfl) ?_
                  first
                    | exact ⟨2 * T.links.length - (a + 1), by omega, a + 1, _, true, by omega, hIg, fun h => (by cases h), fun _ => (by by_cases e : b' = true; (have := ht' e; omega); (have := (hb' (by cases b'; rfl; exact absurd rfl e)).1; rw [this] at hmg; rw [this]; exact hmg)), rfl, rfl⟩
                    | exact ⟨2 * T.links.length - (a + 1), by omega, a + 1, out', b', by omega, hI', fun h => ⟨(hb' h).1, fun c hc' => by by_cases e : c = a; (rw [e, ← (hb' h).1]; exact hng); exact (hb' h).2 c (by omega)⟩, ht', rfl, rfl⟩
                · have hng : ¬ Gains T D n dir out' a := fun hg => by
                    obtain ⟨_, hg⟩ := hg
                    rw [hx, hy] at hg
                    obtain ⟨c1, c2⟩ := Bool.or_eq_false_iff.1 hc
                    rw [c1] at hp4
                    rw [c2] at hp5
                    rcases hg with h | h
                    · exact of_decide_eq_false hp4 h
                    · exact of_decide_eq_false hp5 h
                  refine W_skip ?_
                  refine W_chain (.a 1 rfl <| .v (y_ar rfl) rfl <| .a 1 rfl <| .k [1, 2, 3, 4, 10, 12, 13] rfl) ?_
                  first
                    | exact ⟨2 * T.links.length - (a + 1), by omega, a + 1, _, true, by omega, hIg, fun h => (by cases h), fun _ => (by by_cases e : b' = true; (have := ht' e; omega); (have := (hb' (by cases b'; rfl; exact absurd rfl e)).1; rw [this] at hmg; rw [this]; exact hmg)), rfl, rfl⟩
                    | exact ⟨2 * T.links.length - (a + 1), by omega, a + 1, out', b', by omega, hI', fun h => ⟨(hb' h).1, fun c hc' => by by_cases e : c = a; (rw [e, ← (hb' h).1]; exact hng); exact (hb' h).2 c (by omega)⟩, ht', rfl, rfl⟩
          · have hae : a = 2 * T.links.length := by have := of_decide_eq_false hc; omega
            refine W_sub (.cons (k := 1) rfl <| .cons (k := 2) rfl <| .cons (k := 3) rfl <| .cons (k := 4) rfl <| .cons (k := 10) rfl <| .cons (k := 12) rfl <| Sub.nil _) ?_
            refine W_exit ?_
            refine ⟨_, ?_, out', b', hI', fun h => ?_, rfl, rfl⟩
            · cases b'
              · rw [(hb' rfl).1]; simp
              · have := ht' rfl; simp; omega
            · rw [(hb' h).1]; intro c hc'; exact (hb' h).2 c (by omega)
        · have hdist : distL T D n dir = out := distL_eq hS (inv_dist hI (hb hc))
          refine W_exit ?_
          refine W_cs (.a 3 rfl <| .k [8, 9] rfl) ?_
          refine W_ret ?_
          refine ⟨_, _, ResL.of rfl, Pur.tupleL (PurL.cons (Pur.ownL rfl PurL.pure) (PurL.cons Pur.pure PurL.nil)), ?_⟩
          unfold intsE
          rw [hch, if_pos rfl, Int.toNat_natCast, hdist]
          unfold intsV
          rw [show out.length = k by have := hI.len; omega]

set_option maxRecDepth 10000 in
set_option maxHeartbeats 1000000 in
theorem rdist_can (T : Topo) (D : List Bool) (d : Int) : Can Tryz.prog 64 [topoV T, boolsV D, num d] (· = intsE (chkE T D [d]) (distL T D d.toNat false)) := by
  refine can_of Tryz.func64 rfl Tryz.ntmps64 rfl ?_
  refine W_cs (.a 3 rfl <| .k [1, 2, 3] rfl) ?_
  refine W_cs (.a 3 rfl <| .c rfl (rsearch_can T D d false) rfl <| .a 4 rfl <| .k [6, 7] rfl) ?_
  refine W_ret ?_
  exact ⟨_, _, ResL.of rfl, Pur.pure, rfl⟩
end PW
end Go.Proofs.YtbpgndbjbaoolaaGreat

/- The reference of layer 12: next arcs; Out of layer 9. -/
namespace Go.Proofs.YtbpgndbjbaoolaaGreat
set_option linter.unusedVariables false
set_option linter.unusedSimpArgs false
namespace PW
open Go.RowKit Reg Mem Net

def onB (T : Topo) (D : List Bool) (L : List Int) (a d : Nat) : Bool :=
  ((((!downN D a) && decide (tailN T a ≠ (d : Int))) && decide (0 ≤ L.getD (headN T a).toNat 0)) && (decide ((headN T a).toNat = d) || !overN T (headN T a).toNat)) && decide (L.getD (tailN T a).toNat 0 = L.getD (headN T a).toNat 0 + costN T a)

set_option maxRecDepth 10000 in
set_option maxHeartbeats 1000000 in
theorem on_can (T : Topo) (D : List Bool) (L : List Int) (a d : Nat) (hv : validB T = true) (hf : fitsB T D = true) (hL : (L.length : Int) = T.nodes) (hub : ∀ x ∈ L, -1 ≤ x ∧ x ≤ 4194240) (ha : a < 2 * T.links.length) :
    Can Tryz.prog 65 [topoV T, boolsV D, intsV L, num a, num d] (· = flag (onB T D L a d)) := by
  have hS := sound_of hv
  obtain ⟨x, hx⟩ := Int.eq_ofNat_of_zero_le (hS.tail a ha).1
  obtain ⟨y, hy⟩ := Int.eq_ofNat_of_zero_le (hS.head a ha).1
  have hxL : x < L.length := by have := (hS.tail a ha).2; omega
  have hyL : y < L.length := by have := (hS.head a ha).2; omega
  have hcb := hS.cost a ha
  have hDl : D.length = 0 ∨ a < D.length := by simp only [fitsB, decide_eq_true_eq] at hf; omega
  have uy := hub _ (getD_mem (d := 0) hyL)
  obtain ⟨p1, hp1⟩ : ∃ q, (!downN D a) = q := ⟨_, rfl⟩
  obtain ⟨p2, hp2⟩ : ∃ q, decide ((x : Int) ≠ (d : Int)) = q := ⟨_, rfl⟩
  obtain ⟨p3, hp3⟩ : ∃ q, decide (0 ≤ L.getD y 0) = q := ⟨_, rfl⟩
  obtain ⟨p4, hp4⟩ : ∃ q, (decide (y = d) || !overN T y) = q := ⟨_, rfl⟩
  obtain ⟨p5, hp5⟩ : ∃ q, decide (L.getD x 0 = L.getD y 0 + costN T a) = q := ⟨_, rfl⟩
  have hon : onB T D L a d = ((((p1 && p2) && p3) && p4) && p5) := by
    unfold onB
    rw [hx, hy, Int.toNat_natCast, Int.toNat_natCast, hp1, hp2, hp3, hp4, hp5]
  rw [hon]
  refine can_of Tryz.func65 rfl Tryz.ntmps65 rfl ?_
  refine W_cs (.a 2 rfl <| .k [1, 2, 3, 4, 5] rfl) ?_
  refine W_drs mixed (by kernel_rfl) (.a 2 rfl <| .v [13, 14] (y_c rfl (hx ▸ rtailN_can T hv a ha)) rfl rfl <| .a 2 rfl <| .v [16, 17] (y_c rfl (hy ▸ rheadN_can T hv a ha)) rfl rfl <| .a 2 rfl <| .k [1, 2, 3, 4, 5, 11, 12] rfl) ?_
  refine W_drsK mixed (by kernel_rfl) 10 (.raw (.bool ((((p1 && p2) && p3) && p4) && p5))) [] rfl ?_ ?_
  · refine .a 2 rfl <| .v [19, 20] (y_c rfl (hp1 ▸ rup_can D a hDl)) rfl rfl <| .a 1 rfl <| ?_
    cases p1
    · exact .a 33 rfl <| .k [10] rfl
    · refine .a 2 rfl <| .v [23, 24] (y_q rfl (hp2)) rfl rfl <| .a 2 rfl <| ?_
      cases p2
      · exact .a 28 rfl <| .k [10] rfl
      · refine .a 2 rfl <| .v [28, 29] (y_ix (y) rfl) rfl rfl <| .v [30] (y_ld rfl (ints_get L y hyL)) rfl rfl <| .v [31] (y_q rfl (hp3)) rfl rfl <| .a 2 rfl <| ?_
        cases p3
        · exact .a 21 rfl <| .k [10] rfl
        · refine .a 3 rfl <| .v [35, 36, 37] (y_c rfl (hp4 ▸ rtransit_can T hv y d)) rfl rfl <| .a 2 rfl <| ?_
          cases p4
          · exact .a 15 rfl <| .k [10] rfl
          · exact .a 2 rfl <| .v [41, 42] (y_ix (x) rfl) rfl rfl <| .v [43] (y_ld rfl (ints_get L x hxL)) rfl rfl <| .a 2 rfl <| .v [45, 46] (y_ix (y) rfl) rfl rfl <| .v [47] (y_ld rfl (ints_get L y hyL)) rfl rfl <| .a 2 rfl <| .v [49, 50] (y_c rfl (rcostN_can T hv a ha)) rfl rfl <| .v [48, 51] (y_ar rfl) rfl rfl <| .v [44, 52] (y_q rfl (hp5)) rfl rfl <| .a 2 rfl <| .k [10] rfl
  refine W_ret ?_
  exact ⟨_, _, ResL.of rfl, Pur.pure, rfl⟩

end PW
end Go.Proofs.YtbpgndbjbaoolaaGreat

/- The reference of layer 22: Routes. -/
namespace Go.Proofs.YtbpgndbjbaoolaaGreat
set_option linter.unusedVariables false
set_option linter.unusedSimpArgs false
namespace PW
open Go.RowKit Reg Mem Net

end PW
end Go.Proofs.YtbpgndbjbaoolaaGreat

/- Segments are compared. -/
namespace Go.Proofs.YtbpgndbjbaoolaaGreat
set_option linter.unusedVariables false
set_option linter.unusedSimpArgs false
namespace PW
open Go.RowKit Reg Mem Net

end PW
end Go.Proofs.YtbpgndbjbaoolaaGreat

/- The reference of the layers 18 and 22: Same. -/
namespace Go.Proofs.YtbpgndbjbaoolaaGreat
set_option linter.unusedVariables false
set_option linter.unusedSimpArgs false
namespace PW
open Go.RowKit Reg Mem Net

deriving instance DecidableEq for Ent
deriving instance DecidableEq for Tab
end PW
end Go.Proofs.YtbpgndbjbaoolaaGreat

/- Valid segments and tables: graph.Segment, package table's leaving, proper, Valid; the reference's of layers 18 and 22. -/
namespace Go.Proofs.YtbpgndbjbaoolaaGreat
set_option linter.unusedVariables false
set_option linter.unusedSimpArgs false
namespace PW
open Go.RowKit Reg Mem Net

def segB (T : Topo) (s : Seg) : Bool := if s.kind = 1 then nodeB T s.num else if s.kind = 2 then arcB T s.num else if s.kind = 3 then withinB s.num 1 64 else if s.kind = 4 then withinB s.num 0 65535 else false
theorem arcB_iff {T : Topo} {a : Int} : arcB T a = true ↔ 0 ≤ a ∧ a < 2 * (T.links.length : Int) := by simp [arcB]
theorem tailI_can (T : Topo) (a : Int) (h : arcB T a = true) : Can Tryz.prog 87 [topoV T, num a] (· = num (tailN T a.toNat)) := by
  obtain ⟨h0, h1⟩ := arcB_iff.1 h
  obtain ⟨a, rfl⟩ := Int.eq_ofNat_of_zero_le h0
  exact tail_can T a (by omega)

end PW
end Go.Proofs.YtbpgndbjbaoolaaGreat

/- The next arcs of a node, as plain mathematics: they lead to nodes that are nearer; a node that reaches has one; tables of routes are valid. -/
namespace Go.Proofs.YtbpgndbjbaoolaaGreat
set_option linter.unusedVariables false
set_option linter.unusedSimpArgs false
namespace PW
open Go.RowKit Reg Mem Net

theorem outL_sorted (T : Topo) (n : Int) : (outL T n).Pairwise (· < ·) := by
  unfold outL outTo
  refine List.Pairwise.map _ (fun a b h => ?_) ((List.pairwise_lt_range (n := 2 * T.links.length)).filter _)
  show (a : Int) < (b : Int)
  omega
theorem outL_iff {T : Topo} {n : Int} {a : Int} : a ∈ outL T n ↔ arcB T a = true ∧ tailN T a.toNat = n := by
  unfold outL outTo
  rw [List.mem_map, arcB_iff]
  constructor
  · rintro ⟨b, hb, rfl⟩
    obtain ⟨h1, h2⟩ := List.mem_filter.1 hb
    have := List.mem_range.1 h1
    refine ⟨⟨by simp, by simp; omega⟩, by simpa using h2⟩
  · rintro ⟨⟨h0, h1⟩, h2⟩
    refine ⟨a.toNat, List.mem_filter.2 ⟨List.mem_range.2 (by omega), by simpa using h2⟩, by simp; omega⟩
theorem next_self (T : Topo) (D : List Bool) (n : Nat) : nextL T D n n = [] := by unfold nextL; rw [if_pos (.inl rfl)]
theorem dist_at {T : Topo} {D : List Bool} (hv : validB T = true) {d x : Nat} (hd : (d : Int) < T.nodes) (hx : (x : Int) < T.nodes) : (distL T D d false).getD x 0 = at' (distL T D d false) (x : Int) := by
  have hl := (distL_bound (D := D) hv (dir := false) hd).1
  unfold at'
  rw [Int.toNat_natCast, List.getD_eq_getElem?_getD, List.getD_eq_getElem?_getD, List.getElem?_eq_getElem (by omega)]
  rfl
/-- What is known of a next arc. -/
structure Nearer (T : Topo) (D : List Bool) (n d a : Nat) : Prop where
  arc : a < 2 * T.links.length
  tail : tailN T a = (n : Int)
  up : downN D a = false
  ne : n ≠ d
  reach : 0 ≤ (distL T D d false).getD (headN T a).toNat 0
  pass : headN T a = (d : Int) ∨ overN T (headN T a).toNat = false
  sum : (distL T D d false).getD n 0 = (distL T D d false).getD (headN T a).toNat 0 + costN T a
theorem next_mem {T : Topo} {D : List Bool} {n d : Nat} {a : Int} (h : a ∈ nextL T D n d) : ∃ k : Nat, a = k ∧ Nearer T D n d k := by
  unfold nextL at h
  split at h
  · simp at h
  · rename_i hne
    obtain ⟨h1, h2⟩ := List.mem_filter.1 h
    obtain ⟨h3, h4⟩ := outL_iff.1 h1
    obtain ⟨h5, h6⟩ := arcB_iff.1 h3
    obtain ⟨k, rfl⟩ := Int.eq_ofNat_of_zero_le h5
    rw [Int.toNat_natCast] at h2 h4
    unfold passB at h2
    simp only [Bool.and_eq_true, Bool.not_eq_true', Bool.or_eq_false_iff, decide_eq_true_eq, decide_eq_false_iff_not] at h2
    obtain ⟨⟨⟨g1, g2⟩, g3⟩, g4⟩ := h2
    refine ⟨k, rfl, by omega, h4, g1, fun e => hne (.inl e), by omega, ?_, by omega⟩
    rcases Bool.and_eq_false_iff.1 g3 with g | g
    · exact .inl (Classical.byContradiction (ff g))
    · exact .inr g
theorem next_of {T : Topo} {D : List Bool} {n d k : Nat} (h : Nearer T D n d k) (hc : 1 ≤ costN T k) : (k : Int) ∈ nextL T D n d := by
  have hs := h.sum
  have hr := h.reach
  unfold nextL
  rw [if_neg (by rintro (e | e); exact h.ne e; omega)]
  refine List.mem_filter.2 ⟨outL_iff.2 ⟨arcB_iff.2 ⟨by omega, by have := h.arc; omega⟩, h.tail⟩, ?_⟩
  unfold passB
  rw [Int.toNat_natCast]
  simp only [Bool.and_eq_true, Bool.not_eq_true', Bool.or_eq_false_iff, decide_eq_true_eq, decide_eq_false_iff_not]
  refine ⟨⟨⟨h.up, by omega⟩, ?_⟩, by omega⟩
  rcases h.pass with g | g
  · rw [decide_eq_false (by simpa using g)]; rfl
  · rw [g, Bool.and_false]
theorem next_ex {T : Topo} {D : List Bool} (hv : validB T = true) {n d : Nat} (hn : (n : Int) < T.nodes) (hd : (d : Int) < T.nodes) (hne : n ≠ d) (h0 : 0 ≤ (distL T D d false).getD n 0) : ∃ k, Nearer T D n d k := by
  have hS := sound_of hv
  have hI := distL_is hS D false hd
  have e1 := dist_at (D := D) hv hd hn
  rcases hI.supp n hn (by rw [← e1]; exact h0) with h | ⟨a, ha, hx, ⟨w1, w2, w3⟩, hs⟩
  · exact absurd h hne
  · have hh := hS.head a ha
    obtain ⟨y, hy⟩ := Int.eq_ofNat_of_zero_le hh.1
    have e2 := dist_at (D := D) hv hd (x := y) (by omega)
    simp only [arcX, arcY, Bool.false_eq_true, if_false] at hx w2 w3 hs
    rw [hy] at w2 w3 hs
    refine ⟨a, ha, hx, w1, hne, ?_, ?_, ?_⟩
    · rw [hy, Int.toNat_natCast, e2]; exact w2
    · rw [hy]; exact w3
    · rw [hy, Int.toNat_natCast, e1, e2]; exact hs
theorem dist_self {T : Topo} {D : List Bool} (hv : validB T = true) {d : Nat} (hd : (d : Int) < T.nodes) : (distL T D d false).getD d 0 = 0 := by
  rw [dist_at hv hd hd]
  exact (distL_is (sound_of hv) D false hd).root
end PW
end Go.Proofs.YtbpgndbjbaoolaaGreat

/- Shortest paths as chains of next arcs, as plain mathematics: their costs, the first of them, how many there are. -/
namespace Go.Proofs.YtbpgndbjbaoolaaGreat
set_option linter.unusedVariables false
set_option linter.unusedSimpArgs false
namespace PW
open Go.RowKit Reg Mem Net

/-- The distance from a node to d. -/
noncomputable def dN (T : Topo) (D : List Bool) (d x : Nat) : Int := (distL T D d false).getD x 0
def costL (T : Topo) (p : List Int) : Int := p.foldr (fun a c => costN T a.toNat + c) 0
theorem costL_nil (T : Topo) : costL T [] = 0 := rfl
theorem costL_cons (T : Topo) (a : Int) (p : List Int) : costL T (a :: p) = costN T a.toNat + costL T p := rfl
theorem costL_append (T : Topo) (p q : List Int) : costL T (p ++ q) = costL T p + costL T q := by
  induction p with
  | nil => simp [costL_nil]
  | cons a p ih => rw [List.cons_append, costL_cons, costL_cons, ih]; omega
inductive SP (T : Topo) (D : List Bool) (d : Nat) : Nat → List Int → Prop
  | nil : SP T D d d []
  | cons {n a m : Nat} {p : List Int} : Nearer T D n d a → headN T a = (m : Int) → SP T D d m p → SP T D d n ((a : Int) :: p)
/-- A path that may be used, to d. -/
inductive Ch (T : Topo) (D : List Bool) (d : Nat) : Nat → List Int → Prop
  | nil : Ch T D d d []
  | cons {n a m : Nat} {p : List Int} : a < 2 * T.links.length → tailN T a = (n : Int) → downN D a = false → headN T a = (m : Int) → (p = [] ∨ overN T m = false) → Ch T D d m p → Ch T D d n ((a : Int) :: p)
theorem nodup_le : ∀ (N : Nat) (l : List Nat), l.Nodup → (∀ x ∈ l, x < N) → l.length ≤ N
  | 0, l, _, h => by
    cases l with
    | nil => simp
    | cons a l => have := h a (by simp); omega
  | N + 1, l, hn, h => by
    have h1 := nodup_le N (l.erase N) (hn.erase N) (fun x hx => by
      have h2 := (List.Nodup.mem_erase_iff hn).1 hx
      have := h x h2.2
      have := h2.1
      omega)
    rw [List.length_erase] at h1
    split at h1 <;> omega
section
variable {T : Topo} {D : List Bool} {d : Nat}
theorem head_nat (hv : validB T = true) {a : Nat} (ha : a < 2 * T.links.length) : ∃ m : Nat, headN T a = (m : Int) ∧ (m : Int) < T.nodes := by
  obtain ⟨h0, h1⟩ := (sound_of hv).head a ha
  obtain ⟨m, hm⟩ := Int.eq_ofNat_of_zero_le h0
  exact ⟨m, hm, by rw [← hm]; exact h1⟩
theorem dN_self (hv : validB T = true) (hd : (d : Int) < T.nodes) : dN T D d d = 0 := dist_self hv hd
theorem dN_ge (hv : validB T = true) (hd : (d : Int) < T.nodes) {x : Nat} (hx : (x : Int) < T.nodes) : -1 ≤ dN T D d x ∧ dN T D d x ≤ 4194240 := by
  obtain ⟨h1, h2⟩ := distL_bound (D := D) hv (dir := false) hd
  exact h2 _ (getD_mem (by omega))
theorem Nearer.dN {n a m : Nat} (h : Nearer T D n d a) (hm : headN T a = (m : Int)) : 0 ≤ dN T D d m ∧ dN T D d n = dN T D d m + costN T a := by
  have h1 := h.reach
  have h2 := h.sum
  rw [hm, Int.toNat_natCast] at h1 h2
  exact ⟨h1, h2⟩
theorem Nearer.node (hv : validB T = true) {n a : Nat} (h : Nearer T D n d a) : (n : Int) < T.nodes := by rw [← h.tail]; exact ((sound_of hv).tail a h.arc).2
theorem SP.node (hv : validB T = true) (hd : (d : Int) < T.nodes) {n : Nat} {p : List Int} (h : SP T D d n p) : (n : Int) < T.nodes := by
  cases h with
  | nil => exact hd
  | cons h1 _ _ => exact h1.node hv
theorem SP.cost (hv : validB T = true) (hd : (d : Int) < T.nodes) {n : Nat} {p : List Int} (h : SP T D d n p) : dN T D d n = costL T p ∧ 0 ≤ dN T D d n := by
  induction h with
  | nil => rw [dN_self hv hd]; exact ⟨rfl, Int.le_refl _⟩
  | cons h1 hm _ ih =>
    obtain ⟨g1, g2⟩ := h1.dN hm
    have := (sound_of hv).cost _ h1.arc
    rw [costL_cons, Int.toNat_natCast]
    omega
theorem SP.self {p : List Int} (h : SP T D d d p) : p = [] := by
  cases h with
  | nil => rfl
  | cons h1 _ _ => exact absurd rfl h1.ne
theorem SP.len (hv : validB T = true) (hd : (d : Int) < T.nodes) {n : Nat} {p : List Int} (h : SP T D d n p) : (p.length : Int) ≤ dN T D d n := by
  induction h with
  | nil => rw [dN_self hv hd]; simp
  | cons h1 hm _ ih =>
    obtain ⟨g1, g2⟩ := h1.dN hm
    have := (sound_of hv).cost _ h1.arc
    simp only [List.length_cons]
    omega
theorem SP.ch {n : Nat} {p : List Int} (h : SP T D d n p) : Ch T D d n p := by
  induction h with
  | nil => exact .nil
  | @cons n a m p h1 hm hp ih =>
    refine .cons h1.arc h1.tail h1.up hm ?_ ih
    rcases h1.pass with hx | hx
    · have : m = d := by rw [hm] at hx; omega
      subst this
      exact .inl hp.self
    · rw [hm, Int.toNat_natCast] at hx; exact .inr hx
theorem dN_way (hv : validB T = true) (hd : (d : Int) < T.nodes) {n a m : Nat} (ha : a < 2 * T.links.length) (ht : tailN T a = (n : Int)) (hu : downN D a = false) (hm : headN T a = (m : Int)) (ho : m = d ∨ overN T m = false) (h0 : 0 ≤ dN T D d m) : 0 ≤ dN T D d n ∧ dN T D d n ≤ dN T D d m + costN T a := by
  have hS := sound_of hv
  have hI := distL_is hS D false hd
  have hmN : (m : Int) < T.nodes := by rw [← hm]; exact (hS.head a ha).2
  have hnN : (n : Int) < T.nodes := by rw [← ht]; exact (hS.tail a ha).2
  have e1 := dist_at (D := D) hv hd hnN
  have e2 := dist_at (D := D) hv hd hmN
  have := hI.closed a ha ⟨hu, by simp only [arcY, Bool.false_eq_true, if_false]; rw [hm, ← e2]; exact h0, by
    simp only [arcY, Bool.false_eq_true, if_false]; rw [hm]
    rcases ho with h | h
    · exact .inl (by rw [h])
    · exact .inr (by simpa using h)⟩
  simp only [arcX, arcY, Bool.false_eq_true, if_false] at this
  rw [hm, ht, ← e1, ← e2] at this
  exact this
theorem Ch.node (hv : validB T = true) (hd : (d : Int) < T.nodes) {n : Nat} {p : List Int} (h : Ch T D d n p) : (n : Int) < T.nodes := by
  cases h with
  | nil => exact hd
  | cons h1 ht _ _ _ _ => rw [← ht]; exact ((sound_of hv).tail _ h1).2
theorem Ch.to {n : Nat} {p : List Int} (h : Ch T D d n p) : p = [] → n = d := by
  cases h with
  | nil => intro _; rfl
  | cons => intro h; cases h
/-- No path is shorter than the distance. -/
theorem Ch.le (hv : validB T = true) (hd : (d : Int) < T.nodes) {n : Nat} {p : List Int} (h : Ch T D d n p) : 0 ≤ dN T D d n ∧ dN T D d n ≤ costL T p := by
  induction h with
  | nil => rw [dN_self hv hd]; exact ⟨Int.le_refl _, Int.le_refl _⟩
  | @cons n a m p ha ht hu hm ho hp ih =>
    have := dN_way hv hd ha ht hu hm (by rcases ho with h | h; exact .inl (hp.to h); exact .inr h) ih.1
    rw [costL_cons, Int.toNat_natCast]
    omega
/-- A path that is as short as the distance is a chain of next arcs. -/
theorem Ch.sp (hv : validB T = true) (hd : (d : Int) < T.nodes) {n : Nat} {p : List Int} (h : Ch T D d n p) (hc : dN T D d n = costL T p) : SP T D d n p := by
  induction h with
  | nil => exact .nil
  | @cons n a m p ha ht hu hm ho hp ih =>
    have ho' : m = d ∨ overN T m = false := by rcases ho with h | h; exact .inl (hp.to h); exact .inr h
    have h1 := hp.le hv hd
    have h2 := dN_way hv hd ha ht hu hm ho' h1.1
    rw [costL_cons, Int.toNat_natCast] at hc
    have h3 := (sound_of hv).cost a ha
    refine .cons ⟨ha, ht, hu, ?_, ?_, ?_, ?_⟩ hm (ih (by omega))
    · rintro rfl; rw [dN_self hv hd] at hc h2; omega
    · rw [hm, Int.toNat_natCast]; exact h1.1
    · rw [hm]; rcases ho' with h | h; exact .inl (by rw [h]); exact .inr (by simpa using h)
    · rw [hm, Int.toNat_natCast]; show dN T D d n = dN T D d m + costN T a; omega
/-- The first shortest path. -/
noncomputable def firstP (T : Topo) (D : List Bool) (d : Nat) : Nat → Nat → List Int
  | 0, _ => []
  | f + 1, n => match nextL T D n d with
    | [] => []
    | a :: _ => a :: firstP T D d f (headN T a.toNat).toNat
noncomputable def spathL (T : Topo) (D : List Bool) (n d : Nat) : List Int := firstP T D d (dN T D d n).toNat n
theorem next_unr {n : Nat} (h : dN T D d n < 0) : nextL T D n d = [] := by unfold nextL; rw [if_pos (.inr h)]
theorem first_sp (hv : validB T = true) (hd : (d : Int) < T.nodes) : ∀ (f n : Nat), (n : Int) < T.nodes → 0 ≤ dN T D d n → dN T D d n ≤ f → SP T D d n (firstP T D d f n)
  | f, n, hn, h0, hf => by
    by_cases hne : n = d
    · subst hne
      have : firstP T D n f n = [] := by cases f with | zero => rfl | succ f => simp only [firstP, next_self]
      rw [this]; exact .nil
    · obtain ⟨k, hk⟩ := next_ex (D := D) hv hn hd hne h0
      cases f with
      | zero =>
        obtain ⟨m, hm, _⟩ := head_nat hv hk.arc
        have := hk.dN hm
        have := (sound_of hv).cost k hk.arc
        omega
      | succ f =>
        simp only [firstP]
        have hmem := next_of hk ((sound_of hv).cost k hk.arc).1
        cases hx : nextL T D n d with
        | nil => rw [hx] at hmem; cases hmem
        | cons a l =>
          obtain ⟨b, hb, hbn⟩ := next_mem (T := T) (D := D) (n := n) (d := d) (a := a) (by rw [hx]; simp)
          subst hb
          obtain ⟨m, hm, hmN⟩ := head_nat hv hbn.arc
          have g := hbn.dN hm
          have := (sound_of hv).cost b hbn.arc
          simp only [Int.toNat_natCast, hm]
          exact .cons hbn hm (first_sp hv hd f m hmN g.1 (by omega))
theorem spath_sp (hv : validB T = true) (hd : (d : Int) < T.nodes) {n : Nat} (hn : (n : Int) < T.nodes) (h0 : 0 ≤ dN T D d n) : SP T D d n (spathL T D n d) := first_sp hv hd _ n hn h0 (by omega)
/-- How many shortest paths there are: 0, 1, or 2 for more. -/
noncomputable def cntF (T : Topo) (D : List Bool) (d : Nat) : Nat → Nat → Int
  | 0, m => if m = d then 1 else 0
  | f + 1, m => if m = d then 1 else (nextL T D m d).foldl (fun c a => min 2 (c + cntF T D d f (headN T a.toNat).toNat)) 0
noncomputable def cntS (T : Topo) (D : List Bool) (d m : Nat) : Int := cntF T D d (dN T D d m).toNat m
theorem foldl_congr {α β : Type} {f g : α → β → α} : ∀ {l : List β} {a : α}, (∀ a b, b ∈ l → f a b = g a b) → l.foldl f a = l.foldl g a
  | [], _, _ => rfl
  | b :: l, a, h => by simp only [List.foldl_cons, h a b (by simp)]; exact foldl_congr fun a c hc => h a c (by simp [hc])
theorem cntF_stab (hv : validB T = true) (hd : (d : Int) < T.nodes) : ∀ (K m f : Nat), (m : Int) < T.nodes → dN T D d m ≤ K → dN T D d m ≤ f → cntF T D d f m = cntS T D d m
  | K, m, f, hmN, hK, hf => by
    unfold cntS
    by_cases hmd : m = d
    · subst hmd
      cases f <;> cases (dN T D m m).toNat <;> simp [cntF]
    · by_cases h0 : dN T D d m < 0
      · have hx := next_unr h0
        rw [show (dN T D d m).toNat = 0 by omega]
        cases f <;> simp [cntF, hmd, hx]
      · obtain ⟨k, hk⟩ := next_ex (D := D) hv hmN hd hmd (by show 0 ≤ dN T D d m; omega)
        have hpos : 0 < dN T D d m := by
          obtain ⟨m', hm', _⟩ := head_nat hv hk.arc
          have := hk.dN hm'
          have := (sound_of hv).cost k hk.arc
          omega
        obtain ⟨g, hg⟩ : ∃ g, (dN T D d m).toNat = g + 1 := ⟨(dN T D d m).toNat - 1, by omega⟩
        cases f with
        | zero => omega
        | succ f =>
          cases K with
          | zero => omega
          | succ K =>
            rw [hg]
            simp only [cntF, if_neg hmd]
            refine foldl_congr fun c a ha => ?_
            obtain ⟨b, rfl, hbn⟩ := next_mem ha
            obtain ⟨m', hm', hmN'⟩ := head_nat hv hbn.arc
            have g1 := hbn.dN hm'
            have g2 := (sound_of hv).cost b hbn.arc
            rw [Int.toNat_natCast, hm', Int.toNat_natCast, cntF_stab hv hd K m' f hmN' (by omega) (by omega), cntF_stab hv hd K m' g hmN' (by omega) (by omega)]
theorem cnt_self (m : Nat) : cntS T D m m = 1 := by unfold cntS; cases (dN T D m m).toNat <;> simp [cntF]
theorem cnt_eq (hv : validB T = true) (hd : (d : Int) < T.nodes) {m : Nat} (hmN : (m : Int) < T.nodes) (hmd : m ≠ d) : cntS T D d m = (nextL T D m d).foldl (fun c a => min 2 (c + cntS T D d (headN T a.toNat).toNat)) 0 := by
  by_cases h0 : dN T D d m < 0
  · unfold cntS
    rw [next_unr h0, show (dN T D d m).toNat = 0 by omega]
    simp [cntF, hmd]
  · have h1 := cntF_stab (D := D) hv hd (dN T D d m).toNat m ((dN T D d m).toNat + 1) hmN (by omega) (by omega)
    rw [← h1]
    simp only [cntF, if_neg hmd]
    refine foldl_congr fun c a ha => ?_
    obtain ⟨b, rfl, hbn⟩ := next_mem ha
    obtain ⟨m', hm', hmN'⟩ := head_nat hv hbn.arc
    have g1 := hbn.dN hm'
    have g2 := (sound_of hv).cost b hbn.arc
    rw [Int.toNat_natCast, hm', Int.toNat_natCast, cntF_stab hv hd (dN T D d m).toNat m' _ hmN' (by omega) (by omega)]
theorem cnt_unr (hv : validB T = true) (hd : (d : Int) < T.nodes) {m : Nat} (hmN : (m : Int) < T.nodes) (h0 : dN T D d m < 0) : cntS T D d m = 0 := by
  have hmd : m ≠ d := by rintro rfl; rw [dN_self hv hd] at h0; omega
  rw [cnt_eq hv hd hmN hmd, next_unr h0]; rfl
/-- Sums that are cut at 2. -/
theorem fold2_le (g : Int → Int) (hg : ∀ a, 0 ≤ g a) : ∀ (l : List Int) (c : Int), 0 ≤ c → c ≤ 2 → 0 ≤ l.foldl (fun c a => min 2 (c + g a)) c ∧ l.foldl (fun c a => min 2 (c + g a)) c ≤ 2
  | [], c, h0, h2 => ⟨h0, h2⟩
  | a :: l, c, h0, h2 => by
    have := hg a
    exact fold2_le g hg l _ (show 0 ≤ min 2 (c + g a) by omega) (show min 2 (c + g a) ≤ 2 by omega)
theorem fold2_ge (g : Int → Int) (hg : ∀ a, 0 ≤ g a) : ∀ (l : List Int) (c : Int), c ≤ 2 → c ≤ l.foldl (fun c a => min 2 (c + g a)) c
  | [], c, _ => Int.le_refl _
  | a :: l, c, h2 => by
    have := hg a
    have := fold2_ge g hg l (min 2 (c + g a)) (by omega)
    simp only [List.foldl_cons]
    omega
theorem cnt_range (hv : validB T = true) (hd : (d : Int) < T.nodes) : ∀ (f m : Nat), 0 ≤ cntF T D d f m ∧ cntF T D d f m ≤ 2
  | 0, m => by simp only [cntF]; split <;> omega
  | f + 1, m => by
    simp only [cntF]
    split
    · omega
    · exact fold2_le (fun a => cntF T D d f (headN T a.toNat).toNat) (fun a => (cnt_range hv hd f _).1) _ 0 (by omega) (by omega)
theorem cnt_rangeS (hv : validB T = true) (hd : (d : Int) < T.nodes) (m : Nat) : 0 ≤ cntS T D d m ∧ cntS T D d m ≤ 2 := cnt_range hv hd _ m
theorem cnt_pos (hv : validB T = true) (hd : (d : Int) < T.nodes) : ∀ (K m : Nat), (m : Int) < T.nodes → 0 ≤ dN T D d m → dN T D d m ≤ K → 1 ≤ cntS T D d m
  | K, m, hmN, h0, hK => by
    by_cases hmd : m = d
    · subst hmd; rw [cnt_self]; omega
    · obtain ⟨k, hk⟩ := next_ex (D := D) hv hmN hd hmd h0
      have hmem := next_of hk ((sound_of hv).cost k hk.arc).1
      obtain ⟨m', hm', hmN'⟩ := head_nat hv hk.arc
      have g1 := hk.dN hm'
      have g2 := (sound_of hv).cost k hk.arc
      cases K with
      | zero => omega
      | succ K =>
        have hp := cnt_pos hv hd K m' hmN' g1.1 (by omega)
        rw [cnt_eq hv hd hmN hmd]
        obtain ⟨l1, l2, hl⟩ := List.append_of_mem hmem
        rw [hl, List.foldl_append, List.foldl_cons]
        have hg : ∀ a : Int, 0 ≤ cntS T D d (headN T a.toNat).toNat := fun a => (cnt_rangeS hv hd _).1
        have a1 := fold2_le (fun a => cntS T D d (headN T a.toNat).toNat) hg l1 0 (by omega) (by omega)
        have a2 := fold2_ge (fun a => cntS T D d (headN T a.toNat).toNat) hg l2 (min 2 (l1.foldl (fun c a => min 2 (c + cntS T D d (headN T a.toNat).toNat)) 0 + cntS T D d (headN T (k : Int).toNat).toNat)) (by omega)
        rw [Int.toNat_natCast, hm', Int.toNat_natCast] at a2
        rw [Int.toNat_natCast, hm', Int.toNat_natCast]
        omega
/-- Only one: each node has one next arc. -/
theorem cnt_one (hv : validB T = true) (hd : (d : Int) < T.nodes) {m : Nat} (hmN : (m : Int) < T.nodes) (hmd : m ≠ d) (h : cntS T D d m = 1) : ∃ a : Nat, nextL T D m d = [(a : Int)] ∧ Nearer T D m d a ∧ ∀ k : Nat, headN T a = (k : Int) → cntS T D d k = 1 := by
  rw [cnt_eq hv hd hmN hmd] at h
  have hg : ∀ a : Int, 0 ≤ cntS T D d (headN T a.toNat).toNat := fun a => (cnt_rangeS hv hd _).1
  have hone : ∀ a ∈ nextL T D m d, 1 ≤ cntS T D d (headN T a.toNat).toNat := fun a ha => by
    obtain ⟨b, rfl, hb⟩ := next_mem ha
    obtain ⟨m', hm', hmN'⟩ := head_nat hv hb.arc
    have g1 := hb.dN hm'
    rw [Int.toNat_natCast, hm', Int.toNat_natCast]
    exact cnt_pos hv hd (dN T D d m').toNat m' hmN' g1.1 (by omega)
  cases hx : nextL T D m d with
  | nil => rw [hx] at h; simp at h
  | cons a l =>
    obtain ⟨b, rfl, hb⟩ := next_mem (T := T) (D := D) (n := m) (d := d) (a := a) (by rw [hx]; simp)
    have h1 := hone b (by rw [hx]; simp)
    rw [hx, List.foldl_cons] at h
    cases l with
    | nil =>
      refine ⟨b, rfl, hb, fun k hk => ?_⟩
      simp only [List.foldl_nil, Int.toNat_natCast, hk] at h h1
      omega
    | cons a2 l =>
      have h2 := hone a2 (by rw [hx]; simp)
      rw [List.foldl_cons] at h
      have := fold2_ge (fun a => cntS T D d (headN T a.toNat).toNat) hg l (min 2 (min 2 (0 + cntS T D d (headN T (b : Int).toNat).toNat) + cntS T D d (headN T a2.toNat).toNat)) (by omega)
      omega
theorem cnt_of_one (hv : validB T = true) (hd : (d : Int) < T.nodes) {m a k : Nat} (hmN : (m : Int) < T.nodes) (hmd : m ≠ d) (hx : nextL T D m d = [(a : Int)]) (hk : headN T a = (k : Int)) (h : cntS T D d k = 1) : cntS T D d m = 1 := by
  rw [cnt_eq hv hd hmN hmd, hx]
  simp only [List.foldl_cons, List.foldl_nil, Int.toNat_natCast, hk, h]
  omega
theorem SP.unique (hv : validB T = true) (hd : (d : Int) < T.nodes) {n : Nat} {p q : List Int} (h : SP T D d n p) (hq : SP T D d n q) (hc : cntS T D d n = 1) : p = q := by
  induction h generalizing q with
  | nil => exact hq.self.symm
  | @cons n a m p h1 hm hp ih =>
    cases hq with
    | nil => exact absurd rfl h1.ne
    | @cons _ a' m' q h1' hm' hq =>
      obtain ⟨b, hb, _, hb2⟩ := cnt_one hv hd (h1.node hv) h1.ne hc
      have e1 := next_of h1 ((sound_of hv).cost a h1.arc).1
      have e2 := next_of h1' ((sound_of hv).cost a' h1'.arc).1
      rw [hb] at e1 e2
      simp only [List.mem_singleton] at e1 e2
      have ea : a = b := by omega
      have ea' : a' = b := by omega
      subst ea
      subst ea'
      have em : m = m' := by rw [hm] at hm'; omega
      subst em
      rw [ih hq (hb2 m hm)]
/-- Only one shortest path, with the checks of its arguments. -/
noncomputable def uniqB (T : Topo) (D : List Bool) (n d : Int) : Bool := decide (nodeE T D n d = 0) && decide (cntS T D d.toNat n.toNat = 1)
/-- The nodes of a shortest path are different. -/
theorem SP.len_lt (hv : validB T = true) (hd : (d : Int) < T.nodes) {n : Nat} {p : List Int} (h : SP T D d n p) : (p.length : Int) < T.nodes := by
  have key : ∃ l : List Nat, l.length = p.length + 1 ∧ l.Nodup ∧ (∀ x ∈ l, (x : Int) < T.nodes ∧ dN T D d x ≤ dN T D d n) := by
    induction h with
    | nil => exact ⟨[d], rfl, by simp, fun x hx => by simp at hx; subst hx; exact ⟨hd, Int.le_refl _⟩⟩
    | @cons n a m p h1 hm hp ih =>
      obtain ⟨l, e1, e2, e3⟩ := ih
      have g1 := h1.dN hm
      have g2 := (sound_of hv).cost a h1.arc
      refine ⟨n :: l, by simp [e1], List.nodup_cons.2 ⟨fun hn => by have := (e3 n hn).2; omega, e2⟩, fun x hx => ?_⟩
      cases hx with
      | head => exact ⟨h1.node hv, Int.le_refl _⟩
      | tail _ hx => have := e3 x hx; exact ⟨this.1, by omega⟩
  obtain ⟨l, e1, e2, e3⟩ := key
  have hN := (sound_of hv).nodes
  have := nodup_le T.nodes.toNat l e2 (fun x hx => by have := (e3 x hx).1; omega)
  omega
end
end PW
end Go.Proofs.YtbpgndbjbaoolaaGreat

/- Paths: package topology's Path, the reference's. -/
namespace Go.Proofs.YtbpgndbjbaoolaaGreat
set_option linter.unusedVariables false
set_option linter.unusedSimpArgs false
namespace PW
open Go.RowKit Reg Mem Net

/-- The error of a path from a node. -/
def walkE (T : Topo) : Bool → Int → List Int → Int
  | _, _, [] => 0
  | f, n, a :: l => if arcB T a = false then 2 else if tailN T a.toNat ≠ n ∨ (f = false ∧ overN T n.toNat = true) then 4 else walkE T false (headN T a.toNat) l
def pathX (T : Topo) (n : Int) (l : List Int) : Int := if validB T then (if nodeB T n then walkE T true n l else 2) else 1
def endL (T : Topo) : Int → List Int → Int
  | n, [] => n
  | _, a :: l => endL T (headN T a.toNat) l
def pathV (T : Topo) (n : Int) (l : List Int) : PV := .tuple [num (if pathX T n l = 0 then endL T n l else 0), num (if pathX T n l = 0 then costL T l else 0), num (pathX T n l)]
theorem endL_append (T : Topo) : ∀ (n : Int) (l m : List Int), endL T n (l ++ m) = endL T (endL T n l) m
  | _, [], _ => rfl
  | _, a :: l, m => endL_append T _ l m
theorem drop_cons (l : List Int) (k : Nat) (h : k < l.length) : l.drop k = l.getD k 0 :: l.drop (k + 1) := by
  rw [List.drop_eq_getElem_cons h, List.getD_eq_getElem?_getD, List.getElem?_eq_getElem h]; rfl
theorem endL_step (T : Topo) (n : Int) (l : List Int) (k : Nat) (h : k < l.length) : endL T n (l.take (k + 1)) = headN T (l.getD k 0).toNat := by
  rw [take_step l k 0 h, endL_append]; rfl
theorem costL_step (T : Topo) (l : List Int) (k : Nat) (h : k < l.length) : costL T (l.take (k + 1)) = costL T (l.take k) + costN T (l.getD k 0).toNat := by
  rw [take_step l k 0 h, costL_append]; simp [costL_cons, costL_nil]
theorem walk_step {T : Topo} {f : Bool} {n a : Int} {l : List Int} (h1 : arcB T a = true) (h2 : tailN T a.toNat = n) (h3 : f = true ∨ overN T n.toNat = false) : walkE T f n (a :: l) = walkE T false (headN T a.toNat) l := by
  simp only [walkE]
  rw [if_neg (by rw [h1]; simp), if_neg]
  rintro (h | ⟨h, h'⟩)
  · exact h h2
  · rcases h3 with h3 | h3
    · rw [h3] at h; cases h
    · rw [h3] at h'; cases h'
theorem walk_bad {T : Topo} {f : Bool} {n a : Int} {l : List Int} (h1 : arcB T a = true) (h2 : tailN T a.toNat ≠ n ∨ (f = false ∧ overN T n.toNat = true)) : walkE T f n (a :: l) = 4 := by
  simp only [walkE]
  rw [if_neg (by rw [h1]; simp), if_pos h2]
theorem headI_can (T : Topo) (hl : T.links.length ≤ 4611686018427387902) (a : Int) (h : arcB T a = true) : Can Tryz.prog 127 [topoV T, num a] (· = num (headN T a.toNat)) := by
  obtain ⟨h0, h1⟩ := arcB_iff.1 h
  obtain ⟨a, rfl⟩ := Int.eq_ofNat_of_zero_le h0
  exact head_can T a (by omega) hl
theorem costI_can (T : Topo) (a : Int) (h : arcB T a = true) : Can Tryz.prog 157 [topoV T, num a] (· = num (costN T a.toNat)) := by
  obtain ⟨h0, h1⟩ := arcB_iff.1 h
  obtain ⟨a, rfl⟩ := Int.eq_ofNat_of_zero_le h0
  exact cost_can T a (by omega)
theorem arc_facts {T : Topo} (hv : validB T = true) {a : Int} (h : arcB T a = true) : (1 ≤ costN T a.toNat ∧ costN T a.toNat ≤ 65535) ∧ ∃ m : Nat, headN T a.toNat = (m : Int) ∧ (m : Int) < T.nodes := by
  obtain ⟨h0, h1⟩ := arcB_iff.1 h
  have hl : a.toNat < 2 * T.links.length := by omega
  exact ⟨(sound_of hv).cost _ hl, head_nat hv hl⟩
theorem over_ln {T : Topo} (hv : validB T = true) {x : Nat} (hx : (x : Int) < T.nodes) : T.over.length = 0 ∨ x < T.over.length := by have := (valid_bd hv).2.2.2; omega
set_option maxRecDepth 10000 in
set_option maxHeartbeats 1000000 in
theorem path_can (T : Topo) (n : Int) (l : List Int) (hl : l.length ≤ 1000000) : Can Tryz.prog 147 [topoV T, num n, intsV l] (· = pathV T n l) := by
  refine can_of Tryz.func147 rfl Tryz.ntmps147 rfl ?_
  refine W_cs (.a 4 rfl <| .k [1, 2, 3, 7] rfl) ?_
  refine W_seq ?_
  refine W_cs (.a 1 rfl <| .c rfl (valid_can T) rfl <| .a 1 rfl <| .k [1, 2, 3, 7, 13] rfl) ?_
  refine W_cond rfl (fun hc => ?_) (fun hc => ?_)
  · have hv : validB T = false := by simpa using hc
    have hX : pathX T n l = 1 := by unfold pathX; rw [hv]; rfl
    unfold pathV
    rw [hX]
    refine W_cs (.a 3 rfl <| .k [6, 7, 8] rfl) ?_
    refine W_ret ?_
    exact ⟨_, _, ResL.of rfl, Pur.pure, rfl⟩
  · have hv : validB T = true := by simpa using hc
    have hll := links_le hv
    refine W_skip ?_
    refine W_seq ?_
    refine W_cs (.a 2 rfl <| .c rfl (node_can T n) rfl <| .a 1 rfl <| .k [1, 2, 3, 7, 17] rfl) ?_
    refine W_cond rfl (fun hc => ?_) (fun hc => ?_)
    · have hn : nodeB T n = false := by simpa using hc
      have hX : pathX T n l = 2 := by unfold pathX; rw [hv, hn]; rfl
      unfold pathV
      rw [hX]
      refine W_cs (.a 3 rfl <| .k [6, 7, 8] rfl) ?_
      refine W_ret ?_
      exact ⟨_, _, ResL.of rfl, Pur.pure, rfl⟩
    · have hn : nodeB T n = true := by simpa using hc
      have hX : pathX T n l = walkE T true n l := by unfold pathX; rw [hv, hn]; rfl
      obtain ⟨hn0, hn1⟩ := nodeB_iff.1 hn
      obtain ⟨n, rfl⟩ := Int.eq_ofNat_of_zero_le hn0
      refine W_skip ?_
      refine W_cs (.a 2 rfl <| .k [2, 3, 6, 7] rfl) ?_
      refine W_seq ?_
      refine W_cs (.a 3 rfl <| .k [3, 6, 7, 19, 20, 21] rfl) ?_
      refine W_block ?_
      refine W_k [3, 6, 7, 19, 20, 21] rfl ?_
      refine W_loop (fun r s => ∃ (k x : Nat), k ≤ l.length ∧ r = l.length - k ∧ endL T n (l.take k) = (x : Int) ∧ (x : Int) < T.nodes ∧ 0 ≤ costL T (l.take k) ∧ costL T (l.take k) ≤ 65535 * (k : Int) ∧ walkE T true n l = walkE T (decide (k = 0)) x (l.drop k) ∧ s = ⟨[(3, .pin (topoP T) 0), (6, num x), (7, num (costL T (l.take k))), (19, intsV l), (20, num l.length), (21, num k)], []⟩) l.length ⟨0, n, by omega, by omega, rfl, hn1, by simp [costL_nil], by simp [costL_nil], rfl, rfl⟩ ?_
      rintro r s ⟨k, x, hk, rfl, hx, hxN, hc0, hc1, hw, rfl⟩
      refine W_cs (.a 1 rfl <| .k [3, 6, 7, 19, 20, 21, 22] rfl) ?_
      refine W_seq ?_
      refine W_cond rfl (fun hy => ?_) (fun hy => ?_)
      · have hlt : k < l.length := by have := tt hy; omega
        rw [drop_cons l k hlt] at hw
        obtain ⟨p1, hp1⟩ : ∃ q, arcB T (l.getD k 0) = q := ⟨_, rfl⟩
        have ha := arc_can T (by omega) (l.getD k 0)
        rw [hp1] at ha
        refine W_skip ?_
        refine W_seq ?_
        refine W_block ?_
        refine W_cs (.a 1 rfl <| .v (y_ix (k) rfl) rfl <| .v (y_ld rfl (ints_get l k hlt)) rfl <| .a 2 rfl <| .k [3, 6, 7, 9, 10, 19, 20, 21] rfl) ?_
        refine W_seq ?_
        refine W_cs (.a 2 rfl <| .c rfl (ha) rfl <| .a 1 rfl <| .k [3, 6, 7, 9, 10, 19, 20, 21, 29] rfl) ?_
        refine W_cond rfl (fun hz => ?_) (fun hz => ?_)
        · have h1 : p1 = false := by simpa using hz
          subst h1
          have hw2 : walkE T true n l = 2 := by rw [hw]; simp only [walkE]; rw [if_pos hp1]
          unfold pathV
          rw [hX, hw2]
          refine W_cs (.a 3 rfl <| .k [6, 7, 8] rfl) ?_
          refine W_ret ?_
          exact ⟨_, _, ResL.of rfl, Pur.pure, rfl⟩
        · have h1 : p1 = true := by simpa using hz
          subst h1
          obtain ⟨⟨hco0, hco1⟩, y, hyh, hyN⟩ := arc_facts hv hp1
          have hsN := endL_step T n l k hlt
          have hsC := costL_step T l k hlt
          obtain ⟨p2, hp2⟩ : ∃ q, decide (tailN T (l.getD k 0).toNat ≠ (x : Int)) = q := ⟨_, rfl⟩
          obtain ⟨p3, hp3⟩ : ∃ q, decide (0 < (k : Int)) = q := ⟨_, rfl⟩
          obtain ⟨p4, hp4⟩ : ∃ q, overN T x = q := ⟨_, rfl⟩
          refine W_skip ?_
          refine W_seq ?_
          refine W_csK 43 (.raw (.bool (p2 || (p3 && p4)))) [3, 7, 10, 19, 20, 21] rfl ?_ ?_
          · refine .a 2 rfl <| .c rfl (tailI_can T _ hp1) rfl <| .a 1 rfl <| .v (y_q rfl (hp2)) rfl <| .a 1 rfl <| ?_
            cases p2
            · refine .a 1 rfl <| .v (y_q rfl (hp3)) rfl <| .a 1 rfl <| ?_
              cases p3
              · exact .a 5 rfl <| .k [43, 3, 7, 10, 19, 20, 21] rfl
              · exact .a 2 rfl <| .c rfl (hp4 ▸ over_can T x (over_ln hv hxN)) rfl <| .a 2 rfl <| .k [43, 3, 7, 10, 19, 20, 21] rfl
            · exact .a 8 rfl <| .k [43, 3, 7, 10, 19, 20, 21] rfl
          refine W_cond rfl (fun hb => ?_) (fun hb => ?_)
          · have hw4 : walkE T true n l = 4 := by
              rw [hw]
              refine walk_bad hp1 ?_
              rcases Bool.or_eq_true_iff.1 hb with h | h
              · rw [h] at hp2; exact .inl (tt hp2)
              · obtain ⟨h3, h4⟩ := Bool.and_eq_true_iff.1 h
                rw [h3] at hp3
                rw [h4] at hp4
                exact .inr ⟨decide_eq_false (by have := tt hp3; omega), by rw [Int.toNat_natCast]; exact hp4⟩
            unfold pathV
            rw [hX, hw4]
            refine W_cs (.a 3 rfl <| .k [6, 7, 8] rfl) ?_
            refine W_ret ?_
            exact ⟨_, _, ResL.of rfl, Pur.pure, rfl⟩
          · obtain ⟨b2, b3⟩ := Bool.or_eq_false_iff.1 hb
            rw [b2] at hp2
            have ht : tailN T (l.getD k 0).toNat = (x : Int) := Classical.byContradiction (ff hp2)
            have hws := walk_step (T := T) (f := decide (k = 0)) (n := (x : Int)) (l := l.drop (k + 1)) hp1 ht (by
              rcases Bool.and_eq_false_iff.1 b3 with h | h
              · rw [h] at hp3; exact .inl (decide_eq_true (by have := ff hp3; omega))
              · rw [h] at hp4; exact .inr (by rw [Int.toNat_natCast]; exact hp4))
            rw [hws, hyh] at hw
            have hh := headI_can T (by omega) _ hp1
            rw [hyh] at hh
            refine W_skip ?_
            refine W_cs (.a 2 rfl <| .c rfl (hh) rfl <| .a 1 rfl <| .k [3, 6, 7, 10, 19, 20, 21] rfl) ?_
            refine W_chain (.a 3 rfl <| .c rfl (costI_can T _ hp1) rfl <| .v (y_ar rfl (hc := hsC.symm) (hn := by unfold In64; omega)) rfl <| .a 1 rfl <| .k [3, 6, 7, 19, 20, 21] rfl) ?_
            refine W_chain (.v (y_ar rfl) rfl <| .a 1 rfl <| .k [3, 6, 7, 19, 20, 21] rfl) ?_
            exact ⟨l.length - (k + 1), by omega, k + 1, y, by omega, rfl, by rw [hsN, hyh], hyN, by omega, by omega, by rw [hw]; rfl, rfl⟩
      · have hke : k = l.length := by have := ff hy; omega
        subst hke
        rw [List.drop_length] at hw
        rw [List.take_length] at hx ⊢
        unfold pathV
        rw [hX, hw]
        simp only [walkE, if_true]
        rw [hx]
        refine W_exit ?_
        refine W_cs (.a 5 rfl <| .k [6, 7, 8] rfl) ?_
        refine W_ret ?_
        exact ⟨_, _, ResL.of rfl, Pur.pure, rfl⟩
end PW
end Go.Proofs.YtbpgndbjbaoolaaGreat

/- graph.Leaving: for each node its arcs. -/
namespace Go.Proofs.YtbpgndbjbaoolaaGreat
set_option linter.unusedVariables false
set_option linter.unusedSimpArgs false
namespace PW
open Go.RowKit Reg Mem Net

set_option maxRecDepth 10000 in
set_option maxHeartbeats 1000000 in
theorem leaving_can (T : Topo) (hv : validB T = true) : Can Tryz.prog 124 [topoV T] (· = rowsV (rowsL (tailN T) T.nodes.toNat (2 * T.links.length))) := by
  have hbd := valid_bd hv
  have hS := sound_of hv
  obtain ⟨n, hn⟩ : ∃ n : Nat, T.nodes = (n : Int) := ⟨T.nodes.toNat, by omega⟩
  rw [show T.nodes.toNat = n by omega]
  refine can_of Tryz.func124 rfl Tryz.ntmps124 rfl ?_
  refine W_cs (.a 2 rfl <| .k [1] rfl) ?_
  refine W_rs ?_
  refine WR_a 2 rfl <| WR_l (l_make rfl (fok.rk.get rfl) rfl rfl hn hn ⟨by unfold maxLen; omega, by omega⟩) rfl <| WR_a 1 rfl <| WR_k [1, 3] rfl ?_
  refine W_adoptRows 33 3 n ?_
  refine W_seq ?_
  refine W_cs (.a 1 rfl <| .c rfl (arcs_can T (by omega)) rfl <| .a 1 rfl <| .k [1, 3, 10, 11] rfl) ?_
  refine W_block ?_
  refine W_k [1, 3, 10, 11] rfl ?_
  refine W_loop (fun r s => ∃ k, k ≤ 2 * T.links.length ∧ r = 2 * T.links.length - k ∧ s = ⟨[(1, .pin (topoP T) 0), (3, .own 0), (10, num (2 * (T.links.length : Int))), (11, num k)], rsto 33 3 (rowsL (tailN T) n k)⟩) (2 * T.links.length) ⟨0, by omega, by omega, by rw [rowsL_zero]; rfl⟩ ?_
  rintro r s ⟨k, hk, rfl, rfl⟩
  refine W_cs (.a 1 rfl <| .k [1, 3, 10, 11, 12] rfl) ?_
  refine W_seq ?_
  refine W_cond rfl (fun hc => ?_) (fun hc => ?_)
  · have hlt : k < 2 * T.links.length := by have := of_decide_eq_true hc; omega
    obtain ⟨hd0, hhN⟩ := hS.tail k hlt
    obtain ⟨m, hm⟩ := Int.eq_ofNat_of_zero_le hd0
    have hmn : m < n := by omega
    have hrl := rowsL_len (tailN T) n k
    have hgl : ((rowsL (tailN T) n k).getD m []).length ≤ k := by
      rw [rowsL_get _ _ _ _ hmn]
      simp only [List.length_map]
      exact Nat.le_trans (List.length_filter_le _ _) (by simp)
    refine W_skip ?_
    refine W_seq ?_
    refine W_block ?_
    refine W_cs (.a 2 rfl <| .k [1, 3, 4, 10, 11] rfl) ?_
    refine W_cs (.a 2 rfl <| .c rfl (hm ▸ tail_can T k hlt) rfl <| .a 1 rfl <| .k [1, 3, 4, 5, 10, 11] rfl) ?_
    refine W_region ?_
    refine WR_a 4 rfl <| WR_v (y_ix (m) rfl) rfl <| WR_v (y_ld rfl (owns_get _ m (by omega))) rfl <| WR_a 2 rfl <| WR_l (l_append rfl (fok.rk.get rfl) rfl (rsto_get _ _ _ m (by omega)) rfl rfl ⟨by unfold maxLen; omega, by omega⟩) rfl <| WR_v (y_ix (m) rfl) rfl <| WR_loud0 (l_store1 rfl (fok.tk.get rfl) rfl rfl rfl (by show m < (ownsP _).length; simp [ownsP]; omega)) rfl rfl <| WR_k [1, 3, 10, 11] rfl ?_
    refine W_ren (rfs (rowsL (tailN T) n k).length m) (.cons 1 rfl Ren.pure <| .cons 3 rfl (Ren.own (i := 0) rfl) <| .cons 10 rfl Ren.pure <| .cons 11 rfl Ren.pure <| .nil) (rsto_ren 33 3 (rowsL (tailN T) n k) m (by omega) (k : Int)) (rfs_nodup _ _) rfl ?_
    rw [← rowsL_step (tailN T) n k m hm hmn]
    refine W_chain (.v (y_ar rfl) rfl <| .a 1 rfl <| .k [1, 3, 10, 11] rfl) ?_
    exact ⟨2 * T.links.length - (k + 1), by omega, k + 1, by omega, rfl, rfl⟩
  · have hke : k = 2 * T.links.length := by have := of_decide_eq_false hc; omega
    subst hke
    refine W_exit ?_
    refine W_cs (.a 2 rfl <| .k [2] rfl) ?_
    refine W_ret ?_
    exact ⟨_, _, ResL.of rfl, rsto_pur _ _ _, rfl⟩
end PW
end Go.Proofs.YtbpgndbjbaoolaaGreat
