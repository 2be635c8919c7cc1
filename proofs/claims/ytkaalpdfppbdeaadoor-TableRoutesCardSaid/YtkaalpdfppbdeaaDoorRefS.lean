/- The reference of the layers 9, 11 and 12, in plain form: scalars, search, Dist. -/
import Derived.Test.YtkaalpdfppbdeaaDoorTabD
namespace Go.Proofs.YtkaalpdfppbdeaaDoor
namespace PW
open Go.RowKit Reg Mem Net

theorem rvalid_can (T : Topo) : Can Tryd.prog 51 [topoV T] (· = flag (validB T)) := fun F w vs _ hR => by
  obtain ⟨v, rfl, h1⟩ := args1 hR
  exact can_ret (rvalid_any (rep_topo h1))
theorem rarcs_can (T : Topo) (hv : validB T = true) : Can Tryd.prog 55 [topoV T] (· = num (2 * (T.links.length : Int))) := fun F w vs _ hR => by
  obtain ⟨v, rfl, h1⟩ := args1 hR
  exact can_ret (rarcs_any (rep_topo h1) hv)
theorem rtail_can (T : Topo) (hv : validB T = true) (a : Int) : Can Tryd.prog 56 [topoV T, num a] (· = num (rtail T a)) := fun F w vs _ hR => by
  obtain ⟨v, u, rfl, h1, h2⟩ := args2 hR
  cases rep_raw h2
  exact can_ret (rtail_any (rep_topo h1) hv a)
theorem rhead_can (T : Topo) (hv : validB T = true) (a : Int) : Can Tryd.prog 22 [topoV T, num a] (· = num (rhead T a)) := fun F w vs _ hR => by
  obtain ⟨v, u, rfl, h1, h2⟩ := args2 hR
  cases rep_raw h2
  exact can_ret (rhead_any (rep_topo h1) hv a)
theorem rcost_can (T : Topo) (hv : validB T = true) (a : Int) : Can Tryd.prog 24 [topoV T, num a] (· = num (rcost T a)) := fun F w vs _ hR => by
  obtain ⟨v, u, rfl, h1, h2⟩ := args2 hR
  cases rep_raw h2
  exact can_ret (rcost_any (rep_topo h1) hv a)
theorem rtailN_can (T : Topo) (hv : validB T = true) (a : Nat) (ha : a < 2 * T.links.length) : Can Tryd.prog 56 [topoV T, num a] (· = num (tailN T a)) := by rw [← rtail_nat T a ha]; exact rtail_can T hv a
theorem rheadN_can (T : Topo) (hv : validB T = true) (a : Nat) (ha : a < 2 * T.links.length) : Can Tryd.prog 22 [topoV T, num a] (· = num (headN T a)) := by rw [← rhead_nat T a ha]; exact rhead_can T hv a
theorem rcostN_can (T : Topo) (hv : validB T = true) (a : Nat) (ha : a < 2 * T.links.length) : Can Tryd.prog 24 [topoV T, num a] (· = num (costN T a)) := by rw [← rcost_nat T a ha]; exact rcost_can T hv a
theorem rfits_can (T : Topo) (D : List Bool) : Can Tryd.prog 33 [topoV T, boolsV D] (· = flag (validB T && fitsB T D)) := fun F w vs _ hR => by
  obtain ⟨v, u, rfl, h1, h2⟩ := args2 hR
  exact can_ret (rfits_any (rep_topo h1) (rep_bools h2))
theorem rup_can (D : List Bool) (a : Nat) (ha : D.length = 0 ∨ a < D.length) : Can Tryd.prog 23 [boolsV D, num a] (· = flag (!downN D a)) := fun F w vs _ hR => by
  obtain ⟨v, u, rfl, h1, h2⟩ := args2 hR
  cases rep_raw h2
  exact can_ret (rup_any (rep_bools h1) a ha)
theorem args3 {E : Env} {w : World} {vs : Array Value} {p q s : PV} (h : RepL E w vs.toList [p, q, s]) : ∃ v u x, vs = #[v, u, x] ∧ Rep E w v p ∧ Rep E w u q ∧ Rep E w x s := by
  obtain ⟨l⟩ := vs
  match l, h with
  | [v, u, x], h => exact ⟨v, u, x, rfl, h.uncons.1, h.uncons.2.uncons.1, h.uncons.2.uncons.2.uncons.1⟩
  | [], h => simp [RepL] at h
  | [_], h => simp [RepL] at h
  | [_, _], h => simp [RepL] at h
  | _ :: _ :: _ :: _ :: _, h => simp [RepL] at h
theorem rtransit_can (T : Topo) (hv : validB T = true) (n d : Nat) : Can Tryd.prog 73 [topoV T, num n, num d] (· = flag (decide (n = d) || !overN T n)) := fun F w vs _ hR => by
  obtain ⟨v, u, x, rfl, h1, h2, h3⟩ := args3 hR
  cases rep_raw h2
  cases rep_raw h3
  exact can_ret (rtransit_any (rep_topo h1) hv n d)
theorem rsame_can (L M : List Int) : Can Tryd.prog 36 [intsV L, intsV M] (· = flag (sameB L M)) := fun F w vs _ hR => by
  obtain ⟨v, u, rfl, h1, h2⟩ := args2 hR
  exact can_ret (sameInts_any (rep_ints h1) (rep_ints h2))

set_option maxRecDepth 10000 in
set_option maxHeartbeats 4000000 in
theorem rsearch_can (T : Topo) (D : List Bool) (n : Int) (dir : Bool) : Can Tryd.prog 54 [topoV T, boolsV D, num n, flag dir] (· = intsE (chkE T D [n]) (distL T D n.toNat dir)) := by
  refine can_of Tryd.func54 rfl Tryd.ntmps54 rfl ?_
  refine W_cs (
    .val (y_boxPin rfl rfl rfl) rfl rfl rfl <|
    .val (y_assign rfl rfl) rfl rfl rfl <|
    .val (y_assign rfl rfl) rfl rfl rfl <|
    .nil (.cons (k := 1) rfl <| .cons (k := 2) rfl <| .cons (k := 3) rfl <| .cons (k := 4) rfl <| Sub.nil _)) ?_
  refine W_seq ?_
  refine W_cs (
    .val ((by first | exact y_loadPinAll rfl tk_25 rfl rfl | exact y_loadPtrAll rfl tk_25 rfl rfl rfl | exact y_loadPinAgg rfl tk_25 rfl rfl rfl | exact y_loadPtrAgg rfl tk_25 rfl rfl rfl rfl)) rfl rfl rfl <|
    .val (y_move rfl rfl) rfl rfl rfl <|
    .val (y_call rfl en_33 rfl rfl (rfits_can T D)) rfl rfl rfl <|
    .val (y_not rfl rfl) rfl rfl rfl <|
    .nil (.cons (k := 1) rfl <| .cons (k := 2) rfl <| .cons (k := 3) rfl <| .cons (k := 4) rfl <| .cons (k := 20) rfl <| Sub.nil _)) ?_
  refine W_cond rfl (fun hc => ?_) (fun hc => ?_)
  · have hch : chkE T D [n] = 1 := by
      unfold chkE
      rw [if_neg]
      revert hc
      cases (validB T && fitsB T D) <;> simp
    refine W_cs (
      .val (y_assign rfl rfl) rfl rfl rfl <|
      .val (y_assign rfl rfl) rfl rfl rfl <|
      .nil (.cons (k := 8) rfl <| .cons (k := 9) rfl <| Sub.nil _)) ?_
    refine W_ret ?_
    exact ⟨_, _, .cons (.tmp rfl) <| .cons (.tmp rfl) <| .nil, Pur.tupleL (PurL.cons Pur.nils (PurL.cons Pur.pure PurL.nil)), by unfold intsE; rw [hch]; rfl⟩
  · have hok : (validB T && fitsB T D) = true := by revert hc; cases (validB T && fitsB T D) <;> simp
    refine W_skip ?_
    refine W_seq ?_
    obtain ⟨q1, hq1⟩ : ∃ q, decide (n < 0) = q := ⟨_, rfl⟩
    obtain ⟨q2, hq2⟩ : ∃ q, decide (T.nodes ≤ n) = q := ⟨_, rfl⟩
    have hnb : nodeB T n = !(q1 || q2) := by rw [← hq1, ← hq2]; unfold nodeB; by_cases h1 : n < 0 <;> by_cases h2 : T.nodes ≤ n <;> simp [h1, h2] <;> omega
    refine W_csB 28 (.raw (.bool (q1 || q2))) ?_ ?_
    · refine .val (y_move rfl rfl) rfl rfl rfl <| .val (y_lss rfl rfl rfl (hq1)) rfl rfl rfl <| .val (y_move rfl rfl) rfl rfl rfl <| ?_
      cases q1
      · exact .val (y_move rfl rfl) rfl rfl rfl <| .val ((by first | exact y_fieldPin rfl fo_25_0 rfl | exact y_fieldPtr rfl fo_25_0 rfl)) rfl rfl rfl <| .val ((by first | exact y_loadPin rfl tk_3 rfl rfl | exact y_loadPtr rfl tk_3 rfl rfl rfl)) rfl rfl rfl <| .val (y_geq rfl rfl rfl (hq2)) rfl rfl rfl <| .val (y_pickF rfl rfl rfl) rfl rfl rfl <| .nil (.cons (k := 28) rfl (.skip rfl <| .skip rfl <| .skip rfl <| .skip rfl <| .skip rfl <| .skip rfl <| .skip rfl <| .skip rfl <| Sub.refl _))
      · exact .skip rfl rfl rfl <| .skip rfl rfl rfl <| .skip rfl rfl rfl <| .skip rfl rfl rfl <| .val (y_pickT rfl rfl rfl) rfl rfl rfl <| .nil (.cons (k := 28) rfl (.skip rfl <| .skip rfl <| .skip rfl <| .skip rfl <| .skip rfl <| .skip rfl <| .skip rfl <| .skip rfl <| Sub.refl _))
    refine W_cond rfl (fun hc => ?_) (fun hc => ?_)
    · have hch : chkE T D [n] = 2 := by
        unfold chkE
        rw [if_pos hok, if_neg]
        simp [hnb, hc]
      refine W_cs (
        .val (y_assign rfl rfl) rfl rfl rfl <|
        .val (y_assign rfl rfl) rfl rfl rfl <|
        .nil (.cons (k := 8) rfl <| .cons (k := 9) rfl <| Sub.nil _)) ?_
      refine W_ret ?_
      exact ⟨_, _, .cons (.tmp rfl) <| .cons (.tmp rfl) <| .nil, Pur.tupleL (PurL.cons Pur.nils (PurL.cons Pur.pure PurL.nil)), by unfold intsE; rw [hch]; rfl⟩
    · have hnb' : nodeB T n = true := by rw [hnb, hc]; rfl
      have hch : chkE T D [n] = 0 := by
        unfold chkE
        rw [if_pos hok, if_pos]
        simp [hnb']
      obtain ⟨hv, hf⟩ := Bool.and_eq_true_iff.1 hok
      have hn := nodeB_iff.1 hnb'
      obtain ⟨n, rfl⟩ := Int.eq_ofNat_of_zero_le hn.1
      have hS := sound_of hv
      have hbd := valid_bd hv
      obtain ⟨N, hN⟩ : ∃ N : Nat, T.nodes = (N : Int) := ⟨T.nodes.toNat, by omega⟩
      have hN64 : N ≤ 64 := by have := hS.nodes; omega
      have hnN : n < N := by omega
      clear hc hq1 hq2 hnb
      refine W_skip ?_
      refine W_rs ?_
      refine WR_val ((by first | exact y_fieldPin rfl fo_25_0 rfl | exact y_fieldPtr rfl fo_25_0 rfl)) rfl rfl rfl ?_
      refine WR_val ((by first | exact y_loadPin rfl tk_3 rfl rfl | exact y_loadPtr rfl tk_3 rfl rfl rfl)) rfl rfl rfl ?_
      refine WR_loud (l_make rfl rk_29 rfl rfl hN hN ⟨by unfold maxLen; omega, by omega⟩) rfl rfl rfl ?_
      refine WR_val (y_assign rfl rfl) rfl rfl rfl ?_
      refine WR_sub (.cons (k := 1) rfl <| .cons (k := 2) rfl <| .cons (k := 3) rfl <| .cons (k := 4) rfl <| .cons (k := 10) rfl <| Sub.nil _) (WR_nil ?_)
      refine W_seq ?_
      refine W_cs (
        .val (y_assign rfl rfl) rfl rfl rfl <|
        .nil (.cons (k := 1) rfl <| .cons (k := 2) rfl <| .cons (k := 3) rfl <| .cons (k := 4) rfl <| .cons (k := 10) rfl <| .cons (k := 11) rfl <| Sub.nil _)) ?_
      refine W_block ?_
      refine W_sub (.cons (k := 1) rfl <| .cons (k := 2) rfl <| .cons (k := 3) rfl <| .cons (k := 4) rfl <| .cons (k := 10) rfl <| .cons (k := 11) rfl <| Sub.nil _) ?_
      refine W_loop (fun r s => ∃ k, k ≤ N ∧ r = N - k ∧ s = ⟨[(1, boolsV D), (2, num n), (3, flag dir), (4, .pin (topoP T) 0), (10, .own 0), (11, num k)], [some (.row 3 1 N (intsP (initTo N k)))]⟩) N ⟨0, by omega, by omega, by have := zeros_ints N; unfold initTo; simp only [List.replicate_zero, List.nil_append, Nat.sub_zero]; rw [← this]; rfl⟩ ?_
      rintro r s ⟨k, hk, rfl, rfl⟩
      refine W_seq ?_
      refine W_cs (
        .val (y_move rfl rfl) rfl rfl rfl <|
        .val (y_move rfl rfl) rfl rfl rfl <|
        .val ((by first | exact y_lenSlice rfl el_29 rfl | exact y_lenOwn rfl el_29 rfl rfl | exact y_lenNil rfl el_29 rfl)) rfl rfl rfl <|
        .val (y_lss rfl rfl rfl rfl) rfl rfl rfl <|
        .nil (.cons (k := 1) rfl <| .cons (k := 2) rfl <| .cons (k := 3) rfl <| .cons (k := 4) rfl <| .cons (k := 10) rfl <| .cons (k := 11) rfl <| .cons (k := 35) rfl <| Sub.nil _)) ?_
      refine W_cond rfl (fun hc => ?_) (fun hc => ?_)
      · have hlt : k < N := by have := of_decide_eq_true hc; omega
        have hil : (initTo N k).length = N := by simp [initTo]; omega
        refine W_skip ?_
        refine W_seq ?_
        refine W_block ?_
        refine W_region ?_
        refine WR_val (y_move rfl rfl) rfl rfl rfl ?_
        refine WR_val (y_move rfl rfl) rfl rfl rfl ?_
        refine WR_val ((by first | exact y_indexSlice (j := k) rfl el_29 rfl rfl (by omega) (by omega) (by omega) | exact y_indexOwn (j := k) rfl el_29 rfl rfl rfl (by omega) (by omega) (by omega))) rfl rfl rfl ?_
        refine WR_loud0 ((by first | exact l_store1 rfl tk_3 rfl rfl rfl (Nat.le_of_ble_eq_true rfl) | exact l_storeInts rfl tk_3 rfl rfl rfl (by first | omega | (simp; omega)) | exact l_storeBools rfl tk_3 rfl rfl rfl (by first | omega | (simp; omega)))) rfl rfl ?_
        refine WR_sub (.cons (k := 1) rfl <| .cons (k := 2) rfl <| .cons (k := 3) rfl <| .cons (k := 4) rfl <| .cons (k := 10) rfl <| .cons (k := 11) rfl <| Sub.nil _) (WR_nil ?_)
        refine W_sto (σ' := [some (.row 3 1 N (intsP (initTo N (k + 1))))]) (by rw [← initTo_succ N k hlt]; rfl) ?_
        refine W_chain (
          .val (y_move rfl rfl) rfl rfl rfl <|
          .val (y_add rfl rfl rfl rfl (by unfold In64; omega)) rfl rfl rfl <|
          .val (y_assign rfl rfl) rfl rfl rfl <|
          .nil (.cons (k := 1) rfl <| .cons (k := 2) rfl <| .cons (k := 3) rfl <| .cons (k := 4) rfl <| .cons (k := 10) rfl <| .cons (k := 11) rfl <| Sub.nil _)) ?_
        exact ⟨N - (k + 1), by omega, k + 1, by omega, rfl, rfl⟩
      · have hke : k = N := by have := of_decide_eq_false hc; omega
        subst hke
        have hil : (initTo k k).length = k := by simp [initTo]
        refine W_exit ?_
        refine W_rs ?_
        refine WR_val (y_move rfl rfl) rfl rfl rfl ?_
        refine WR_val (y_move rfl rfl) rfl rfl rfl ?_
        refine WR_val ((by first | exact y_indexSlice (j := n) rfl el_29 rfl rfl (by omega) (by omega) (by omega) | exact y_indexOwn (j := n) rfl el_29 rfl rfl rfl (by omega) (by omega) (by omega))) rfl rfl rfl ?_
        refine WR_loud0 ((by first | exact l_store1 rfl tk_3 rfl rfl rfl (Nat.le_of_ble_eq_true rfl) | exact l_storeInts rfl tk_3 rfl rfl rfl (by first | omega | (simp; omega)) | exact l_storeBools rfl tk_3 rfl rfl rfl (by first | omega | (simp; omega)))) rfl rfl ?_
        refine WR_sub (.cons (k := 1) rfl <| .cons (k := 2) rfl <| .cons (k := 3) rfl <| .cons (k := 4) rfl <| .cons (k := 10) rfl <| Sub.nil _) (WR_nil ?_)
        refine W_sto (σ' := [some (.row 3 1 k (intsP (Net.start k n)))]) (by rw [← initTo_all k n]; rfl) ?_
        have hI0 := start_inv (T := T) (D := D) (N := k) (n := n) (dir := dir) hN.symm hnN
        generalize Net.start k n = out0 at hI0
        refine W_seq ?_
        refine W_cs (
          .val (y_assign rfl rfl) rfl rfl rfl <|
          .nil (.cons (k := 1) rfl <| .cons (k := 2) rfl <| .cons (k := 3) rfl <| .cons (k := 4) rfl <| .cons (k := 10) rfl <| .cons (k := 12) rfl <| Sub.nil _)) ?_
        refine W_block ?_
        refine W_sub (.cons (k := 1) rfl <| .cons (k := 2) rfl <| .cons (k := 3) rfl <| .cons (k := 4) rfl <| .cons (k := 10) rfl <| .cons (k := 12) rfl <| Sub.nil _) ?_
        refine W_loop (fun r s => ∃ (out : List Int) (b : Bool), Inv T D n dir out ∧ (b = false → ∀ a, a < 2 * T.links.length → ¬ Gains T D n dir out a) ∧ r = 2 * mu out + b.toNat ∧ s = ⟨[(1, boolsV D), (2, num n), (3, flag dir), (4, .pin (topoP T) 0), (10, .own 0), (12, flag b)], [some (.row 3 1 k (intsP out))]⟩) (2 * mu out0 + 1) ⟨out0, true, hI0, (fun h => by cases h), rfl, rfl⟩ ?_
        clear hI0 out0
        rintro r s ⟨out, b, hI, hb, rfl, rfl⟩
        refine W_seq ?_
        refine W_cs (
          .val (y_move rfl rfl) rfl rfl rfl <|
          .nil (.cons (k := 1) rfl <| .cons (k := 2) rfl <| .cons (k := 3) rfl <| .cons (k := 4) rfl <| .cons (k := 10) rfl <| .cons (k := 44) rfl <| Sub.nil _)) ?_
        refine W_cond rfl (fun hc => ?_) (fun hc => ?_)
        · subst hc
          refine W_skip ?_
          refine W_block ?_
          refine W_cs (
            .val (y_assign rfl rfl) rfl rfl rfl <|
            .nil (.cons (k := 1) rfl <| .cons (k := 2) rfl <| .cons (k := 3) rfl <| .cons (k := 4) rfl <| .cons (k := 10) rfl <| .cons (k := 12) rfl <| Sub.nil _)) ?_
          refine W_cs (
            .val (y_assign rfl rfl) rfl rfl rfl <|
            .nil (.cons (k := 1) rfl <| .cons (k := 2) rfl <| .cons (k := 3) rfl <| .cons (k := 4) rfl <| .cons (k := 10) rfl <| .cons (k := 12) rfl <| .cons (k := 13) rfl <| Sub.nil _)) ?_
          refine W_block ?_
          refine W_sub (.cons (k := 1) rfl <| .cons (k := 2) rfl <| .cons (k := 3) rfl <| .cons (k := 4) rfl <| .cons (k := 10) rfl <| .cons (k := 12) rfl <| .cons (k := 13) rfl <| Sub.nil _) ?_
          refine W_loop (fun r s => ∃ (k' : Nat) (out' : List Int) (b' : Bool), k' ≤ 2 * T.links.length ∧ Inv T D n dir out' ∧ (b' = false → out' = out ∧ ∀ a, a < k' → ¬ Gains T D n dir out a) ∧ (b' = true → mu out' < mu out) ∧ r = 2 * T.links.length - k' ∧ s = ⟨[(1, boolsV D), (2, num n), (3, flag dir), (4, .pin (topoP T) 0), (10, .own 0), (12, flag b'), (13, num k')], [some (.row 3 1 k (intsP out'))]⟩) (2 * T.links.length) ⟨0, out, false, by omega, hI, (fun _ => ⟨rfl, fun a ha => by omega⟩), (fun h => by cases h), by omega, rfl⟩ ?_
          rintro r s ⟨a, out', b', ha, hI', hb', ht', rfl, rfl⟩
          refine W_seq ?_
          refine W_cs (
            .val (y_move rfl rfl) rfl rfl rfl <|
            .val ((by first | exact y_fieldPin rfl fo_25_2 rfl | exact y_fieldPtr rfl fo_25_2 rfl)) rfl rfl rfl <|
            .val ((by first | exact y_loadPin rfl tk_23 rfl rfl | exact y_loadPtr rfl tk_23 rfl rfl rfl)) rfl rfl rfl <|
            .val ((by first | exact y_lenSlice rfl el_23 rfl | exact y_lenOwn rfl el_23 rfl rfl | exact y_lenNil rfl el_23 rfl)) rfl rfl rfl <|
            .val (y_mul rfl rfl rfl (rfl) (by unfold In64; omega)) rfl rfl rfl <|
            .val (y_lss rfl rfl rfl rfl) rfl rfl rfl <|
            .nil (.cons (k := 1) rfl <| .cons (k := 2) rfl <| .cons (k := 3) rfl <| .cons (k := 4) rfl <| .cons (k := 10) rfl <| .cons (k := 12) rfl <| .cons (k := 13) rfl <| .cons (k := 50) rfl <| Sub.nil _)) ?_
          refine W_cond rfl (fun hc => ?_) (fun hc => ?_)
          · have ham : a < 2 * T.links.length := by have := of_decide_eq_true hc; omega
            obtain ⟨p, hp⟩ := Int.eq_ofNat_of_zero_le (hS.tail a ham).1
            obtain ⟨q, hq⟩ := Int.eq_ofNat_of_zero_le (hS.head a ham).1
            have hpN : p < k := by have := (hS.tail a ham).2; omega
            have hqN : q < k := by have := (hS.head a ham).2; omega
            have hcb := hS.cost a ham
            have hDl : D.length = 0 ∨ a < D.length := by simp only [fitsB, decide_eq_true_eq] at hf; omega
            have hol : out'.length = k := by have := hI'.len; omega
            refine W_skip ?_
            refine W_seq ?_
            refine W_block ?_
            refine W_ds [53, 54, 55, 56, 57, 58, 14, 15] mixed (by kernel_rfl) (by kernel_rfl) (by kernel_rfl) (
              .val [4] rfl ((by first | exact y_loadPinAll rfl tk_25 rfl rfl | exact y_loadPtrAll rfl tk_25 rfl rfl rfl | exact y_loadPinAgg rfl tk_25 rfl rfl rfl | exact y_loadPtrAgg rfl tk_25 rfl rfl rfl rfl)) rfl rfl rfl <|
              .val [13] rfl (y_move rfl rfl) rfl rfl rfl <|
              .val [53, 54] rfl (y_call rfl en_56 rfl rfl (hp ▸ rtailN_can T hv a ham)) rfl rfl rfl <|
              .val [4] rfl ((by first | exact y_loadPinAll rfl tk_25 rfl rfl | exact y_loadPtrAll rfl tk_25 rfl rfl rfl | exact y_loadPinAgg rfl tk_25 rfl rfl rfl | exact y_loadPtrAgg rfl tk_25 rfl rfl rfl rfl)) rfl rfl rfl <|
              .val [13] rfl (y_move rfl rfl) rfl rfl rfl <|
              .val [56, 57] rfl (y_call rfl en_22 rfl rfl (hq ▸ rheadN_can T hv a ham)) rfl rfl rfl <|
              .val [55] rfl (y_assign rfl rfl) rfl rfl rfl <|
              .val [58] rfl (y_assign rfl rfl) rfl rfl rfl <|
              .nil (.cons (k := 1) rfl <| .cons (k := 2) rfl <| .cons (k := 3) rfl <| .cons (k := 4) rfl <| .cons (k := 10) rfl <| .cons (k := 12) rfl <| .cons (k := 13) rfl <| .cons (k := 14) rfl <| .cons (k := 15) rfl <| Sub.nil _)) ?_
            refine W_seq ?_
            refine W_cs (
              .val (y_move rfl rfl) rfl rfl rfl <|
              .nil (.cons (k := 1) rfl <| .cons (k := 2) rfl <| .cons (k := 3) rfl <| .cons (k := 4) rfl <| .cons (k := 10) rfl <| .cons (k := 12) rfl <| .cons (k := 13) rfl <| .cons (k := 14) rfl <| .cons (k := 15) rfl <| .cons (k := 59) rfl <| Sub.nil _)) ?_
            refine W_cond rfl (fun hdir => ?_) (fun hdir => ?_)
            · obtain ⟨x, y, hx, hy, ex, ey⟩ : ∃ x y : Nat, arcX T dir a = (x : Int) ∧ arcY T dir a = (y : Int) ∧ x = q ∧ y = p := ⟨q, p, by rw [hdir]; exact hq, by rw [hdir]; exact hp, rfl, rfl⟩
              subst ex
              subst ey
              refine W_chain (
                .val (y_move rfl rfl) rfl rfl rfl <|
                .val (y_move rfl rfl) rfl rfl rfl <|
                .val (y_assign rfl rfl) rfl rfl rfl <|
                .val (y_assign rfl rfl) rfl rfl rfl <|
                .nil (.cons (k := 1) rfl <| .cons (k := 2) rfl <| .cons (k := 3) rfl <| .cons (k := 4) rfl <| .cons (k := 10) rfl <| .cons (k := 12) rfl <| .cons (k := 13) rfl <| .cons (k := 14) rfl <| .cons (k := 15) rfl <| Sub.nil _)) ?_
              refine W_seq ?_
              have gx : out'.getD x 0 = at' out' (x : Int) := by simp [at', List.getD_eq_getElem?_getD, show x < out'.length by omega]
              have gy : out'.getD y 0 = at' out' (y : Int) := by simp [at', List.getD_eq_getElem?_getD, show y < out'.length by omega]
              have uy := hI'.ub y (by omega) (by omega)
              have ly := hI'.ge y (by omega)
              obtain ⟨p1, hp1⟩ : ∃ q, (!downN D a) = q := ⟨_, rfl⟩
              obtain ⟨p2, hp2⟩ : ∃ q, decide (out'.getD y 0 < 0) = q := ⟨_, rfl⟩
              obtain ⟨p3, hp3⟩ : ∃ q, (decide (y = n) || !overN T y) = q := ⟨_, rfl⟩
              refine W_csB 79 (.raw (.bool (((!p1) || p2) || (!p3)))) ?_ ?_
              · refine .val (y_move rfl rfl) rfl rfl rfl <| .val (y_move rfl rfl) rfl rfl rfl <| .val (y_call rfl en_23 rfl rfl (hp1 ▸ rup_can D a hDl)) rfl rfl rfl <| .val (y_not rfl rfl) rfl rfl rfl <| .val (y_move rfl rfl) rfl rfl rfl <| ?_
                cases p1
                · exact .skip rfl rfl rfl <| .skip rfl rfl rfl <| .skip rfl rfl rfl <| .skip rfl rfl rfl <| .skip rfl rfl rfl <| .val (y_pickT rfl rfl rfl) rfl rfl rfl <| .val (y_move rfl rfl) rfl rfl rfl <| .skip rfl rfl rfl <| .skip rfl rfl rfl <| .skip rfl rfl rfl <| .skip rfl rfl rfl <| .skip rfl rfl rfl <| .val (y_pickT rfl rfl rfl) rfl rfl rfl <| .nil (.cons (k := 79) rfl (.skip rfl <| .skip rfl <| .skip rfl <| .skip rfl <| .skip rfl <| .skip rfl <| .skip rfl <| .skip rfl <| .skip rfl <| .skip rfl <| .skip rfl <| .skip rfl <| .skip rfl <| .skip rfl <| .skip rfl <| .skip rfl <| .skip rfl <| .skip rfl <| Sub.refl _))
                · refine .val (y_move rfl rfl) rfl rfl rfl <| .val (y_move rfl rfl) rfl rfl rfl <| .val ((by first | exact y_indexSlice (j := y) rfl el_29 rfl rfl (by omega) (by omega) (by omega) | exact y_indexOwn (j := y) rfl el_29 rfl rfl rfl (by omega) (by omega) (by omega))) rfl rfl rfl <| .val ((by first | exact y_loadPin rfl tk_3 rfl (ints_get out' y (by omega)) | exact y_loadPtr rfl tk_3 rfl rfl (ints_get out' y (by omega)))) rfl rfl rfl <| .val (y_lss rfl rfl rfl (hp2)) rfl rfl rfl <| .val (y_pickF rfl rfl rfl) rfl rfl rfl <| .val (y_move rfl rfl) rfl rfl rfl <| ?_
                  cases p2
                  · exact .val ((by first | exact y_loadPinAll rfl tk_25 rfl rfl | exact y_loadPtrAll rfl tk_25 rfl rfl rfl | exact y_loadPinAgg rfl tk_25 rfl rfl rfl | exact y_loadPtrAgg rfl tk_25 rfl rfl rfl rfl)) rfl rfl rfl <| .val (y_move rfl rfl) rfl rfl rfl <| .val (y_move rfl rfl) rfl rfl rfl <| .val (y_call rfl en_73 rfl rfl (hp3 ▸ rtransit_can T hv y n)) rfl rfl rfl <| .val (y_not rfl rfl) rfl rfl rfl <| .val (y_pickF rfl rfl rfl) rfl rfl rfl <| .nil (.cons (k := 79) rfl (.skip rfl <| .skip rfl <| .skip rfl <| .skip rfl <| .skip rfl <| .skip rfl <| .skip rfl <| .skip rfl <| .skip rfl <| .skip rfl <| .skip rfl <| .skip rfl <| .skip rfl <| .skip rfl <| .skip rfl <| .skip rfl <| .skip rfl <| .skip rfl <| Sub.refl _))
                  · exact .skip rfl rfl rfl <| .skip rfl rfl rfl <| .skip rfl rfl rfl <| .skip rfl rfl rfl <| .skip rfl rfl rfl <| .val (y_pickT rfl rfl rfl) rfl rfl rfl <| .nil (.cons (k := 79) rfl (.skip rfl <| .skip rfl <| .skip rfl <| .skip rfl <| .skip rfl <| .skip rfl <| .skip rfl <| .skip rfl <| .skip rfl <| .skip rfl <| .skip rfl <| .skip rfl <| .skip rfl <| .skip rfl <| .skip rfl <| .skip rfl <| .skip rfl <| .skip rfl <| Sub.refl _))
              refine W_cond rfl (fun hc => ?_) (fun hc => ?_)
              · have hng : ¬ Gains T D n dir out' a := fun hg => by
                  obtain ⟨⟨w1, w2, w3⟩, _⟩ := hg
                  rw [hy] at w2 w3
                  have e1 : p1 = true := by rw [← hp1, w1]; rfl
                  have e2 : p2 = false := by rw [← hp2, gy]; simp; omega
                  have e3 : p3 = true := by
                    rw [← hp3]
                    rcases w3 with w3 | w3
                    · have : y = n := by omega
                      simp [this]
                    · rw [Int.toNat_natCast] at w3; simp [w3]
                  rw [e1, e2, e3] at hc
                  cases hc
                refine W_exit ?_
                refine W_chain (
                  .val (y_move rfl rfl) rfl rfl rfl <|
                  .val (y_add rfl rfl rfl rfl (by unfold In64; omega)) rfl rfl rfl <|
                  .val (y_assign rfl rfl) rfl rfl rfl <|
                  .nil (.cons (k := 1) rfl <| .cons (k := 2) rfl <| .cons (k := 3) rfl <| .cons (k := 4) rfl <| .cons (k := 10) rfl <| .cons (k := 12) rfl <| .cons (k := 13) rfl <| Sub.nil _)) ?_
                first
                  | exact ⟨2 * T.links.length - (a + 1), by omega, a + 1, _, true, by omega, hIg, fun h => (by cases h), fun _ => (by by_cases e : b' = true; (have := ht' e; omega); (have := (hb' (by cases b'; rfl; exact absurd rfl e)).1; rw [this] at hmg; rw [this]; exact hmg)), rfl, rfl⟩
                  | exact ⟨2 * T.links.length - (a + 1), by omega, a + 1, out', b', by omega, hI', fun h => ⟨(hb' h).1, fun c hc' => by by_cases e : c = a; (rw [e, ← (hb' h).1]; exact hng); exact (hb' h).2 c (by omega)⟩, ht', rfl, rfl⟩
              · have hway : Net.Way T D n dir out' a := by
                  obtain ⟨c1, c3⟩ := Bool.or_eq_false_iff.1 hc
                  obtain ⟨c1, c2⟩ := Bool.or_eq_false_iff.1 c1
                  have e1 : p1 = true := by cases p1; cases c1; rfl
                  have e3 : p3 = true := by cases p3; cases c3; rfl
                  rw [e1] at hp1
                  rw [c2] at hp2
                  rw [e3] at hp3
                  refine ⟨by revert hp1; cases downN D a <;> simp, ?_, ?_⟩
                  · rw [hy, ← gy]; have := of_decide_eq_false hp2; omega
                  · rw [hy, Int.toNat_natCast]
                    rcases Bool.or_eq_true_iff.1 hp3 with h | h
                    · exact .inl (by have := of_decide_eq_true h; omega)
                    · exact .inr (by revert h; cases overN T y <;> simp)
                have wy := hway.2.1
                rw [hy] at wy
                refine W_skip ?_
                refine W_ds [80, 81, 82, 83, 84, 85, 86, 87, 16] mixed (by kernel_rfl) (by kernel_rfl) (by kernel_rfl) (
                  .val [10] rfl (y_move rfl rfl) rfl rfl rfl <|
                  .val [15] rfl (y_move rfl rfl) rfl rfl rfl <|
                  .val [80, 81] rfl ((by first | exact y_indexSlice (j := y) rfl el_29 rfl rfl (by omega) (by omega) (by omega) | exact y_indexOwn (j := y) rfl el_29 rfl rfl rfl (by omega) (by omega) (by omega))) rfl rfl rfl <|
                  .val [82] rfl ((by first | exact y_loadPin rfl tk_3 rfl ((ints_get out' y (by omega)).trans (by rw [gy])) | exact y_loadPtr rfl tk_3 rfl rfl ((ints_get out' y (by omega)).trans (by rw [gy])))) rfl rfl rfl <|
                  .val [4] rfl ((by first | exact y_loadPinAll rfl tk_25 rfl rfl | exact y_loadPtrAll rfl tk_25 rfl rfl rfl | exact y_loadPinAgg rfl tk_25 rfl rfl rfl | exact y_loadPtrAgg rfl tk_25 rfl rfl rfl rfl)) rfl rfl rfl <|
                  .val [13] rfl (y_move rfl rfl) rfl rfl rfl <|
                  .val [84, 85] rfl (y_call rfl en_24 rfl rfl (rcostN_can T hv a ham)) rfl rfl rfl <|
                  .val [83, 86] rfl (y_add rfl rfl rfl rfl (by unfold In64; omega)) rfl rfl rfl <|
                  .val [87] rfl (y_assign rfl rfl) rfl rfl rfl <|
                  .nil (.cons (k := 1) rfl <| .cons (k := 2) rfl <| .cons (k := 3) rfl <| .cons (k := 4) rfl <| .cons (k := 10) rfl <| .cons (k := 12) rfl <| .cons (k := 13) rfl <| .cons (k := 14) rfl <| .cons (k := 16) rfl <| Sub.nil _)) ?_
                obtain ⟨p4, hp4⟩ : ∃ q, decide (at' out' (x : Int) < 0) = q := ⟨_, rfl⟩
                obtain ⟨p5, hp5⟩ : ∃ q, decide (at' out' (y : Int) + costN T a < at' out' (x : Int)) = q := ⟨_, rfl⟩
                refine W_csB 100 (.raw (.bool (p4 || p5))) ?_ ?_
                · refine .val (y_move rfl rfl) rfl rfl rfl <| .val (y_move rfl rfl) rfl rfl rfl <| .val ((by first | exact y_indexSlice (j := x) rfl el_29 rfl rfl (by omega) (by omega) (by omega) | exact y_indexOwn (j := x) rfl el_29 rfl rfl rfl (by omega) (by omega) (by omega))) rfl rfl rfl <| .val ((by first | exact y_loadPin rfl tk_3 rfl ((ints_get out' x (by omega)).trans (by rw [gx])) | exact y_loadPtr rfl tk_3 rfl rfl ((ints_get out' x (by omega)).trans (by rw [gx])))) rfl rfl rfl <| .val (y_lss rfl rfl rfl (hp4)) rfl rfl rfl <| .val (y_move rfl rfl) rfl rfl rfl <| ?_
                  cases p4
                  · exact .val (y_move rfl rfl) rfl rfl rfl <| .val (y_move rfl rfl) rfl rfl rfl <| .val (y_move rfl rfl) rfl rfl rfl <| .val ((by first | exact y_indexSlice (j := x) rfl el_29 rfl rfl (by omega) (by omega) (by omega) | exact y_indexOwn (j := x) rfl el_29 rfl rfl rfl (by omega) (by omega) (by omega))) rfl rfl rfl <| .val ((by first | exact y_loadPin rfl tk_3 rfl ((ints_get out' x (by omega)).trans (by rw [gx])) | exact y_loadPtr rfl tk_3 rfl rfl ((ints_get out' x (by omega)).trans (by rw [gx])))) rfl rfl rfl <| .val (y_lss rfl rfl rfl (hp5)) rfl rfl rfl <| .val (y_pickF rfl rfl rfl) rfl rfl rfl <| .nil (.cons (k := 100) rfl (.skip rfl <| .skip rfl <| .skip rfl <| .skip rfl <| .skip rfl <| .skip rfl <| .skip rfl <| .skip rfl <| .skip rfl <| .skip rfl <| .skip rfl <| .skip rfl <| .skip rfl <| Sub.refl _))
                  · exact .skip rfl rfl rfl <| .skip rfl rfl rfl <| .skip rfl rfl rfl <| .skip rfl rfl rfl <| .skip rfl rfl rfl <| .skip rfl rfl rfl <| .val (y_pickT rfl rfl rfl) rfl rfl rfl <| .nil (.cons (k := 100) rfl (.skip rfl <| .skip rfl <| .skip rfl <| .skip rfl <| .skip rfl <| .skip rfl <| .skip rfl <| .skip rfl <| .skip rfl <| .skip rfl <| .skip rfl <| .skip rfl <| .skip rfl <| Sub.refl _))
                refine W_cond rfl (fun hc => ?_) (fun hc => ?_)
                · have hg : Gains T D n dir out' a := ⟨hway, by
                    rw [hx, hy]
                    rcases Bool.or_eq_true_iff.1 hc with h | h
                    · rw [h] at hp4; exact .inl (of_decide_eq_true hp4)
                    · rw [h] at hp5; exact .inr (of_decide_eq_true hp5)⟩
                  obtain ⟨hIg, hmg⟩ := gain_inv hS hI' a ham hg
                  have hge : gain T dir out' a = out'.set x (at' out' (y : Int) + costN T a) := by unfold gain; rw [hx, hy, Int.toNat_natCast]
                  rw [hge] at hIg hmg
                  refine W_rs ?_
                  refine WR_val (y_move rfl rfl) rfl rfl rfl ?_
                  refine WR_val (y_move rfl rfl) rfl rfl rfl ?_
                  refine WR_val (y_move rfl rfl) rfl rfl rfl ?_
                  refine WR_val ((by first | exact y_indexSlice (j := x) rfl el_29 rfl rfl (by omega) (by omega) (by omega) | exact y_indexOwn (j := x) rfl el_29 rfl rfl rfl (by omega) (by omega) (by omega))) rfl rfl rfl ?_
                  refine WR_loud0 ((by first | exact l_store1 rfl tk_3 rfl rfl rfl (Nat.le_of_ble_eq_true rfl) | exact l_storeInts rfl tk_3 rfl rfl rfl (by first | omega | (simp; omega)) | exact l_storeBools rfl tk_3 rfl rfl rfl (by first | omega | (simp; omega)))) rfl rfl ?_
                  refine WR_sub (.cons (k := 1) rfl <| .cons (k := 2) rfl <| .cons (k := 3) rfl <| .cons (k := 4) rfl <| .cons (k := 10) rfl <| .cons (k := 13) rfl <| Sub.nil _) (WR_nil ?_)
                  refine W_chain (
                    .val (y_assign rfl rfl) rfl rfl rfl <|
                    .nil (.cons (k := 1) rfl <| .cons (k := 2) rfl <| .cons (k := 3) rfl <| .cons (k := 4) rfl <| .cons (k := 10) rfl <| .cons (k := 12) rfl <| .cons (k := 13) rfl <| Sub.nil _)) ?_
                  refine W_chain (
                    .val (y_move rfl rfl) rfl rfl rfl <|
                    .val (y_add rfl rfl rfl rfl (by unfold In64; omega)) rfl rfl rfl <|
                    .val (y_assign rfl rfl) rfl rfl rfl <|
                    .nil (.cons (k := 1) rfl <| .cons (k := 2) rfl <| .cons (k := 3) rfl <| .cons (k := 4) rfl <| .cons (k := 10) rfl <| .cons (k := 12) rfl <| .cons (k := 13) rfl <| Sub.nil _)) ?_
                  first
                    | exact ⟨2 * T.links.length - (a + 1), by omega, a + 1, _, true, by omega, hIg, fun h => (by cases h), fun _ => (by by_cases e : b' = true; (have := ht' e; omega); (have := (hb' (by cases b'; rfl; exact absurd rfl e)).1; rw [this] at hmg; rw [this]; exact hmg)), rfl, rfl⟩
                    | exact ⟨2 * T.links.length - (a + 1), by omega, a + 1, out', b', by omega, hI', fun h => ⟨(hb' h).1, fun c hc' => by by_cases e : c = a; (rw [e, ← (hb' h).1]; exact hng); exact (hb' h).2 c (by omega)⟩, ht', rfl, rfl⟩
                · have hng : ¬ Gains T D n dir out' a := fun hg => by
                    obtain ⟨_, hg⟩ := hg
                    rw [hx, hy] at hg
                    obtain ⟨c1, c2⟩ := Bool.or_eq_false_iff.1 hc
                    rw [c1] at hp4
                    rw [c2] at hp5
                    rcases hg with h | h
                    · exact of_decide_eq_false hp4 h
                    · exact of_decide_eq_false hp5 h
                  refine W_skip ?_
                  refine W_chain (
                    .val (y_move rfl rfl) rfl rfl rfl <|
                    .val (y_add rfl rfl rfl rfl (by unfold In64; omega)) rfl rfl rfl <|
                    .val (y_assign rfl rfl) rfl rfl rfl <|
                    .nil (.cons (k := 1) rfl <| .cons (k := 2) rfl <| .cons (k := 3) rfl <| .cons (k := 4) rfl <| .cons (k := 10) rfl <| .cons (k := 12) rfl <| .cons (k := 13) rfl <| Sub.nil _)) ?_
                  first
                    | exact ⟨2 * T.links.length - (a + 1), by omega, a + 1, _, true, by omega, hIg, fun h => (by cases h), fun _ => (by by_cases e : b' = true; (have := ht' e; omega); (have := (hb' (by cases b'; rfl; exact absurd rfl e)).1; rw [this] at hmg; rw [this]; exact hmg)), rfl, rfl⟩
                    | exact ⟨2 * T.links.length - (a + 1), by omega, a + 1, out', b', by omega, hI', fun h => ⟨(hb' h).1, fun c hc' => by by_cases e : c = a; (rw [e, ← (hb' h).1]; exact hng); exact (hb' h).2 c (by omega)⟩, ht', rfl, rfl⟩
            · obtain ⟨x, y, hx, hy, ex, ey⟩ : ∃ x y : Nat, arcX T dir a = (x : Int) ∧ arcY T dir a = (y : Int) ∧ x = p ∧ y = q := ⟨p, q, by rw [hdir]; exact hp, by rw [hdir]; exact hq, rfl, rfl⟩
              subst ex
              subst ey
              refine W_skip ?_
              refine W_seq ?_
              have gx : out'.getD x 0 = at' out' (x : Int) := by simp [at', List.getD_eq_getElem?_getD, show x < out'.length by omega]
              have gy : out'.getD y 0 = at' out' (y : Int) := by simp [at', List.getD_eq_getElem?_getD, show y < out'.length by omega]
              have uy := hI'.ub y (by omega) (by omega)
              have ly := hI'.ge y (by omega)
              obtain ⟨p1, hp1⟩ : ∃ q, (!downN D a) = q := ⟨_, rfl⟩
              obtain ⟨p2, hp2⟩ : ∃ q, decide (out'.getD y 0 < 0) = q := ⟨_, rfl⟩
              obtain ⟨p3, hp3⟩ : ∃ q, (decide (y = n) || !overN T y) = q := ⟨_, rfl⟩
              refine W_csB 79 (.raw (.bool (((!p1) || p2) || (!p3)))) ?_ ?_
              · refine .val (y_move rfl rfl) rfl rfl rfl <| .val (y_move rfl rfl) rfl rfl rfl <| .val (y_call rfl en_23 rfl rfl (hp1 ▸ rup_can D a hDl)) rfl rfl rfl <| .val (y_not rfl rfl) rfl rfl rfl <| .val (y_move rfl rfl) rfl rfl rfl <| ?_
                cases p1
                · exact .skip rfl rfl rfl <| .skip rfl rfl rfl <| .skip rfl rfl rfl <| .skip rfl rfl rfl <| .skip rfl rfl rfl <| .val (y_pickT rfl rfl rfl) rfl rfl rfl <| .val (y_move rfl rfl) rfl rfl rfl <| .skip rfl rfl rfl <| .skip rfl rfl rfl <| .skip rfl rfl rfl <| .skip rfl rfl rfl <| .skip rfl rfl rfl <| .val (y_pickT rfl rfl rfl) rfl rfl rfl <| .nil (.cons (k := 79) rfl (.skip rfl <| .skip rfl <| .skip rfl <| .skip rfl <| .skip rfl <| .skip rfl <| .skip rfl <| .skip rfl <| .skip rfl <| .skip rfl <| .skip rfl <| .skip rfl <| .skip rfl <| .skip rfl <| .skip rfl <| .skip rfl <| .skip rfl <| .skip rfl <| Sub.refl _))
                · refine .val (y_move rfl rfl) rfl rfl rfl <| .val (y_move rfl rfl) rfl rfl rfl <| .val ((by first | exact y_indexSlice (j := y) rfl el_29 rfl rfl (by omega) (by omega) (by omega) | exact y_indexOwn (j := y) rfl el_29 rfl rfl rfl (by omega) (by omega) (by omega))) rfl rfl rfl <| .val ((by first | exact y_loadPin rfl tk_3 rfl (ints_get out' y (by omega)) | exact y_loadPtr rfl tk_3 rfl rfl (ints_get out' y (by omega)))) rfl rfl rfl <| .val (y_lss rfl rfl rfl (hp2)) rfl rfl rfl <| .val (y_pickF rfl rfl rfl) rfl rfl rfl <| .val (y_move rfl rfl) rfl rfl rfl <| ?_
                  cases p2
                  · exact .val ((by first | exact y_loadPinAll rfl tk_25 rfl rfl | exact y_loadPtrAll rfl tk_25 rfl rfl rfl | exact y_loadPinAgg rfl tk_25 rfl rfl rfl | exact y_loadPtrAgg rfl tk_25 rfl rfl rfl rfl)) rfl rfl rfl <| .val (y_move rfl rfl) rfl rfl rfl <| .val (y_move rfl rfl) rfl rfl rfl <| .val (y_call rfl en_73 rfl rfl (hp3 ▸ rtransit_can T hv y n)) rfl rfl rfl <| .val (y_not rfl rfl) rfl rfl rfl <| .val (y_pickF rfl rfl rfl) rfl rfl rfl <| .nil (.cons (k := 79) rfl (.skip rfl <| .skip rfl <| .skip rfl <| .skip rfl <| .skip rfl <| .skip rfl <| .skip rfl <| .skip rfl <| .skip rfl <| .skip rfl <| .skip rfl <| .skip rfl <| .skip rfl <| .skip rfl <| .skip rfl <| .skip rfl <| .skip rfl <| .skip rfl <| Sub.refl _))
                  · exact .skip rfl rfl rfl <| .skip rfl rfl rfl <| .skip rfl rfl rfl <| .skip rfl rfl rfl <| .skip rfl rfl rfl <| .val (y_pickT rfl rfl rfl) rfl rfl rfl <| .nil (.cons (k := 79) rfl (.skip rfl <| .skip rfl <| .skip rfl <| .skip rfl <| .skip rfl <| .skip rfl <| .skip rfl <| .skip rfl <| .skip rfl <| .skip rfl <| .skip rfl <| .skip rfl <| .skip rfl <| .skip rfl <| .skip rfl <| .skip rfl <| .skip rfl <| .skip rfl <| Sub.refl _))
              refine W_cond rfl (fun hc => ?_) (fun hc => ?_)
              · have hng : ¬ Gains T D n dir out' a := fun hg => by
                  obtain ⟨⟨w1, w2, w3⟩, _⟩ := hg
                  rw [hy] at w2 w3
                  have e1 : p1 = true := by rw [← hp1, w1]; rfl
                  have e2 : p2 = false := by rw [← hp2, gy]; simp; omega
                  have e3 : p3 = true := by
                    rw [← hp3]
                    rcases w3 with w3 | w3
                    · have : y = n := by omega
                      simp [this]
                    · rw [Int.toNat_natCast] at w3; simp [w3]
                  rw [e1, e2, e3] at hc
                  cases hc
                refine W_exit ?_
                refine W_chain (
                  .val (y_move rfl rfl) rfl rfl rfl <|
                  .val (y_add rfl rfl rfl rfl (by unfold In64; omega)) rfl rfl rfl <|
                  .val (y_assign rfl rfl) rfl rfl rfl <|
                  .nil (.cons (k := 1) rfl <| .cons (k := 2) rfl <| .cons (k := 3) rfl <| .cons (k := 4) rfl <| .cons (k := 10) rfl <| .cons (k := 12) rfl <| .cons (k := 13) rfl <| Sub.nil _)) ?_
                first
                  | exact ⟨2 * T.links.length - (a + 1), by omega, a + 1, _, true, by omega, hIg, fun h => (by cases h), fun _ => (by by_cases e : b' = true; (have := ht' e; omega); (have := (hb' (by cases b'; rfl; exact absurd rfl e)).1; rw [this] at hmg; rw [this]; exact hmg)), rfl, rfl⟩
                  | exact ⟨2 * T.links.length - (a + 1), by omega, a + 1, out', b', by omega, hI', fun h => ⟨(hb' h).1, fun c hc' => by by_cases e : c = a; (rw [e, ← (hb' h).1]; exact hng); exact (hb' h).2 c (by omega)⟩, ht', rfl, rfl⟩
              · have hway : Net.Way T D n dir out' a := by
                  obtain ⟨c1, c3⟩ := Bool.or_eq_false_iff.1 hc
                  obtain ⟨c1, c2⟩ := Bool.or_eq_false_iff.1 c1
                  have e1 : p1 = true := by cases p1; cases c1; rfl
                  have e3 : p3 = true := by cases p3; cases c3; rfl
                  rw [e1] at hp1
                  rw [c2] at hp2
                  rw [e3] at hp3
                  refine ⟨by revert hp1; cases downN D a <;> simp, ?_, ?_⟩
                  · rw [hy, ← gy]; have := of_decide_eq_false hp2; omega
                  · rw [hy, Int.toNat_natCast]
                    rcases Bool.or_eq_true_iff.1 hp3 with h | h
                    · exact .inl (by have := of_decide_eq_true h; omega)
                    · exact .inr (by revert h; cases overN T y <;> simp)
                have wy := hway.2.1
                rw [hy] at wy
                refine W_skip ?_
                refine W_ds [80, 81, 82, 83, 84, 85, 86, 87, 16] mixed (by kernel_rfl) (by kernel_rfl) (by kernel_rfl) (
                  .val [10] rfl (y_move rfl rfl) rfl rfl rfl <|
                  .val [15] rfl (y_move rfl rfl) rfl rfl rfl <|
                  .val [80, 81] rfl ((by first | exact y_indexSlice (j := y) rfl el_29 rfl rfl (by omega) (by omega) (by omega) | exact y_indexOwn (j := y) rfl el_29 rfl rfl rfl (by omega) (by omega) (by omega))) rfl rfl rfl <|
                  .val [82] rfl ((by first | exact y_loadPin rfl tk_3 rfl ((ints_get out' y (by omega)).trans (by rw [gy])) | exact y_loadPtr rfl tk_3 rfl rfl ((ints_get out' y (by omega)).trans (by rw [gy])))) rfl rfl rfl <|
                  .val [4] rfl ((by first | exact y_loadPinAll rfl tk_25 rfl rfl | exact y_loadPtrAll rfl tk_25 rfl rfl rfl | exact y_loadPinAgg rfl tk_25 rfl rfl rfl | exact y_loadPtrAgg rfl tk_25 rfl rfl rfl rfl)) rfl rfl rfl <|
                  .val [13] rfl (y_move rfl rfl) rfl rfl rfl <|
                  .val [84, 85] rfl (y_call rfl en_24 rfl rfl (rcostN_can T hv a ham)) rfl rfl rfl <|
                  .val [83, 86] rfl (y_add rfl rfl rfl rfl (by unfold In64; omega)) rfl rfl rfl <|
                  .val [87] rfl (y_assign rfl rfl) rfl rfl rfl <|
                  .nil (.cons (k := 1) rfl <| .cons (k := 2) rfl <| .cons (k := 3) rfl <| .cons (k := 4) rfl <| .cons (k := 10) rfl <| .cons (k := 12) rfl <| .cons (k := 13) rfl <| .cons (k := 14) rfl <| .cons (k := 16) rfl <| Sub.nil _)) ?_
                obtain ⟨p4, hp4⟩ : ∃ q, decide (at' out' (x : Int) < 0) = q := ⟨_, rfl⟩
                obtain ⟨p5, hp5⟩ : ∃ q, decide (at' out' (y : Int) + costN T a < at' out' (x : Int)) = q := ⟨_, rfl⟩
                refine W_csB 100 (.raw (.bool (p4 || p5))) ?_ ?_
                · refine .val (y_move rfl rfl) rfl rfl rfl <| .val (y_move rfl rfl) rfl rfl rfl <| .val ((by first | exact y_indexSlice (j := x) rfl el_29 rfl rfl (by omega) (by omega) (by omega) | exact y_indexOwn (j := x) rfl el_29 rfl rfl rfl (by omega) (by omega) (by omega))) rfl rfl rfl <| .val ((by first | exact y_loadPin rfl tk_3 rfl ((ints_get out' x (by omega)).trans (by rw [gx])) | exact y_loadPtr rfl tk_3 rfl rfl ((ints_get out' x (by omega)).trans (by rw [gx])))) rfl rfl rfl <| .val (y_lss rfl rfl rfl (hp4)) rfl rfl rfl <| .val (y_move rfl rfl) rfl rfl rfl <| ?_
                  cases p4
                  · exact .val (y_move rfl rfl) rfl rfl rfl <| .val (y_move rfl rfl) rfl rfl rfl <| .val (y_move rfl rfl) rfl rfl rfl <| .val ((by first | exact y_indexSlice (j := x) rfl el_29 rfl rfl (by omega) (by omega) (by omega) | exact y_indexOwn (j := x) rfl el_29 rfl rfl rfl (by omega) (by omega) (by omega))) rfl rfl rfl <| .val ((by first | exact y_loadPin rfl tk_3 rfl ((ints_get out' x (by omega)).trans (by rw [gx])) | exact y_loadPtr rfl tk_3 rfl rfl ((ints_get out' x (by omega)).trans (by rw [gx])))) rfl rfl rfl <| .val (y_lss rfl rfl rfl (hp5)) rfl rfl rfl <| .val (y_pickF rfl rfl rfl) rfl rfl rfl <| .nil (.cons (k := 100) rfl (.skip rfl <| .skip rfl <| .skip rfl <| .skip rfl <| .skip rfl <| .skip rfl <| .skip rfl <| .skip rfl <| .skip rfl <| .skip rfl <| .skip rfl <| .skip rfl <| .skip rfl <| Sub.refl _))
                  · exact .skip rfl rfl rfl <| .skip rfl rfl rfl <| .skip rfl rfl rfl <| .skip rfl rfl rfl <| .skip rfl rfl rfl <| .skip rfl rfl rfl <| .val (y_pickT rfl rfl rfl) rfl rfl rfl <| .nil (.cons (k := 100) rfl (.skip rfl <| .skip rfl <| .skip rfl <| .skip rfl <| .skip rfl <| .skip rfl <| .skip rfl <| .skip rfl <| .skip rfl <| .skip rfl <| .skip rfl <| .skip rfl <| .skip rfl <| Sub.refl _))
                refine W_cond rfl (fun hc => ?_) (fun hc => ?_)
                · have hg : Gains T D n dir out' a := ⟨hway, by
                    rw [hx, hy]
                    rcases Bool.or_eq_true_iff.1 hc with h | h
                    · rw [h] at hp4; exact .inl (of_decide_eq_true hp4)
                    · rw [h] at hp5; exact .inr (of_decide_eq_true hp5)⟩
                  obtain ⟨hIg, hmg⟩ := gain_inv hS hI' a ham hg
                  have hge : gain T dir out' a = out'.set x (at' out' (y : Int) + costN T a) := by unfold gain; rw [hx, hy, Int.toNat_natCast]
                  rw [hge] at hIg hmg
                  refine W_rs ?_
                  refine WR_val (y_move rfl rfl) rfl rfl rfl ?_
                  refine WR_val (y_move rfl rfl) rfl rfl rfl ?_
                  refine WR_val (y_move rfl rfl) rfl rfl rfl ?_
                  refine WR_val ((by first | exact y_indexSlice (j := x) rfl el_29 rfl rfl (by omega) (by omega) (by omega) | exact y_indexOwn (j := x) rfl el_29 rfl rfl rfl (by omega) (by omega) (by omega))) rfl rfl rfl ?_
                  refine WR_loud0 ((by first | exact l_store1 rfl tk_3 rfl rfl rfl (Nat.le_of_ble_eq_true rfl) | exact l_storeInts rfl tk_3 rfl rfl rfl (by first | omega | (simp; omega)) | exact l_storeBools rfl tk_3 rfl rfl rfl (by first | omega | (simp; omega)))) rfl rfl ?_
                  refine WR_sub (.cons (k := 1) rfl <| .cons (k := 2) rfl <| .cons (k := 3) rfl <| .cons (k := 4) rfl <| .cons (k := 10) rfl <| .cons (k := 13) rfl <| Sub.nil _) (WR_nil ?_)
                  refine W_chain (
                    .val (y_assign rfl rfl) rfl rfl rfl <|
                    .nil (.cons (k := 1) rfl <| .cons (k := 2) rfl <| .cons (k := 3) rfl <| .cons (k := 4) rfl <| .cons (k := 10) rfl <| .cons (k := 12) rfl <| .cons (k := 13) rfl <| Sub.nil _)) ?_
                  refine W_chain (
                    .val (y_move rfl rfl) rfl rfl rfl <|
                    .val (y_add rfl rfl rfl rfl (by unfold In64; omega)) rfl rfl rfl <|
                    .val (y_assign rfl rfl) rfl rfl rfl <|
                    .nil (.cons (k := 1) rfl <| .cons (k := 2) rfl <| .cons (k := 3) rfl <| .cons (k := 4) rfl <| .cons (k := 10) rfl <| .cons (k := 12) rfl <| .cons (k := 13) rfl <| Sub.nil _)) ?_
                  first
                    | exact ⟨2 * T.links.length - (a + 1), by omega, a + 1, _, true, by omega, hIg, fun h => (by cases h), fun _ => (by by_cases e : b' = true; (have := ht' e; omega); (have := (hb' (by cases b'; rfl; exact absurd rfl e)).1; rw [this] at hmg; rw [this]; exact hmg)), rfl, rfl⟩
                    | exact ⟨2 * T.links.length - (a + 1), by omega, a + 1, out', b', by omega, hI', fun h => ⟨(hb' h).1, fun c hc' => by by_cases e : c = a; (rw [e, ← (hb' h).1]; exact hng); exact (hb' h).2 c (by omega)⟩, ht', rfl, rfl⟩
                · have hng : ¬ Gains T D n dir out' a := fun hg => by
                    obtain ⟨_, hg⟩ := hg
                    rw [hx, hy] at hg
                    obtain ⟨c1, c2⟩ := Bool.or_eq_false_iff.1 hc
                    rw [c1] at hp4
                    rw [c2] at hp5
                    rcases hg with h | h
                    · exact of_decide_eq_false hp4 h
                    · exact of_decide_eq_false hp5 h
                  refine W_skip ?_
                  refine W_chain (
                    .val (y_move rfl rfl) rfl rfl rfl <|
                    .val (y_add rfl rfl rfl rfl (by unfold In64; omega)) rfl rfl rfl <|
                    .val (y_assign rfl rfl) rfl rfl rfl <|
                    .nil (.cons (k := 1) rfl <| .cons (k := 2) rfl <| .cons (k := 3) rfl <| .cons (k := 4) rfl <| .cons (k := 10) rfl <| .cons (k := 12) rfl <| .cons (k := 13) rfl <| Sub.nil _)) ?_
                  first
                    | exact ⟨2 * T.links.length - (a + 1), by omega, a + 1, _, true, by omega, hIg, fun h => (by cases h), fun _ => (by by_cases e : b' = true; (have := ht' e; omega); (have := (hb' (by cases b'; rfl; exact absurd rfl e)).1; rw [this] at hmg; rw [this]; exact hmg)), rfl, rfl⟩
                    | exact ⟨2 * T.links.length - (a + 1), by omega, a + 1, out', b', by omega, hI', fun h => ⟨(hb' h).1, fun c hc' => by by_cases e : c = a; (rw [e, ← (hb' h).1]; exact hng); exact (hb' h).2 c (by omega)⟩, ht', rfl, rfl⟩
          · have hae : a = 2 * T.links.length := by have := of_decide_eq_false hc; omega
            refine W_sub (.cons (k := 1) rfl <| .cons (k := 2) rfl <| .cons (k := 3) rfl <| .cons (k := 4) rfl <| .cons (k := 10) rfl <| .cons (k := 12) rfl <| Sub.nil _) ?_
            refine W_exit ?_
            refine ⟨_, ?_, out', b', hI', fun h => ?_, rfl, rfl⟩
            · cases b'
              · rw [(hb' rfl).1]; simp
              · have := ht' rfl; simp; omega
            · rw [(hb' h).1]; intro c hc'; exact (hb' h).2 c (by omega)
        · have hdist : distL T D n dir = out := distL_eq hS (inv_dist hI (hb hc))
          refine W_exit ?_
          refine W_cs (
            .val (y_move rfl rfl) rfl rfl rfl <|
            .val (y_assign rfl rfl) rfl rfl rfl <|
            .val (y_assign rfl rfl) rfl rfl rfl <|
            .nil (.cons (k := 8) rfl <| .cons (k := 9) rfl <| Sub.nil _)) ?_
          refine W_ret ?_
          refine ⟨_, _, .cons (.tmp rfl) <| .cons (.tmp rfl) <| .nil, Pur.tupleL (PurL.cons (Pur.ownL rfl PurL.pure) (PurL.cons Pur.pure PurL.nil)), ?_⟩
          unfold intsE
          rw [hch, if_pos rfl, Int.toNat_natCast, hdist]
          unfold intsV
          rw [show out.length = k by have := hI.len; omega]

set_option maxRecDepth 10000 in
set_option maxHeartbeats 1000000 in
theorem rdist_can (T : Topo) (D : List Bool) (d : Int) : Can Tryd.prog 21 [topoV T, boolsV D, num d] (· = intsE (chkE T D [d]) (distL T D d.toNat false)) := by
  refine can_of Tryd.func21 rfl Tryd.ntmps21 rfl ?_
  refine W_cs (
    .val (y_boxPin rfl rfl rfl) rfl rfl rfl <|
    .val (y_assign rfl rfl) rfl rfl rfl <|
    .val (y_assign rfl rfl) rfl rfl rfl <|
    .nil (.cons (k := 1) rfl <| .cons (k := 2) rfl <| .cons (k := 3) rfl <| Sub.nil _)) ?_
  refine W_cs (
    .val ((by first | exact y_loadPinAll rfl tk_25 rfl rfl | exact y_loadPtrAll rfl tk_25 rfl rfl rfl | exact y_loadPinAgg rfl tk_25 rfl rfl rfl | exact y_loadPtrAgg rfl tk_25 rfl rfl rfl rfl)) rfl rfl rfl <|
    .val (y_move rfl rfl) rfl rfl rfl <|
    .val (y_move rfl rfl) rfl rfl rfl <|
    .val (y_call rfl en_54 rfl rfl (rsearch_can T D d false)) rfl rfl rfl <|
    .val (y_extract rfl rfl rfl) rfl rfl rfl <|
    .val (y_extract rfl rfl rfl) rfl rfl rfl <|
    .val (y_assign rfl rfl) rfl rfl rfl <|
    .val (y_assign rfl rfl) rfl rfl rfl <|
    .nil (.cons (k := 6) rfl <| .cons (k := 7) rfl <| Sub.nil _)) ?_
  refine W_ret ?_
  exact ⟨_, _, .cons (.tmp rfl) <| .cons (.tmp rfl) <| .nil, Pur.pure, rfl⟩
end PW
end Go.Proofs.YtkaalpdfppbdeaaDoor
