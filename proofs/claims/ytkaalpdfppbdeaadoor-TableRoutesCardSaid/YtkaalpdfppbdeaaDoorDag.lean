/- The contract of package dag's next arcs. -/
import Derived.Test.YtkaalpdfppbdeaaDoorPWd
import Derived.Test.YtkaalpdfppbdeaaDoorSearch
namespace Go.Proofs.YtkaalpdfppbdeaaDoor
namespace PW
open Go.RowKit Reg Mem Net

/-- Whether the arc a is a next arc of a node with distance dn towards d, by the distances L. -/
def passB (T : Topo) (D : List Bool) (L : List Int) (dn : Int) (d a : Nat) : Bool :=
  !(downN D a || decide (L.getD (headN T a).toNat 0 < 0) || (decide (headN T a ≠ (d : Int)) && overN T (headN T a).toNat)) && decide (L.getD (headN T a).toNat 0 + costN T a = dn)
def passL (T : Topo) (D : List Bool) (L : List Int) (dn : Int) (d : Nat) (l : List Int) : List Int := l.filter fun a => passB T D L dn d a.toNat

set_option maxRecDepth 10000 in
set_option maxHeartbeats 1000000 in
theorem dnext_can (T : Topo) (D : List Bool) (L lv : List Int) (n d : Nat) (hv : validB T = true) (hf : fitsB T D = true) (hL : (L.length : Int) = T.nodes) (hub : ∀ x ∈ L, -1 ≤ x ∧ x ≤ 4194240) (hn : (n : Int) < T.nodes) (hd : (d : Int) < T.nodes)
    (hlv : ∀ a ∈ lv, 0 ≤ a ∧ a < 2 * (T.links.length : Int)) (hll : lv.length ≤ 100000) :
    Can Tryd.prog 60 [topoV T, boolsV D, intsV L, intsV lv, num n, num d] (· = intsV (if n = d ∨ L.getD n 0 < 0 then [] else passL T D L (L.getD n 0) d lv)) := by
  have hbd := valid_bd hv
  have hS := sound_of hv
  have hnL : n < L.length := by omega
  refine can_of Tryd.func60 rfl Tryd.ntmps60 rfl ?_
  refine W_cs (
    .val (y_boxPin rfl rfl rfl) rfl rfl rfl <|
    .val (y_assign rfl rfl) rfl rfl rfl <|
    .nil (.cons (k := 1) rfl <| .cons (k := 2) rfl <| .cons (k := 3) rfl <| .cons (k := 4) rfl <| .cons (k := 5) rfl <| .cons (k := 6) rfl <| Sub.nil _)) ?_
  refine W_cs (
    .val (y_assign rfl rfl) rfl rfl rfl <|
    .nil (.cons (k := 1) rfl <| .cons (k := 2) rfl <| .cons (k := 3) rfl <| .cons (k := 4) rfl <| .cons (k := 5) rfl <| .cons (k := 6) rfl <| .cons (k := 13) rfl <| Sub.nil _)) ?_
  obtain ⟨q1, hq1⟩ : ∃ q, decide ((n : Int) = (d : Int)) = q := ⟨_, rfl⟩
  obtain ⟨q2, hq2⟩ : ∃ q, decide (L.getD n 0 < 0) = q := ⟨_, rfl⟩
  refine W_seq ?_
  refine W_csB 26 (.raw (.bool (q1 || q2))) ?_ ?_
  · refine .val (y_move rfl rfl) rfl rfl rfl <| .val (y_move rfl rfl) rfl rfl rfl <| .val (y_eql rfl rfl rfl (hq1)) rfl rfl rfl <| .val (y_move rfl rfl) rfl rfl rfl <| ?_
    cases q1
    · exact .val (y_move rfl rfl) rfl rfl rfl <| .val (y_move rfl rfl) rfl rfl rfl <| .val ((by first | exact y_indexSlice (j := n) rfl el_29 rfl rfl (by omega) (by omega) (by omega) | exact y_indexOwn (j := n) rfl el_29 rfl rfl rfl (by omega) (by omega) (by omega))) rfl rfl rfl <| .val ((by first | exact y_loadPin rfl tk_3 rfl (ints_get L n hnL) | exact y_loadPtr rfl tk_3 rfl rfl (ints_get L n hnL))) rfl rfl rfl <| .val (y_lss rfl rfl rfl (hq2)) rfl rfl rfl <| .val (y_pickF rfl rfl rfl) rfl rfl rfl <| .nil (.cons (k := 26) rfl (.skip rfl <| .skip rfl <| .skip rfl <| .skip rfl <| .skip rfl <| .skip rfl <| .skip rfl <| .skip rfl <| .skip rfl <| .skip rfl <| Sub.refl _))
    · exact .skip rfl rfl rfl <| .skip rfl rfl rfl <| .skip rfl rfl rfl <| .skip rfl rfl rfl <| .skip rfl rfl rfl <| .val (y_pickT rfl rfl rfl) rfl rfl rfl <| .nil (.cons (k := 26) rfl (.skip rfl <| .skip rfl <| .skip rfl <| .skip rfl <| .skip rfl <| .skip rfl <| .skip rfl <| .skip rfl <| .skip rfl <| .skip rfl <| Sub.refl _))
  refine W_cond (b := q1 || q2) rfl (fun hc => ?_) (fun hc => ?_)
  · have : n = d ∨ L.getD n 0 < 0 := by
      rcases Bool.or_eq_true_iff.1 hc with h | h
      · rw [h] at hq1; exact .inl (by have := of_decide_eq_true hq1; omega)
      · rw [h] at hq2; exact .inr (of_decide_eq_true hq2)
    rw [if_pos this]
    refine W_cs (
      .val (y_move rfl rfl) rfl rfl rfl <|
      .val (y_assign rfl rfl) rfl rfl rfl <|
      .nil (.cons (k := 12) rfl <| Sub.nil _)) ?_
    refine W_ret ⟨_, _, .cons (.tmp rfl) .nil, Pur.nils, rfl⟩
  · obtain ⟨c1, c2⟩ := Bool.or_eq_false_iff.1 hc
    rw [c1] at hq1
    rw [c2] at hq2
    have hnd : ¬ (n = d ∨ L.getD n 0 < 0) := by
      have := of_decide_eq_false hq1
      have := of_decide_eq_false hq2
      omega
    rw [if_neg hnd]
    refine W_skip ?_
    refine W_seq ?_
    refine W_cs (
      .val (y_move rfl rfl) rfl rfl rfl <|
      .val ((by first | exact y_lenSlice rfl el_29 rfl | exact y_lenOwn rfl el_29 rfl rfl | exact y_lenNil rfl el_29 rfl)) rfl rfl rfl <|
      .val (y_move rfl rfl) rfl rfl rfl <|
      .nil (.cons (k := 1) rfl <| .cons (k := 2) rfl <| .cons (k := 4) rfl <| .cons (k := 5) rfl <| .cons (k := 6) rfl <| .cons (k := 13) rfl <| .cons (k := 28) rfl <| .cons (k := 29) rfl <| .cons (k := 30) rfl <| Sub.nil _)) ?_
    refine W_adopt 13 3 1 rfl ?_
    refine W_block ?_
    refine W_sub (.cons (k := 1) rfl <| .cons (k := 2) rfl <| .cons (k := 4) rfl <| .cons (k := 5) rfl <| .cons (k := 6) rfl <| .cons (k := 13) rfl <| .cons (k := 28) rfl <| .cons (k := 29) rfl <| .cons (k := 30) rfl <| Sub.nil _) ?_
    refine W_loop (fun r s => ∃ i, i ≤ lv.length ∧ r = lv.length - i ∧ s = ⟨[(1, boolsV D), (2, intsV L), (4, num n), (5, num d), (6, .pin (topoP T) 0), (13, .own 0), (28, intsV lv), (29, num lv.length), (30, num i)], [some (.row 3 1 (passL T D L (L.getD n 0) d (lv.take i)).length (intsP (passL T D L (L.getD n 0) d (lv.take i))))]⟩) lv.length ⟨0, by omega, by omega, ?_⟩ ?_
    · simp only [List.take_zero, passL, List.filter_nil]
      rfl
    · rintro r s ⟨i, hi, rfl, rfl⟩
      refine W_cs (
        .val (y_lss rfl rfl rfl rfl) rfl rfl rfl <|
        .nil (.cons (k := 1) rfl <| .cons (k := 2) rfl <| .cons (k := 4) rfl <| .cons (k := 5) rfl <| .cons (k := 6) rfl <| .cons (k := 13) rfl <| .cons (k := 28) rfl <| .cons (k := 29) rfl <| .cons (k := 30) rfl <| .cons (k := 31) rfl <| Sub.nil _)) ?_
      refine W_seq ?_
      refine W_cond (b := decide ((i : Int) < (lv.length : Int))) rfl (fun hc => ?_) (fun hc => ?_)
      · have hlt : i < lv.length := by have := of_decide_eq_true hc; omega
        refine W_skip ?_
        obtain ⟨a, ha⟩ : ∃ a : Nat, lv.getD i 0 = (a : Int) := Int.eq_ofNat_of_zero_le (hlv _ (getD_mem hlt)).1
        have ham : a < 2 * T.links.length := by
          have := (hlv (lv.getD i 0) (getD_mem hlt)).2
          omega
        have hstep : passL T D L (L.getD n 0) d (lv.take (i + 1)) = passL T D L (L.getD n 0) d (lv.take i) ++ (if passB T D L (L.getD n 0) d a then [(a : Int)] else []) := by
          unfold passL
          rw [List.take_add_one, List.filter_append, show lv[i]? = some (a : Int) by rw [← ha, List.getD_eq_getElem?_getD]; simp [hlt]]
          congr 1
          simp only [Option.toList_some, List.filter_cons, List.filter_nil, Int.toNat_natCast]
        have hlen : (passL T D L (L.getD n 0) d (lv.take i)).length ≤ 100000 := Nat.le_trans (List.length_filter_le _ _) (by rw [List.length_take]; omega)
        obtain ⟨hd0, hhN⟩ := hS.head a ham
        obtain ⟨h, hh⟩ := Int.eq_ofNat_of_zero_le hd0
        have hhL : h < L.length := by omega
        have hub1 : -1 ≤ L.getD h 0 ∧ L.getD h 0 ≤ 4194240 := hub _ (getD_mem hhL)
        have hcb := hS.cost a ham
        have hDl : D.length = 0 ∨ a < D.length := by simp only [fitsB, decide_eq_true_eq] at hf; omega
        have hov : T.over.length = 0 ∨ h < T.over.length := by have := hbd.2.2.2; omega
        refine W_seq ?_
        refine W_block ?_
        refine W_cs (
          .val ((by first | exact y_indexSlice (j := i) rfl el_29 rfl rfl (by omega) (by omega) (by omega) | exact y_indexOwn (j := i) rfl el_29 rfl rfl rfl (by omega) (by omega) (by omega))) rfl rfl rfl <|
          .val ((by first | exact y_loadPin rfl tk_3 rfl ((ints_get lv i hlt).trans (by rw [ha])) | exact y_loadPtr rfl tk_3 rfl rfl ((ints_get lv i hlt).trans (by rw [ha])))) rfl rfl rfl <|
          .val (y_assign rfl rfl) rfl rfl rfl <|
          .nil (.cons (k := 1) rfl <| .cons (k := 2) rfl <| .cons (k := 4) rfl <| .cons (k := 5) rfl <| .cons (k := 6) rfl <| .cons (k := 13) rfl <| .cons (k := 15) rfl <| .cons (k := 28) rfl <| .cons (k := 29) rfl <| .cons (k := 30) rfl <| Sub.nil _)) ?_
        refine W_cs (
          .val ((by first | exact y_loadPinAll rfl tk_25 rfl rfl | exact y_loadPtrAll rfl tk_25 rfl rfl rfl | exact y_loadPinAgg rfl tk_25 rfl rfl rfl | exact y_loadPtrAgg rfl tk_25 rfl rfl rfl rfl)) rfl rfl rfl <|
          .val (y_move rfl rfl) rfl rfl rfl <|
          .val (y_call rfl en_75 rfl rfl (hh ▸ head_can T a ham (by omega))) rfl rfl rfl <|
          .val (y_assign rfl rfl) rfl rfl rfl <|
          .nil (.cons (k := 1) rfl <| .cons (k := 2) rfl <| .cons (k := 4) rfl <| .cons (k := 5) rfl <| .cons (k := 6) rfl <| .cons (k := 13) rfl <| .cons (k := 15) rfl <| .cons (k := 16) rfl <| .cons (k := 28) rfl <| .cons (k := 29) rfl <| .cons (k := 30) rfl <| Sub.nil _)) ?_
        obtain ⟨p1, hp1⟩ : ∃ q, downN D a = q := ⟨_, rfl⟩
        obtain ⟨p2, hp2⟩ : ∃ q, decide (L.getD h 0 < 0) = q := ⟨_, rfl⟩
        obtain ⟨p3, hp3⟩ : ∃ q, decide ((h : Int) ≠ (d : Int)) = q := ⟨_, rfl⟩
        obtain ⟨p4, hp4⟩ : ∃ q, overN T h = q := ⟨_, rfl⟩
        obtain ⟨p5, hp5⟩ : ∃ q, decide (L.getD h 0 + costN T a = L.getD n 0) = q := ⟨_, rfl⟩
        have hpass : passB T D L (L.getD n 0) d a = (!((p1 || p2) || (p3 && p4)) && p5) := by
          unfold passB; rw [hh, Int.toNat_natCast, hp1, hp2, hp3, hp4, hp5]
        refine W_seq ?_
        refine W_csB 56 (.raw (.bool ((p1 || p2) || (p3 && p4)))) ?_ ?_
        · refine .val (y_move rfl rfl) rfl rfl rfl <| .val (y_move rfl rfl) rfl rfl rfl <| .val (y_call rfl en_32 rfl rfl (hp1 ▸ down_can D a hDl)) rfl rfl rfl <| .val (y_move rfl rfl) rfl rfl rfl <| ?_
          cases p1
          · refine .val (y_move rfl rfl) rfl rfl rfl <| .val (y_move rfl rfl) rfl rfl rfl <| .val ((by first | exact y_indexSlice (j := h) rfl el_29 rfl rfl (by omega) (by omega) (by omega) | exact y_indexOwn (j := h) rfl el_29 rfl rfl rfl (by omega) (by omega) (by omega))) rfl rfl rfl <| .val ((by first | exact y_loadPin rfl tk_3 rfl (ints_get L h hhL) | exact y_loadPtr rfl tk_3 rfl rfl (ints_get L h hhL))) rfl rfl rfl <| .val (y_lss rfl rfl rfl (hp2)) rfl rfl rfl <| .val (y_pickF rfl rfl rfl) rfl rfl rfl <| .val (y_move rfl rfl) rfl rfl rfl <| ?_
            cases p2
            · refine .val (y_move rfl rfl) rfl rfl rfl <| .val (y_move rfl rfl) rfl rfl rfl <| .val (y_neq rfl rfl rfl (hp3)) rfl rfl rfl <| .val (y_move rfl rfl) rfl rfl rfl <| ?_
              cases p3
              · exact .skip rfl rfl rfl <| .skip rfl rfl rfl <| .skip rfl rfl rfl <| .val (y_pickF rfl rfl rfl) rfl rfl rfl <| .val (y_pickF rfl rfl rfl) rfl rfl rfl <| .nil (.cons (k := 56) rfl (.skip rfl <| .skip rfl <| .skip rfl <| .skip rfl <| .skip rfl <| .skip rfl <| .skip rfl <| .skip rfl <| .skip rfl <| .skip rfl <| .skip rfl <| .skip rfl <| .skip rfl <| .skip rfl <| .skip rfl <| .skip rfl <| .skip rfl <| .skip rfl <| .skip rfl <| .skip rfl <| Sub.refl _))
              · exact .val ((by first | exact y_loadPinAll rfl tk_25 rfl rfl | exact y_loadPtrAll rfl tk_25 rfl rfl rfl | exact y_loadPinAgg rfl tk_25 rfl rfl rfl | exact y_loadPtrAgg rfl tk_25 rfl rfl rfl rfl)) rfl rfl rfl <| .val (y_move rfl rfl) rfl rfl rfl <| .val (y_call rfl en_76 rfl rfl (hp4 ▸ over_can T h hov)) rfl rfl rfl <| .val (y_pickT rfl rfl rfl) rfl rfl rfl <| .val (y_pickF rfl rfl rfl) rfl rfl rfl <| .nil (.cons (k := 56) rfl (.skip rfl <| .skip rfl <| .skip rfl <| .skip rfl <| .skip rfl <| .skip rfl <| .skip rfl <| .skip rfl <| .skip rfl <| .skip rfl <| .skip rfl <| .skip rfl <| .skip rfl <| .skip rfl <| .skip rfl <| .skip rfl <| .skip rfl <| .skip rfl <| .skip rfl <| .skip rfl <| Sub.refl _))
            · exact .skip rfl rfl rfl <| .skip rfl rfl rfl <| .skip rfl rfl rfl <| .skip rfl rfl rfl <| .skip rfl rfl rfl <| .skip rfl rfl rfl <| .skip rfl rfl rfl <| .skip rfl rfl rfl <| .val (y_pickT rfl rfl rfl) rfl rfl rfl <| .nil (.cons (k := 56) rfl (.skip rfl <| .skip rfl <| .skip rfl <| .skip rfl <| .skip rfl <| .skip rfl <| .skip rfl <| .skip rfl <| .skip rfl <| .skip rfl <| .skip rfl <| .skip rfl <| .skip rfl <| .skip rfl <| .skip rfl <| .skip rfl <| .skip rfl <| .skip rfl <| .skip rfl <| .skip rfl <| Sub.refl _))
          · exact .skip rfl rfl rfl <| .skip rfl rfl rfl <| .skip rfl rfl rfl <| .skip rfl rfl rfl <| .skip rfl rfl rfl <| .val (y_pickT rfl rfl rfl) rfl rfl rfl <| .val (y_move rfl rfl) rfl rfl rfl <| .skip rfl rfl rfl <| .skip rfl rfl rfl <| .skip rfl rfl rfl <| .skip rfl rfl rfl <| .skip rfl rfl rfl <| .skip rfl rfl rfl <| .skip rfl rfl rfl <| .skip rfl rfl rfl <| .val (y_pickT rfl rfl rfl) rfl rfl rfl <| .nil (.cons (k := 56) rfl (.skip rfl <| .skip rfl <| .skip rfl <| .skip rfl <| .skip rfl <| .skip rfl <| .skip rfl <| .skip rfl <| .skip rfl <| .skip rfl <| .skip rfl <| .skip rfl <| .skip rfl <| .skip rfl <| .skip rfl <| .skip rfl <| .skip rfl <| .skip rfl <| .skip rfl <| .skip rfl <| Sub.refl _))
        refine W_cond (b := (p1 || p2) || (p3 && p4)) rfl (fun hc => ?_) (fun hc => ?_)
        · rw [hc] at hpass
          refine W_exit ?_
          refine W_chain (
            .val (y_add rfl rfl rfl rfl (by unfold In64; omega)) rfl rfl rfl <|
            .val (y_move rfl rfl) rfl rfl rfl <|
            .nil (.cons (k := 1) rfl <| .cons (k := 2) rfl <| .cons (k := 4) rfl <| .cons (k := 5) rfl <| .cons (k := 6) rfl <| .cons (k := 13) rfl <| .cons (k := 28) rfl <| .cons (k := 29) rfl <| .cons (k := 30) rfl <| Sub.nil _)) ?_
          refine ⟨lv.length - (i + 1), by omega, i + 1, by omega, rfl, ?_⟩
          rw [hstep, hpass]
          simp only [Bool.not_true, Bool.false_and, Bool.false_eq_true, if_false, List.append_nil]
          rfl
        · rw [hc] at hpass
          refine W_skip ?_
          refine W_ds [57, 58, 59, 60, 61, 62, 63, 64, 65, 66, 67, 68, 69] mixed (by kernel_rfl) (by kernel_rfl) (by kernel_rfl) (
            .val [2] rfl (y_move rfl rfl) rfl rfl rfl <|
            .val [16] rfl (y_move rfl rfl) rfl rfl rfl <|
            .val [57, 58] rfl ((by first | exact y_indexSlice (j := h) rfl el_29 rfl rfl (by omega) (by omega) (by omega) | exact y_indexOwn (j := h) rfl el_29 rfl rfl rfl (by omega) (by omega) (by omega))) rfl rfl rfl <|
            .val [59] rfl ((by first | exact y_loadPin rfl tk_3 rfl (ints_get L h hhL) | exact y_loadPtr rfl tk_3 rfl rfl (ints_get L h hhL))) rfl rfl rfl <|
            .val [6] rfl ((by first | exact y_loadPinAll rfl tk_25 rfl rfl | exact y_loadPtrAll rfl tk_25 rfl rfl rfl | exact y_loadPinAgg rfl tk_25 rfl rfl rfl | exact y_loadPtrAgg rfl tk_25 rfl rfl rfl rfl)) rfl rfl rfl <|
            .val [15] rfl (y_move rfl rfl) rfl rfl rfl <|
            .val [61, 62] rfl (y_call rfl en_77 rfl rfl (cost_can T a ham)) rfl rfl rfl <|
            .val [60, 63] rfl (y_add rfl rfl rfl rfl (by unfold In64; omega)) rfl rfl rfl <|
            .val [2] rfl (y_move rfl rfl) rfl rfl rfl <|
            .val [4] rfl (y_move rfl rfl) rfl rfl rfl <|
            .val [65, 66] rfl ((by first | exact y_indexSlice (j := n) rfl el_29 rfl rfl (by omega) (by omega) (by omega) | exact y_indexOwn (j := n) rfl el_29 rfl rfl rfl (by omega) (by omega) (by omega))) rfl rfl rfl <|
            .val [67] rfl ((by first | exact y_loadPin rfl tk_3 rfl (ints_get L n hnL) | exact y_loadPtr rfl tk_3 rfl rfl (ints_get L n hnL))) rfl rfl rfl <|
            .val [64, 68] rfl (y_eql rfl rfl rfl (hp5)) rfl rfl rfl <|
            .nil (.cons (k := 1) rfl <| .cons (k := 2) rfl <| .cons (k := 4) rfl <| .cons (k := 5) rfl <| .cons (k := 6) rfl <| .cons (k := 13) rfl <| .cons (k := 15) rfl <| .cons (k := 28) rfl <| .cons (k := 29) rfl <| .cons (k := 30) rfl <| .cons (k := 69) rfl <| Sub.nil _)) ?_
          refine W_cond (b := p5) rfl (fun hc5 => ?_) (fun hc5 => ?_)
          · rw [hc5] at hpass
            refine W_region ?_
            refine WR_val (y_move rfl rfl) rfl rfl rfl ?_
            refine WR_val (y_move rfl rfl) rfl rfl rfl ?_
            refine WR_val (y_buildSlice (xs := [_]) rfl sl_29 ⟨Nat.le_of_ble_eq_true rfl, Nat.le_of_ble_eq_true rfl⟩ rfl rfl) rfl rfl rfl ?_
            refine WR_loud (l_append rfl rk_29 rfl rfl rfl rfl (by unfold maxLen; omega)) rfl rfl rfl ?_
            refine WR_val (y_assign rfl rfl) rfl rfl rfl ?_
            refine WR_ren [1] (.cons 1 rfl (by first | exact Ren.pure | exact Ren.own (i := 0) rfl | exact Ren.ptr (i := 0) rfl) <| .cons 2 rfl (by first | exact Ren.pure | exact Ren.own (i := 0) rfl | exact Ren.ptr (i := 0) rfl) <| .cons 4 rfl (by first | exact Ren.pure | exact Ren.own (i := 0) rfl | exact Ren.ptr (i := 0) rfl) <| .cons 5 rfl (by first | exact Ren.pure | exact Ren.own (i := 0) rfl | exact Ren.ptr (i := 0) rfl) <| .cons 6 rfl (by first | exact Ren.pure | exact Ren.own (i := 0) rfl | exact Ren.ptr (i := 0) rfl) <| .cons 13 rfl (by first | exact Ren.pure | exact Ren.own (i := 0) rfl | exact Ren.ptr (i := 0) rfl) <| .cons 28 rfl (by first | exact Ren.pure | exact Ren.own (i := 0) rfl | exact Ren.ptr (i := 0) rfl) <| .cons 29 rfl (by first | exact Ren.pure | exact Ren.own (i := 0) rfl | exact Ren.ptr (i := 0) rfl) <| .cons 30 rfl (by first | exact Ren.pure | exact Ren.own (i := 0) rfl | exact Ren.ptr (i := 0) rfl) <| .nil) (.kept rfl (.rowP rfl (intsP_snoc _ _)) <| .nil) rfl rfl (WR_nil ?_)
            refine W_chain (
              .val (y_add rfl rfl rfl rfl (by unfold In64; omega)) rfl rfl rfl <|
              .val (y_move rfl rfl) rfl rfl rfl <|
              .nil (.cons (k := 1) rfl <| .cons (k := 2) rfl <| .cons (k := 4) rfl <| .cons (k := 5) rfl <| .cons (k := 6) rfl <| .cons (k := 13) rfl <| .cons (k := 28) rfl <| .cons (k := 29) rfl <| .cons (k := 30) rfl <| Sub.nil _)) ?_
            refine ⟨lv.length - (i + 1), by omega, i + 1, by omega, rfl, ?_⟩
            rw [hstep, hpass]
            simp only [Bool.not_false, Bool.true_and, if_true, List.length_append, List.length_singleton]
            rfl
          · rw [hc5] at hpass
            refine W_skip ?_
            refine W_chain (
              .val (y_add rfl rfl rfl rfl (by unfold In64; omega)) rfl rfl rfl <|
              .val (y_move rfl rfl) rfl rfl rfl <|
              .nil (.cons (k := 1) rfl <| .cons (k := 2) rfl <| .cons (k := 4) rfl <| .cons (k := 5) rfl <| .cons (k := 6) rfl <| .cons (k := 13) rfl <| .cons (k := 28) rfl <| .cons (k := 29) rfl <| .cons (k := 30) rfl <| Sub.nil _)) ?_
            refine ⟨lv.length - (i + 1), by omega, i + 1, by omega, rfl, ?_⟩
            rw [hstep, hpass]
            simp only [Bool.not_false, Bool.true_and, Bool.false_eq_true, if_false, List.append_nil]
            rfl
      · have : i = lv.length := by have := of_decide_eq_false hc; omega
        subst this
        rw [List.take_length]
        refine W_exit ?_
        refine W_cs (
          .val (y_move rfl rfl) rfl rfl rfl <|
          .val (y_assign rfl rfl) rfl rfl rfl <|
          .nil (.cons (k := 12) rfl <| Sub.nil _)) ?_
        exact W_ret ⟨_, _, .cons (.tmp rfl) .nil, Pur.ownL rfl PurL.pure, rfl⟩
end PW
end Go.Proofs.YtkaalpdfppbdeaaDoor
