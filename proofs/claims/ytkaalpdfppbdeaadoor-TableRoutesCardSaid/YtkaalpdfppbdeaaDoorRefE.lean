/- The reference of the layers 18 and 22: Same. -/
import Derived.Test.YtkaalpdfppbdeaaDoorSegEq
namespace Go.Proofs.YtkaalpdfppbdeaaDoor
namespace PW
open Go.RowKit Reg Mem Net

set_option maxRecDepth 10000 in
set_option maxHeartbeats 1000000 in
theorem rsegs_can (L M : List Seg) (hL : L.length ≤ 100000) : Can Tryd.prog 63 [segsV L, segsV M] (· = flag (decide (L = M))) := by
  refine can_of Tryd.func63 rfl Tryd.ntmps63 rfl ?_
  refine W_cs (
    .val (y_assign rfl rfl) rfl rfl rfl <|
    .nil (.cons (k := 0) rfl <| .cons (k := 1) rfl <| Sub.nil _)) ?_
  refine W_seq ?_
  refine W_cs (
    .val (y_move rfl rfl) rfl rfl rfl <|
    .val ((by first | exact y_lenSlice rfl el_38 rfl | exact y_lenOwn rfl el_38 rfl rfl | exact y_lenNil rfl el_38 rfl)) rfl rfl rfl <|
    .val (y_move rfl rfl) rfl rfl rfl <|
    .val ((by first | exact y_lenSlice rfl el_38 rfl | exact y_lenOwn rfl el_38 rfl rfl | exact y_lenNil rfl el_38 rfl)) rfl rfl rfl <|
    .val (y_neq rfl rfl rfl rfl) rfl rfl rfl <|
    .nil (.cons (k := 0) rfl <| .cons (k := 1) rfl <| .cons (k := 10) rfl <| Sub.nil _)) ?_
  refine W_cond rfl (fun hc => ?_) (fun hc => ?_)
  · have hne : L ≠ M := fun e => by have := of_decide_eq_true hc; rw [e] at this; exact this rfl
    refine W_cs (
      .val (y_assign rfl rfl) rfl rfl rfl <|
      .nil (.cons (k := 4) rfl <| Sub.nil _)) ?_
    refine W_ret ?_
    exact ⟨_, _, .cons (.tmp rfl) <| .nil, Pur.pure, by rw [decide_eq_false hne]; rfl⟩
  · have hlen : L.length = M.length := by have := of_decide_eq_false hc; omega
    refine W_skip ?_
    refine W_seq ?_
    refine W_cs (
      .val (y_assign rfl rfl) rfl rfl rfl <|
      .nil (.cons (k := 0) rfl <| .cons (k := 1) rfl <| .cons (k := 5) rfl <| Sub.nil _)) ?_
    refine W_block ?_
    refine W_sub (.cons (k := 0) rfl <| .cons (k := 1) rfl <| .cons (k := 5) rfl <| Sub.nil _) ?_
    refine W_loop (fun r s => ∃ i, i ≤ L.length ∧ (∀ j, j < i → L[j]? = M[j]?) ∧ r = L.length - i ∧ s = ⟨[(0, segsV L), (1, segsV M), (5, num i)], []⟩) L.length ⟨0, by omega, fun j hj => by omega, by omega, rfl⟩ ?_
    rintro r s ⟨i, hi, hall, rfl, rfl⟩
    refine W_seq ?_
    refine W_cs (
      .val (y_move rfl rfl) rfl rfl rfl <|
      .val (y_move rfl rfl) rfl rfl rfl <|
      .val ((by first | exact y_lenSlice rfl el_38 rfl | exact y_lenOwn rfl el_38 rfl rfl | exact y_lenNil rfl el_38 rfl)) rfl rfl rfl <|
      .val (y_lss rfl rfl rfl rfl) rfl rfl rfl <|
      .nil (.cons (k := 0) rfl <| .cons (k := 1) rfl <| .cons (k := 5) rfl <| .cons (k := 14) rfl <| Sub.nil _)) ?_
    refine W_cond rfl (fun hc => ?_) (fun hc => ?_)
    · have hlt : i < L.length := by have := of_decide_eq_true hc; omega
      obtain ⟨a, ha⟩ : ∃ a, L[i]? = some a := ⟨L[i], by simp [hlt]⟩
      obtain ⟨b, hb⟩ : ∃ b, M[i]? = some b := ⟨M[i]'(by omega), by simp [show i < M.length by omega]⟩
      refine W_skip ?_
      refine W_seq ?_
      refine W_block ?_
      refine W_ds [17, 18, 19, 20, 21, 22, 23, 24, 25] mixed (by kernel_rfl) (by kernel_rfl) (by kernel_rfl) (
        .val [0] rfl (y_move rfl rfl) rfl rfl rfl <|
        .val [5] rfl (y_move rfl rfl) rfl rfl rfl <|
        .val [17, 18] rfl ((by first | exact y_indexSlice (j := i * 2) rfl el_38 rfl rfl (by omega) (by omega) (by omega) | exact y_indexOwn (j := i * 2) rfl el_38 rfl rfl rfl (by omega) (by omega) (by omega))) rfl rfl rfl <|
        .val [19] rfl (y_loadPinAgg rfl tk_42 rfl (segs_drop L i a ha) rfl) rfl rfl rfl <|
        .val [1] rfl (y_move rfl rfl) rfl rfl rfl <|
        .val [5] rfl (y_move rfl rfl) rfl rfl rfl <|
        .val [21, 22] rfl ((by first | exact y_indexSlice (j := i * 2) rfl el_38 rfl rfl (by omega) (by omega) (by omega) | exact y_indexOwn (j := i * 2) rfl el_38 rfl rfl rfl (by omega) (by omega) (by omega))) rfl rfl rfl <|
        .val [23] rfl (y_loadPinAgg rfl tk_42 rfl (segs_drop M i b hb) rfl) rfl rfl rfl <|
        .val [20, 24] rfl (y_segNeq (a := a) (b := b) rfl rfl rfl rfl) rfl rfl rfl <|
        .nil (.cons (k := 0) rfl <| .cons (k := 1) rfl <| .cons (k := 5) rfl <| .cons (k := 25) rfl <| Sub.nil _)) ?_
      refine W_cond rfl (fun hc => ?_) (fun hc => ?_)
      · have hne : L ≠ M := fun e => by rw [e, hb] at ha; cases ha; exact of_decide_eq_true hc rfl
        refine W_cs (
          .val (y_assign rfl rfl) rfl rfl rfl <|
          .nil (.cons (k := 4) rfl <| Sub.nil _)) ?_
        refine W_ret ?_
        exact ⟨_, _, .cons (.tmp rfl) <| .nil, Pur.pure, by rw [decide_eq_false hne]; rfl⟩
      · have hab : a = b := Classical.byContradiction (of_decide_eq_false hc)
        refine W_skip ?_
        refine W_chain (
          .val (y_move rfl rfl) rfl rfl rfl <|
          .val (y_add rfl rfl rfl rfl (by unfold In64; omega)) rfl rfl rfl <|
          .val (y_assign rfl rfl) rfl rfl rfl <|
          .nil (.cons (k := 0) rfl <| .cons (k := 1) rfl <| .cons (k := 5) rfl <| Sub.nil _)) ?_
        exact ⟨L.length - (i + 1), by omega, i + 1, by omega, fun j hj => by by_cases e : j = i; (rw [e, ha, hb, hab]); exact hall j (by omega), rfl, rfl⟩
    · have hie : i = L.length := by have := of_decide_eq_false hc; omega
      have heq : L = M := List.ext_getElem? fun j => by
        by_cases hj : j < L.length
        · exact hall j (by omega)
        · rw [List.getElem?_eq_none (by omega), List.getElem?_eq_none (by omega)]
      refine W_exit ?_
      refine W_cs (
        .val (y_assign rfl rfl) rfl rfl rfl <|
        .nil (.cons (k := 4) rfl <| Sub.nil _)) ?_
      refine W_ret ?_
      exact ⟨_, _, .cons (.tmp rfl) <| .nil, Pur.pure, by rw [decide_eq_true heq]; rfl⟩

def entB (a b : Ent) : Bool := (a.rep == b.rep) && sameB a.arcs b.arcs && decide (a.push = b.push)
set_option maxRecDepth 10000 in
set_option maxHeartbeats 1000000 in
theorem rent_can (a b : Ent) (hL : a.push.length ≤ 100000) : Can Tryd.prog 37 [entV a, entV b] (· = flag (entB a b)) := by
  obtain ⟨p1, hp1⟩ : ∃ q, (a.rep == b.rep) = q := ⟨_, rfl⟩
  obtain ⟨p2, hp2⟩ : ∃ q, sameB a.arcs b.arcs = q := ⟨_, rfl⟩
  obtain ⟨p3, hp3⟩ : ∃ q, decide (a.push = b.push) = q := ⟨_, rfl⟩
  have he : entB a b = ((p1 && p2) && p3) := by unfold entB; rw [hp1, hp2, hp3]
  rw [he]
  refine can_of Tryd.func37 rfl Tryd.ntmps37 rfl ?_
  refine W_cs (
    .val (y_boxPin rfl rfl rfl) rfl rfl rfl <|
    .val (y_boxPin rfl rfl rfl) rfl rfl rfl <|
    .val (y_assign rfl rfl) rfl rfl rfl <|
    .nil (.cons (k := 2) rfl <| .cons (k := 3) rfl <| Sub.nil _)) ?_
  refine W_csB 4 (.raw (.bool ((p1 && p2) && p3))) ?_ ?_
  · refine .val ((by first | exact y_fieldPin rfl fo_40_1 rfl | exact y_fieldPtr rfl fo_40_1 rfl)) rfl rfl rfl <| .val ((by first | exact y_loadPin rfl tk_4 rfl rfl | exact y_loadPtr rfl tk_4 rfl rfl rfl)) rfl rfl rfl <| .val ((by first | exact y_fieldPin rfl fo_40_1 rfl | exact y_fieldPtr rfl fo_40_1 rfl)) rfl rfl rfl <| .val ((by first | exact y_loadPin rfl tk_4 rfl rfl | exact y_loadPtr rfl tk_4 rfl rfl rfl)) rfl rfl rfl <| .val (y_boolEql rfl bk_4 rfl rfl hp1) rfl rfl rfl <| .val (y_move rfl rfl) rfl rfl rfl <| ?_
    cases p1
    · exact .skip rfl rfl rfl <| .skip rfl rfl rfl <| .skip rfl rfl rfl <| .skip rfl rfl rfl <| .skip rfl rfl rfl <| .val (y_pickF rfl rfl rfl) rfl rfl rfl <| .val (y_move rfl rfl) rfl rfl rfl <| .skip rfl rfl rfl <| .skip rfl rfl rfl <| .skip rfl rfl rfl <| .skip rfl rfl rfl <| .skip rfl rfl rfl <| .val (y_pickF rfl rfl rfl) rfl rfl rfl <| .val (y_assign rfl rfl) rfl rfl rfl <| .nil (.cons (k := 4) rfl (.skip rfl <| .skip rfl <| .skip rfl <| .skip rfl <| .skip rfl <| .skip rfl <| .skip rfl <| .skip rfl <| .skip rfl <| .skip rfl <| .skip rfl <| .skip rfl <| .skip rfl <| .skip rfl <| .skip rfl <| .skip rfl <| .skip rfl <| .skip rfl <| .skip rfl <| .skip rfl <| Sub.refl _))
    · refine .val ((by first | exact y_fieldPin rfl fo_40_0 rfl | exact y_fieldPtr rfl fo_40_0 rfl)) rfl rfl rfl <| .val ((by first | exact y_loadPin rfl tk_29 rfl rfl | exact y_loadPtr rfl tk_29 rfl rfl rfl)) rfl rfl rfl <| .val ((by first | exact y_fieldPin rfl fo_40_0 rfl | exact y_fieldPtr rfl fo_40_0 rfl)) rfl rfl rfl <| .val ((by first | exact y_loadPin rfl tk_29 rfl rfl | exact y_loadPtr rfl tk_29 rfl rfl rfl)) rfl rfl rfl <| .val (y_call rfl en_36 rfl rfl (hp2 ▸ rsame_can a.arcs b.arcs)) rfl rfl rfl <| .val (y_pickT rfl rfl rfl) rfl rfl rfl <| .val (y_move rfl rfl) rfl rfl rfl <| ?_
      cases p2
      · exact .skip rfl rfl rfl <| .skip rfl rfl rfl <| .skip rfl rfl rfl <| .skip rfl rfl rfl <| .skip rfl rfl rfl <| .val (y_pickF rfl rfl rfl) rfl rfl rfl <| .val (y_assign rfl rfl) rfl rfl rfl <| .nil (.cons (k := 4) rfl (.skip rfl <| .skip rfl <| .skip rfl <| .skip rfl <| .skip rfl <| .skip rfl <| .skip rfl <| .skip rfl <| .skip rfl <| .skip rfl <| .skip rfl <| .skip rfl <| .skip rfl <| .skip rfl <| .skip rfl <| .skip rfl <| .skip rfl <| .skip rfl <| .skip rfl <| .skip rfl <| Sub.refl _))
      · exact .val ((by first | exact y_fieldPin rfl fo_40_2 rfl | exact y_fieldPtr rfl fo_40_2 rfl)) rfl rfl rfl <| .val ((by first | exact y_loadPin rfl tk_38 rfl rfl | exact y_loadPtr rfl tk_38 rfl rfl rfl)) rfl rfl rfl <| .val ((by first | exact y_fieldPin rfl fo_40_2 rfl | exact y_fieldPtr rfl fo_40_2 rfl)) rfl rfl rfl <| .val ((by first | exact y_loadPin rfl tk_38 rfl rfl | exact y_loadPtr rfl tk_38 rfl rfl rfl)) rfl rfl rfl <| .val (y_call rfl en_63 rfl rfl (hp3 ▸ rsegs_can a.push b.push hL)) rfl rfl rfl <| .val (y_pickT rfl rfl rfl) rfl rfl rfl <| .val (y_assign rfl rfl) rfl rfl rfl <| .nil (.cons (k := 4) rfl (.skip rfl <| .skip rfl <| .skip rfl <| .skip rfl <| .skip rfl <| .skip rfl <| .skip rfl <| .skip rfl <| .skip rfl <| .skip rfl <| .skip rfl <| .skip rfl <| .skip rfl <| .skip rfl <| .skip rfl <| .skip rfl <| .skip rfl <| .skip rfl <| .skip rfl <| .skip rfl <| Sub.refl _))
  refine W_ret ?_
  exact ⟨_, _, .cons (.tmp rfl) <| .nil, Pur.pure, rfl⟩

deriving instance DecidableEq for Ent
deriving instance DecidableEq for Tab
theorem entB_eq (a b : Ent) : entB a b = decide (a = b) := by
  obtain ⟨a1, a2, a3⟩ := a
  obtain ⟨b1, b2, b3⟩ := b
  unfold entB sameB
  by_cases e1 : a1 = b1 <;> by_cases e2 : a2 = b2 <;> by_cases e3 : a3 = b3 <;> simp [e1, e2, e3]
/-- Tables whose lists are not long. -/
structure TabS (x : Tab) : Prop where
  ents : x.ents.length ≤ 100000
  push : ∀ e ∈ x.ents, e.push.length ≤ 100000 ∧ e.arcs.length ≤ 100000
  down : x.down.length ≤ 100000

set_option maxRecDepth 10000 in
set_option maxHeartbeats 1000000 in
theorem rtab_can (x y : Tab) (hx : TabS x) : Can Tryd.prog 13 [tabV x, tabV y] (· = flag (decide (x = y))) := by
  have hxe := hx.ents
  refine can_of Tryd.func13 rfl Tryd.ntmps13 rfl ?_
  refine W_cs (
    .val (y_boxPin rfl rfl rfl) rfl rfl rfl <|
    .val (y_boxPin rfl rfl rfl) rfl rfl rfl <|
    .val (y_assign rfl rfl) rfl rfl rfl <|
    .nil (.cons (k := 2) rfl <| .cons (k := 3) rfl <| Sub.nil _)) ?_
  refine W_seq ?_
  obtain ⟨p1, hp1⟩ : ∃ q, decide (x.node ≠ y.node) = q := ⟨_, rfl⟩
  obtain ⟨p2, hp2⟩ : ∃ q, decide ((x.ents.length : Int) ≠ (y.ents.length : Int)) = q := ⟨_, rfl⟩
  obtain ⟨p3, hp3⟩ : ∃ q, sameB x.down y.down = q := ⟨_, rfl⟩
  refine W_csB 27 (.raw (.bool ((p1 || p2) || (!p3)))) ?_ ?_
  · refine .val ((by first | exact y_fieldPin rfl fo_31_0 rfl | exact y_fieldPtr rfl fo_31_0 rfl)) rfl rfl rfl <| .val ((by first | exact y_loadPin rfl tk_3 rfl rfl | exact y_loadPtr rfl tk_3 rfl rfl rfl)) rfl rfl rfl <| .val ((by first | exact y_fieldPin rfl fo_31_0 rfl | exact y_fieldPtr rfl fo_31_0 rfl)) rfl rfl rfl <| .val ((by first | exact y_loadPin rfl tk_3 rfl rfl | exact y_loadPtr rfl tk_3 rfl rfl rfl)) rfl rfl rfl <| .val (y_neq rfl rfl rfl (hp1)) rfl rfl rfl <| .val (y_move rfl rfl) rfl rfl rfl <| ?_
    cases p1
    · refine .val ((by first | exact y_fieldPin rfl fo_31_1 rfl | exact y_fieldPtr rfl fo_31_1 rfl)) rfl rfl rfl <| .val ((by first | exact y_loadPin rfl tk_28 rfl rfl | exact y_loadPtr rfl tk_28 rfl rfl rfl)) rfl rfl rfl <| .val ((by first | exact y_lenSlice rfl el_28 rfl | exact y_lenOwn rfl el_28 rfl rfl | exact y_lenNil rfl el_28 rfl)) rfl rfl rfl <| .val ((by first | exact y_fieldPin rfl fo_31_1 rfl | exact y_fieldPtr rfl fo_31_1 rfl)) rfl rfl rfl <| .val ((by first | exact y_loadPin rfl tk_28 rfl rfl | exact y_loadPtr rfl tk_28 rfl rfl rfl)) rfl rfl rfl <| .val ((by first | exact y_lenSlice rfl el_28 rfl | exact y_lenOwn rfl el_28 rfl rfl | exact y_lenNil rfl el_28 rfl)) rfl rfl rfl <| .val (y_neq rfl rfl rfl (hp2)) rfl rfl rfl <| .val (y_pickF rfl rfl rfl) rfl rfl rfl <| .val (y_move rfl rfl) rfl rfl rfl <| ?_
      cases p2
      · exact .val ((by first | exact y_fieldPin rfl fo_31_2 rfl | exact y_fieldPtr rfl fo_31_2 rfl)) rfl rfl rfl <| .val ((by first | exact y_loadPin rfl tk_29 rfl rfl | exact y_loadPtr rfl tk_29 rfl rfl rfl)) rfl rfl rfl <| .val ((by first | exact y_fieldPin rfl fo_31_2 rfl | exact y_fieldPtr rfl fo_31_2 rfl)) rfl rfl rfl <| .val ((by first | exact y_loadPin rfl tk_29 rfl rfl | exact y_loadPtr rfl tk_29 rfl rfl rfl)) rfl rfl rfl <| .val (y_call rfl en_36 rfl rfl (hp3 ▸ rsame_can x.down y.down)) rfl rfl rfl <| .val (y_not rfl rfl) rfl rfl rfl <| .val (y_pickF rfl rfl rfl) rfl rfl rfl <| .nil (.cons (k := 27) rfl (.skip rfl <| .skip rfl <| .skip rfl <| .skip rfl <| .skip rfl <| .skip rfl <| .skip rfl <| .skip rfl <| .skip rfl <| .skip rfl <| .skip rfl <| .skip rfl <| .skip rfl <| .skip rfl <| .skip rfl <| .skip rfl <| .skip rfl <| .skip rfl <| .skip rfl <| .skip rfl <| .skip rfl <| .skip rfl <| Sub.refl _))
      · exact .skip rfl rfl rfl <| .skip rfl rfl rfl <| .skip rfl rfl rfl <| .skip rfl rfl rfl <| .skip rfl rfl rfl <| .skip rfl rfl rfl <| .val (y_pickT rfl rfl rfl) rfl rfl rfl <| .nil (.cons (k := 27) rfl (.skip rfl <| .skip rfl <| .skip rfl <| .skip rfl <| .skip rfl <| .skip rfl <| .skip rfl <| .skip rfl <| .skip rfl <| .skip rfl <| .skip rfl <| .skip rfl <| .skip rfl <| .skip rfl <| .skip rfl <| .skip rfl <| .skip rfl <| .skip rfl <| .skip rfl <| .skip rfl <| .skip rfl <| .skip rfl <| Sub.refl _))
    · exact .skip rfl rfl rfl <| .skip rfl rfl rfl <| .skip rfl rfl rfl <| .skip rfl rfl rfl <| .skip rfl rfl rfl <| .skip rfl rfl rfl <| .skip rfl rfl rfl <| .val (y_pickT rfl rfl rfl) rfl rfl rfl <| .val (y_move rfl rfl) rfl rfl rfl <| .skip rfl rfl rfl <| .skip rfl rfl rfl <| .skip rfl rfl rfl <| .skip rfl rfl rfl <| .skip rfl rfl rfl <| .skip rfl rfl rfl <| .val (y_pickT rfl rfl rfl) rfl rfl rfl <| .nil (.cons (k := 27) rfl (.skip rfl <| .skip rfl <| .skip rfl <| .skip rfl <| .skip rfl <| .skip rfl <| .skip rfl <| .skip rfl <| .skip rfl <| .skip rfl <| .skip rfl <| .skip rfl <| .skip rfl <| .skip rfl <| .skip rfl <| .skip rfl <| .skip rfl <| .skip rfl <| .skip rfl <| .skip rfl <| .skip rfl <| .skip rfl <| Sub.refl _))
  refine W_cond rfl (fun hc => ?_) (fun hc => ?_)
  · have hne : x ≠ y := fun e => by
      subst e
      have e1 : p1 = false := by rw [← hp1]; simp
      have e2 : p2 = false := by rw [← hp2]; simp
      have e3 : p3 = true := by rw [← hp3]; simp [sameB]
      rw [e1, e2, e3] at hc
      cases hc
    refine W_cs (
      .val (y_assign rfl rfl) rfl rfl rfl <|
      .nil (.cons (k := 4) rfl <| Sub.nil _)) ?_
    refine W_ret ?_
    exact ⟨_, _, .cons (.tmp rfl) <| .nil, Pur.pure, by rw [decide_eq_false hne]; rfl⟩
  · obtain ⟨c1, c3⟩ := Bool.or_eq_false_iff.1 hc
    obtain ⟨c1, c2⟩ := Bool.or_eq_false_iff.1 c1
    have e3 : p3 = true := by cases p3; cases c3; rfl
    rw [c1] at hp1
    rw [c2] at hp2
    rw [e3] at hp3
    have hnode : x.node = y.node := Classical.byContradiction (of_decide_eq_false hp1)
    have hlen : x.ents.length = y.ents.length := by have := of_decide_eq_false hp2; omega
    have hdown : x.down = y.down := of_decide_eq_true hp3
    refine W_skip ?_
    refine W_seq ?_
    refine W_cs (
      .val (y_assign rfl rfl) rfl rfl rfl <|
      .nil (.cons (k := 2) rfl <| .cons (k := 3) rfl <| .cons (k := 5) rfl <| Sub.nil _)) ?_
    refine W_block ?_
    refine W_sub (.cons (k := 2) rfl <| .cons (k := 3) rfl <| .cons (k := 5) rfl <| Sub.nil _) ?_
    refine W_loop (fun r s => ∃ i, i ≤ x.ents.length ∧ (∀ j, j < i → x.ents[j]? = y.ents[j]?) ∧ r = x.ents.length - i ∧ s = ⟨[(2, .pin (tabP x) 0), (3, .pin (tabP y) 0), (5, num i)], []⟩) x.ents.length ⟨0, by omega, fun j hj => by omega, by omega, rfl⟩ ?_
    rintro r s ⟨i, hi, hall, rfl, rfl⟩
    refine W_seq ?_
    refine W_cs (
      .val (y_move rfl rfl) rfl rfl rfl <|
      .val ((by first | exact y_fieldPin rfl fo_31_1 rfl | exact y_fieldPtr rfl fo_31_1 rfl)) rfl rfl rfl <|
      .val ((by first | exact y_loadPin rfl tk_28 rfl rfl | exact y_loadPtr rfl tk_28 rfl rfl rfl)) rfl rfl rfl <|
      .val ((by first | exact y_lenSlice rfl el_28 rfl | exact y_lenOwn rfl el_28 rfl rfl | exact y_lenNil rfl el_28 rfl)) rfl rfl rfl <|
      .val (y_lss rfl rfl rfl rfl) rfl rfl rfl <|
      .nil (.cons (k := 2) rfl <| .cons (k := 3) rfl <| .cons (k := 5) rfl <| .cons (k := 32) rfl <| Sub.nil _)) ?_
    refine W_cond rfl (fun hc => ?_) (fun hc => ?_)
    · have hlt : i < x.ents.length := by have := of_decide_eq_true hc; omega
      obtain ⟨a, ha⟩ : ∃ a, x.ents[i]? = some a := ⟨x.ents[i], by simp [hlt]⟩
      obtain ⟨b, hb⟩ : ∃ b, y.ents[i]? = some b := ⟨y.ents[i]'(by omega), by simp [show i < y.ents.length by omega]⟩
      refine W_skip ?_
      refine W_seq ?_
      refine W_block ?_
      refine W_ds [35, 36, 37, 38, 39, 40, 41, 42, 43, 44, 45, 46] mixed (by kernel_rfl) (by kernel_rfl) (by kernel_rfl) (
        .val [2] rfl ((by first | exact y_fieldPin rfl fo_31_1 rfl | exact y_fieldPtr rfl fo_31_1 rfl)) rfl rfl rfl <|
        .val [35] rfl ((by first | exact y_loadPin rfl tk_28 rfl rfl | exact y_loadPtr rfl tk_28 rfl rfl rfl)) rfl rfl rfl <|
        .val [5] rfl (y_move rfl rfl) rfl rfl rfl <|
        .val [36, 37] rfl ((by first | exact y_indexSlice (j := i * 3) rfl el_28 rfl rfl (by omega) (by omega) (by omega) | exact y_indexOwn (j := i * 3) rfl el_28 rfl rfl rfl (by omega) (by omega) (by omega))) rfl rfl rfl <|
        .val [38] rfl (y_loadPinAgg rfl tk_40 rfl (ents_drop x.ents i a ha) rfl) rfl rfl rfl <|
        .val [3] rfl ((by first | exact y_fieldPin rfl fo_31_1 rfl | exact y_fieldPtr rfl fo_31_1 rfl)) rfl rfl rfl <|
        .val [40] rfl ((by first | exact y_loadPin rfl tk_28 rfl rfl | exact y_loadPtr rfl tk_28 rfl rfl rfl)) rfl rfl rfl <|
        .val [5] rfl (y_move rfl rfl) rfl rfl rfl <|
        .val [41, 42] rfl ((by first | exact y_indexSlice (j := i * 3) rfl el_28 rfl rfl (by omega) (by omega) (by omega) | exact y_indexOwn (j := i * 3) rfl el_28 rfl rfl rfl (by omega) (by omega) (by omega))) rfl rfl rfl <|
        .val [43] rfl (y_loadPinAgg rfl tk_40 rfl (ents_drop y.ents i b hb) rfl) rfl rfl rfl <|
        .val [39, 44] rfl (y_call rfl en_37 rfl rfl (rent_can a b (hx.push a (List.mem_of_getElem? ha)).1)) rfl rfl rfl <|
        .val [45] rfl (y_not rfl rfl) rfl rfl rfl <|
        .nil (.cons (k := 2) rfl <| .cons (k := 3) rfl <| .cons (k := 5) rfl <| .cons (k := 46) rfl <| Sub.nil _)) ?_
      refine W_cond rfl (fun hc => ?_) (fun hc => ?_)
      · have hne : x ≠ y := fun e => by
          rw [e, hb] at ha
          cases ha
          rw [entB_eq] at hc
          simp at hc
        refine W_cs (
          .val (y_assign rfl rfl) rfl rfl rfl <|
          .nil (.cons (k := 4) rfl <| Sub.nil _)) ?_
        refine W_ret ?_
        exact ⟨_, _, .cons (.tmp rfl) <| .nil, Pur.pure, by rw [decide_eq_false hne]; rfl⟩
      · have hab : a = b := by
          rw [entB_eq] at hc
          simpa using hc
        refine W_skip ?_
        refine W_chain (
          .val (y_move rfl rfl) rfl rfl rfl <|
          .val (y_add rfl rfl rfl rfl (by unfold In64; omega)) rfl rfl rfl <|
          .val (y_assign rfl rfl) rfl rfl rfl <|
          .nil (.cons (k := 2) rfl <| .cons (k := 3) rfl <| .cons (k := 5) rfl <| Sub.nil _)) ?_
        exact ⟨x.ents.length - (i + 1), by omega, i + 1, by omega, fun j hj => by by_cases e : j = i; (rw [e, ha, hb, hab]); exact hall j (by omega), rfl, rfl⟩
    · have hie : i = x.ents.length := by have := of_decide_eq_false hc; omega
      have hents : x.ents = y.ents := List.ext_getElem? fun j => by
        by_cases hj : j < x.ents.length
        · exact hall j (by omega)
        · rw [List.getElem?_eq_none (by omega), List.getElem?_eq_none (by omega)]
      have heq : x = y := by
        obtain ⟨x1, x2, x3⟩ := x
        obtain ⟨y1, y2, y3⟩ := y
        simp only at hnode hents hdown
        rw [hnode, hents, hdown]
      refine W_exit ?_
      refine W_cs (
        .val (y_assign rfl rfl) rfl rfl rfl <|
        .nil (.cons (k := 4) rfl <| Sub.nil _)) ?_
      refine W_ret ?_
      exact ⟨_, _, .cons (.tmp rfl) <| .nil, Pur.pure, by rw [decide_eq_true heq]; rfl⟩
end PW
end Go.Proofs.YtkaalpdfppbdeaaDoor
