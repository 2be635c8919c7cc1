/- Package table: Text of a table with small numbers and without segments. -/
import Derived.Test.YtkaalpdfppbdeaaDoorText
import Derived.Test.YtkaalpdfppbdeaaDoorPWo
namespace Go.Proofs.YtkaalpdfppbdeaaDoor
namespace PW
open Go.RowKit Reg Mem

structure Small (x : Tab) : Prop where
  node : 0 ≤ x.node ∧ x.node < 100
  ents : x.ents.length ≤ 90
  ent : ∀ e ∈ x.ents, e.rep = false ∧ e.arcs.length ≤ 90 ∧ ∀ a ∈ e.arcs, 0 ≤ a ∧ a < 100
  down : x.down.length ≤ 90 ∧ ∀ a ∈ x.down, 0 ≤ a ∧ a < 100
def entT (d : Nat) (e : Ent) : List UInt8 := if e.arcs = [] then [] else lineL ([[116, 111], Lib.decDigits d, [111, 118, 101, 114]] ++ numsT e.arcs)
def entsT (l : List Ent) (k : Nat) : List UInt8 := (List.range k).flatMap fun d => entT d (l.getD d ⟨[], false, []⟩)
def downT (l : List Int) : List UInt8 := if l = [] then [] else lineL ([100, 111, 119, 110] :: numsT l)
def textS (x : Tab) : List UInt8 := lineL [[116, 97, 98, 108, 101], Lib.decDigits x.node.toNat] ++ entsT x.ents x.ents.length ++ downT x.down
theorem entsT_step (l : List Ent) (k : Nat) (e : Ent) (h : l[k]? = some e) : entsT l (k + 1) = entsT l k ++ entT k e := by
  unfold entsT
  rw [List.range_succ, List.flatMap_append]
  simp [h]
theorem W_bnorm {P : Program} {M : Nat} {c : Code} {t : Tms} {Q : Exit → St → Prop} {l : List UInt8} (hT : TRen [0, 2] t t) (h : W P M 0 c ⟨t, bst 1 true l⟩ Q) : W P M 0 c ⟨t, bst 2 true l⟩ Q :=
  W_ren [0, 2] hT (.kept rfl (.cells (RenL.cons (Ren.ptr (i := 0) rfl) <| RenL.cons (Ren.own (i := 1) rfl) RenL.nil)) <| .kept rfl (.row RenL.pure) <| .nil) rfl rfl h

set_option maxRecDepth 10000 in
set_option maxHeartbeats 4000000 in
theorem text_small (x : Tab) (hx : Small x) (hlen : ∀ k, k ≤ x.ents.length → (lineL [[116, 97, 98, 108, 101], Lib.decDigits x.node.toNat]).length + (entsT x.ents k).length ≤ 100000000) (hline : ∀ d e, x.ents[d]? = some e → (lineL ([[116, 111], Lib.decDigits d, [111, 118, 101, 114]] ++ numsT e.arcs)).length ≤ 100000000) (hdl : (lineL ([100, 111, 119, 110] :: numsT x.down)).length ≤ 100000000) :
    Can Tryd.prog 16 [tabV x] (· = strV (textS x)) := by
  have hxe := hx.ents
  obtain ⟨nd, hnd⟩ := Int.eq_ofNat_of_zero_le hx.node.1
  have hnd1 : nd < 100 := by have := hx.node.2; omega
  have hl0 := hlen 0 (by omega)
  rw [show x.node.toNat = nd by omega] at hl0
  refine can_of Tryd.func16 rfl Tryd.ntmps16 rfl ?_
  refine W_cs (
    .val (y_boxPin rfl rfl rfl) rfl rfl rfl <|
    .val (y_assign rfl rfl) rfl rfl rfl <|
    .nil (.cons (k := 1) rfl <| Sub.nil _)) ?_
  refine W_rs ?_
  refine WR_loud (l_alloc rfl zk_68) rfl rfl rfl ?_
  refine WR_sub (.cons (k := 1) rfl <| .cons (k := 3) rfl <| Sub.nil _) (WR_nil ?_)
  refine W_adoptCell 0 1 5 1 rfl rfl ?_
  refine W_sto (σ' := bst 1 false []) rfl ?_
  refine W_rs ?_
  refine WR_val ((by first | exact y_fieldPin rfl fo_31_0 rfl | exact y_fieldPtr rfl fo_31_0 rfl)) rfl rfl rfl ?_
  refine WR_val ((by first | exact y_loadPin rfl tk_3 rfl ((show some (num x.node) = some (num (nd : Int)) by rw [hnd])) | exact y_loadPtr rfl tk_3 rfl rfl ((show some (num x.node) = some (num (nd : Int)) by rw [hnd])))) rfl rfl rfl ?_
  refine WR_val (y_call rfl en_40 rfl rfl (itoa_small nd hnd1)) rfl rfl rfl ?_
  refine WR_val (y_buildSlice (xs := [_, _]) rfl sl_70 ⟨Nat.le_of_ble_eq_true rfl, Nat.le_of_ble_eq_true rfl⟩ rfl rfl) rfl rfl rfl ?_
  refine WR_callS rfl en_39 rfl rfl rfl rfl rfl (CanS.mono (line_can false [] [[116, 97, 98, 108, 101], Lib.decDigits nd] (by simp) (by simp only [List.length_nil]; omega)) (fun _ σ' h => ?_))
  subst h
  refine WR_sub (.cons (k := 1) rfl <| .cons (k := 3) rfl <| Sub.nil _) (WR_nil ?_)
  refine W_bnorm (.cons 1 rfl Ren.pure <| .cons 3 rfl (Ren.ptr (i := 0) rfl) <| .nil) ?_
  refine W_seq ?_
  refine W_cs (
    .val ((by first | exact y_fieldPin rfl fo_31_1 rfl | exact y_fieldPtr rfl fo_31_1 rfl)) rfl rfl rfl <|
    .val ((by first | exact y_loadPin rfl tk_28 rfl rfl | exact y_loadPtr rfl tk_28 rfl rfl rfl)) rfl rfl rfl <|
    .val ((by first | exact y_lenSlice rfl el_28 rfl | exact y_lenOwn rfl el_28 rfl rfl | exact y_lenNil rfl el_28 rfl)) rfl rfl rfl <|
    .val (y_move rfl rfl) rfl rfl rfl <|
    .nil (.cons (k := 1) rfl <| .cons (k := 3) rfl <| .cons (k := 15) rfl <| .cons (k := 16) rfl <| .cons (k := 17) rfl <| Sub.nil _)) ?_
  refine W_block ?_
  refine W_sub (.cons (k := 1) rfl <| .cons (k := 3) rfl <| .cons (k := 15) rfl <| .cons (k := 16) rfl <| .cons (k := 17) rfl <| Sub.nil _) ?_
  refine W_loop (fun r s => ∃ k, k ≤ x.ents.length ∧ r = x.ents.length - k ∧ s = ⟨[(1, .pin (tabP x) 0), (3, .ptr 0 0), (15, entsV x.ents), (16, num x.ents.length), (17, num k)], bst 1 true (lineL [[116, 97, 98, 108, 101], Lib.decDigits nd] ++ entsT x.ents k)⟩) x.ents.length ⟨0, by omega, by omega, by simp only [entsT, List.range_zero, List.flatMap_nil, List.append_nil, List.nil_append]; rfl⟩ ?_
  rintro r s ⟨k, hk, rfl, rfl⟩
  refine W_cs (
    .val (y_lss rfl rfl rfl rfl) rfl rfl rfl <|
    .nil (.cons (k := 1) rfl <| .cons (k := 3) rfl <| .cons (k := 15) rfl <| .cons (k := 16) rfl <| .cons (k := 17) rfl <| .cons (k := 18) rfl <| Sub.nil _)) ?_
  refine W_seq ?_
  refine W_cond rfl (fun hc => ?_) (fun hc => ?_)
  · have hlt : k < x.ents.length := by have := of_decide_eq_true hc; omega
    obtain ⟨e, he⟩ : ∃ e, x.ents[k]? = some e := ⟨x.ents[k], by simp [hlt]⟩
    obtain ⟨hrep, hal, has⟩ := hx.ent e (List.mem_of_getElem? he)
    have hst := entsT_step x.ents k e he
    have hlk := hlen k (by omega)
    rw [show x.node.toNat = nd by omega] at hlk
    have hlk2 := hline k e he
    refine W_skip ?_
    refine W_seq ?_
    refine W_block ?_
    refine W_rs ?_
    refine WR_val (y_move rfl rfl) rfl rfl rfl ?_
    refine WR_val ((by first | exact y_indexSlice (j := k * 3) rfl el_28 rfl rfl (by omega) (by omega) (by omega) | exact y_indexOwn (j := k * 3) rfl el_28 rfl rfl rfl (by omega) (by omega) (by omega))) rfl rfl rfl ?_
    refine WR_val (y_loadPinAgg rfl tk_40 rfl (ents_drop x.ents k e he) rfl) rfl rfl rfl ?_
    refine WR_loud (l_alloc rfl zk_40) rfl rfl rfl ?_
    refine WR_val (y_assign rfl rfl) rfl rfl rfl ?_
    refine WR_loud0 (l_store rfl tk_40 rfl rfl rfl rfl rfl (Nat.le_of_ble_eq_true rfl)) rfl rfl ?_
    refine WR_sub (.cons (k := 1) rfl <| .cons (k := 3) rfl <| .cons (k := 4) rfl <| .cons (k := 5) rfl <| .cons (k := 15) rfl <| .cons (k := 16) rfl <| .cons (k := 17) rfl <| Sub.nil _) (WR_nil ?_)
    refine W_sto (σ' := bst 1 true (lineL [[116, 97, 98, 108, 101], Lib.decDigits nd] ++ entsT x.ents k) ++ [some (.cells 40 (entP e))]) rfl ?_
    refine W_sealPtr 5 2 0 rfl rfl ?_
    refine W_ren [0, 1] (.cons 1 rfl Ren.pure <| .cons 3 rfl (Ren.ptr (i := 0) rfl) <| .cons 4 rfl Ren.pure <| .cons 5 rfl Ren.pure <| .cons 15 rfl Ren.pure <| .cons 16 rfl Ren.pure <| .cons 17 rfl Ren.pure <| .nil) (.kept rfl (.cells (RenL.cons (Ren.ptr (i := 0) rfl) <| RenL.cons (Ren.own (i := 1) rfl) RenL.nil)) <| .kept rfl (.row RenL.pure) <| .nil) rfl rfl ?_
    refine W_seq ?_
    refine W_cs (
      .val ((by first | exact y_fieldPin rfl fo_40_0 rfl | exact y_fieldPtr rfl fo_40_0 rfl)) rfl rfl rfl <|
      .val ((by first | exact y_loadPin rfl tk_29 rfl (rfl) | exact y_loadPtr rfl tk_29 rfl rfl (rfl))) rfl rfl rfl <|
      .val ((by first | exact y_lenSlice rfl el_29 rfl | exact y_lenOwn rfl el_29 rfl rfl | exact y_lenNil rfl el_29 rfl)) rfl rfl rfl <|
      .val (y_eql rfl rfl rfl rfl) rfl rfl rfl <|
      .nil (.cons (k := 1) rfl <| .cons (k := 3) rfl <| .cons (k := 4) rfl <| .cons (k := 5) rfl <| .cons (k := 15) rfl <| .cons (k := 16) rfl <| .cons (k := 17) rfl <| .cons (k := 25) rfl <| Sub.nil _)) ?_
    refine W_cond rfl (fun hc => ?_) (fun hc => ?_)
    · have harc : e.arcs = [] := List.eq_nil_of_length_eq_zero (by have := of_decide_eq_true hc; omega)
      rw [show entT k e = [] by unfold entT; rw [if_pos harc], List.append_nil] at hst
      refine W_exit ?_
      refine W_chain (
        .val (y_add rfl rfl rfl rfl (by unfold In64; omega)) rfl rfl rfl <|
        .val (y_move rfl rfl) rfl rfl rfl <|
        .nil (.cons (k := 1) rfl <| .cons (k := 3) rfl <| .cons (k := 15) rfl <| .cons (k := 16) rfl <| .cons (k := 17) rfl <| Sub.nil _)) ?_
      refine ⟨x.ents.length - (k + 1), by omega, k + 1, by omega, rfl, ?_⟩
      rw [hst]
      first
        | rfl
        | (rw [← List.append_assoc]; rfl)
    · have harc : e.arcs ≠ [] := fun h => by have := of_decide_eq_false hc; rw [h] at this; exact this rfl
      rw [show entT k e = lineL ([[116, 111], Lib.decDigits k, [111, 118, 101, 114]] ++ numsT e.arcs) by unfold entT; rw [if_neg harc]] at hst
      have hnl : (numsT e.arcs).length = e.arcs.length := by simp [numsT]
      refine W_skip ?_
      refine W_ordersTo ([(1, .pin (tabP x) 0), (3, .ptr 0 0), (5, .pin (entP e) 0), (6, .own 3), (15, entsV x.ents), (16, num x.ents.length), (17, num k)]) ([some (.cells 68 [.ptr 0 0, .own 1]), some (.row 5 1 (lineL [[116, 97, 98, 108, 101], Lib.decDigits nd] ++ entsT x.ents k).length (bytesP (lineL [[116, 97, 98, 108, 101], Lib.decDigits nd] ++ entsT x.ents k))), none, some (.row 9 1 (3 + (numsT e.arcs).length) (strsP ([[116, 111], Lib.decDigits k, [111, 118, 101, 114]] ++ numsT e.arcs)))]) mixed ?_ ?_
      · refine WA_step 0 [3] (by kernel_rfl) ?_
        refine WAs_cons rfl rfl (WR_val (y_move rfl rfl) rfl rfl rfl (WR_nil ?_)) ?_
        · refine WA_step 1 [3] (by kernel_rfl) ?_
          refine WAs_cons rfl rfl (WR_val (y_call rfl en_40 rfl rfl (itoa_small k (by omega))) rfl rfl rfl (WR_nil ?_)) ?_
          · refine WA_step 2 [3] (by kernel_rfl) ?_
            refine WAs_cons rfl rfl (WR_loud (l_buildSlice (xs := [_, _, _]) rfl sl_70 ⟨Nat.le_of_ble_eq_true rfl, Nat.le_of_ble_eq_true rfl⟩ rfl rfl) rfl rfl rfl (WR_nil ?_)) ?_
            · refine WA_step 3 [] (by kernel_rfl) ?_
              refine WAs_cons rfl rfl (WR_val ((by first | exact y_fieldPin rfl fo_40_0 rfl | exact y_fieldPtr rfl fo_40_0 rfl)) rfl rfl rfl (WR_nil ?_)) WAs_nil
              refine WA_step 4 [] (by kernel_rfl) ?_
              refine WAs_cons rfl rfl (WR_val ((by first | exact y_loadPin rfl tk_29 rfl (rfl) | exact y_loadPtr rfl tk_29 rfl rfl (rfl))) rfl rfl rfl (WR_nil ?_)) WAs_nil
              refine WA_step 5 [] (by kernel_rfl) ?_
              refine WAs_cons rfl rfl (WR_val (y_call rfl en_41 rfl rfl (numbers_small e.arcs (by omega) has)) rfl rfl rfl (WR_nil ?_)) WAs_nil
              refine WA_step 6 [] (by kernel_rfl) ?_
              refine WAs_cons rfl rfl (WR_loud (l_append rfl rk_70 rfl rfl rfl (by simp [strsP]) ⟨by unfold maxLen; omega, by omega⟩) rfl rfl rfl (WR_nil ?_)) WAs_nil
              refine WA_step 7 [] (by kernel_rfl) ?_
              refine WAs_cons rfl rfl (WR_val (y_assign rfl rfl) rfl rfl rfl (WR_nil ?_)) WAs_nil
              exact WA_nil (by kernel_rfl) ⟨rfl, .cons (k := 1) rfl <| .cons (k := 3) rfl <| .cons (k := 5) rfl <| .cons (k := 6) rfl <| .cons (k := 15) rfl <| .cons (k := 16) rfl <| .cons (k := 17) rfl <| Sub.nil _⟩
            refine WAs_cons rfl rfl (WR_val ((by first | exact y_fieldPin rfl fo_40_0 rfl | exact y_fieldPtr rfl fo_40_0 rfl)) rfl rfl rfl (WR_nil ?_)) WAs_nil
            refine WA_step 2 [4] (by kernel_rfl) ?_
            refine WAs_cons rfl rfl (WR_loud (l_buildSlice (xs := [_, _, _]) rfl sl_70 ⟨Nat.le_of_ble_eq_true rfl, Nat.le_of_ble_eq_true rfl⟩ rfl rfl) rfl rfl rfl (WR_nil ?_)) ?_
            · refine WA_step 4 [] (by kernel_rfl) ?_
              refine WAs_cons rfl rfl (WR_val ((by first | exact y_loadPin rfl tk_29 rfl (rfl) | exact y_loadPtr rfl tk_29 rfl rfl (rfl))) rfl rfl rfl (WR_nil ?_)) WAs_nil
              refine WA_step 5 [] (by kernel_rfl) ?_
              refine WAs_cons rfl rfl (WR_val (y_call rfl en_41 rfl rfl (numbers_small e.arcs (by omega) has)) rfl rfl rfl (WR_nil ?_)) WAs_nil
              refine WA_step 6 [] (by kernel_rfl) ?_
              refine WAs_cons rfl rfl (WR_loud (l_append rfl rk_70 rfl rfl rfl (by simp [strsP]) ⟨by unfold maxLen; omega, by omega⟩) rfl rfl rfl (WR_nil ?_)) WAs_nil
              refine WA_step 7 [] (by kernel_rfl) ?_
              refine WAs_cons rfl rfl (WR_val (y_assign rfl rfl) rfl rfl rfl (WR_nil ?_)) WAs_nil
              exact WA_nil (by kernel_rfl) ⟨rfl, .cons (k := 1) rfl <| .cons (k := 3) rfl <| .cons (k := 5) rfl <| .cons (k := 6) rfl <| .cons (k := 15) rfl <| .cons (k := 16) rfl <| .cons (k := 17) rfl <| Sub.nil _⟩
            refine WAs_cons rfl rfl (WR_val ((by first | exact y_loadPin rfl tk_29 rfl (rfl) | exact y_loadPtr rfl tk_29 rfl rfl (rfl))) rfl rfl rfl (WR_nil ?_)) WAs_nil
            refine WA_step 2 [5] (by kernel_rfl) ?_
            refine WAs_cons rfl rfl (WR_loud (l_buildSlice (xs := [_, _, _]) rfl sl_70 ⟨Nat.le_of_ble_eq_true rfl, Nat.le_of_ble_eq_true rfl⟩ rfl rfl) rfl rfl rfl (WR_nil ?_)) ?_
            · refine WA_step 5 [] (by kernel_rfl) ?_
              refine WAs_cons rfl rfl (WR_val (y_call rfl en_41 rfl rfl (numbers_small e.arcs (by omega) has)) rfl rfl rfl (WR_nil ?_)) WAs_nil
              refine WA_step 6 [] (by kernel_rfl) ?_
              refine WAs_cons rfl rfl (WR_loud (l_append rfl rk_70 rfl rfl rfl (by simp [strsP]) ⟨by unfold maxLen; omega, by omega⟩) rfl rfl rfl (WR_nil ?_)) WAs_nil
              refine WA_step 7 [] (by kernel_rfl) ?_
              refine WAs_cons rfl rfl (WR_val (y_assign rfl rfl) rfl rfl rfl (WR_nil ?_)) WAs_nil
              exact WA_nil (by kernel_rfl) ⟨rfl, .cons (k := 1) rfl <| .cons (k := 3) rfl <| .cons (k := 5) rfl <| .cons (k := 6) rfl <| .cons (k := 15) rfl <| .cons (k := 16) rfl <| .cons (k := 17) rfl <| Sub.nil _⟩
            refine WAs_cons rfl rfl (WR_val (y_call rfl en_41 rfl rfl (numbers_small e.arcs (by omega) has)) rfl rfl rfl (WR_nil ?_)) WAs_nil
            refine WA_step 2 [] (by kernel_rfl) ?_
            refine WAs_cons rfl rfl (WR_loud (l_buildSlice (xs := [_, _, _]) rfl sl_70 ⟨Nat.le_of_ble_eq_true rfl, Nat.le_of_ble_eq_true rfl⟩ rfl rfl) rfl rfl rfl (WR_nil ?_)) WAs_nil
            refine WA_step 6 [] (by kernel_rfl) ?_
            refine WAs_cons rfl rfl (WR_loud (l_append rfl rk_70 rfl rfl rfl (by simp [strsP]) ⟨by unfold maxLen; omega, by omega⟩) rfl rfl rfl (WR_nil ?_)) WAs_nil
            refine WA_step 7 [] (by kernel_rfl) ?_
            refine WAs_cons rfl rfl (WR_val (y_assign rfl rfl) rfl rfl rfl (WR_nil ?_)) WAs_nil
            exact WA_nil (by kernel_rfl) ⟨rfl, .cons (k := 1) rfl <| .cons (k := 3) rfl <| .cons (k := 5) rfl <| .cons (k := 6) rfl <| .cons (k := 15) rfl <| .cons (k := 16) rfl <| .cons (k := 17) rfl <| Sub.nil _⟩
          refine WAs_cons rfl rfl (WR_val ((by first | exact y_fieldPin rfl fo_40_0 rfl | exact y_fieldPtr rfl fo_40_0 rfl)) rfl rfl rfl (WR_nil ?_)) WAs_nil
          refine WA_step 1 [4] (by kernel_rfl) ?_
          refine WAs_cons rfl rfl (WR_val (y_call rfl en_40 rfl rfl (itoa_small k (by omega))) rfl rfl rfl (WR_nil ?_)) ?_
          · refine WA_step 2 [4] (by kernel_rfl) ?_
            refine WAs_cons rfl rfl (WR_loud (l_buildSlice (xs := [_, _, _]) rfl sl_70 ⟨Nat.le_of_ble_eq_true rfl, Nat.le_of_ble_eq_true rfl⟩ rfl rfl) rfl rfl rfl (WR_nil ?_)) ?_
            · refine WA_step 4 [] (by kernel_rfl) ?_
              refine WAs_cons rfl rfl (WR_val ((by first | exact y_loadPin rfl tk_29 rfl (rfl) | exact y_loadPtr rfl tk_29 rfl rfl (rfl))) rfl rfl rfl (WR_nil ?_)) WAs_nil
              refine WA_step 5 [] (by kernel_rfl) ?_
              refine WAs_cons rfl rfl (WR_val (y_call rfl en_41 rfl rfl (numbers_small e.arcs (by omega) has)) rfl rfl rfl (WR_nil ?_)) WAs_nil
              refine WA_step 6 [] (by kernel_rfl) ?_
              refine WAs_cons rfl rfl (WR_loud (l_append rfl rk_70 rfl rfl rfl (by simp [strsP]) ⟨by unfold maxLen; omega, by omega⟩) rfl rfl rfl (WR_nil ?_)) WAs_nil
              refine WA_step 7 [] (by kernel_rfl) ?_
              refine WAs_cons rfl rfl (WR_val (y_assign rfl rfl) rfl rfl rfl (WR_nil ?_)) WAs_nil
              exact WA_nil (by kernel_rfl) ⟨rfl, .cons (k := 1) rfl <| .cons (k := 3) rfl <| .cons (k := 5) rfl <| .cons (k := 6) rfl <| .cons (k := 15) rfl <| .cons (k := 16) rfl <| .cons (k := 17) rfl <| Sub.nil _⟩
            refine WAs_cons rfl rfl (WR_val ((by first | exact y_loadPin rfl tk_29 rfl (rfl) | exact y_loadPtr rfl tk_29 rfl rfl (rfl))) rfl rfl rfl (WR_nil ?_)) WAs_nil
            refine WA_step 2 [5] (by kernel_rfl) ?_
            refine WAs_cons rfl rfl (WR_loud (l_buildSlice (xs := [_, _, _]) rfl sl_70 ⟨Nat.le_of_ble_eq_true rfl, Nat.le_of_ble_eq_true rfl⟩ rfl rfl) rfl rfl rfl (WR_nil ?_)) ?_
            · refine WA_step 5 [] (by kernel_rfl) ?_
              refine WAs_cons rfl rfl (WR_val (y_call rfl en_41 rfl rfl (numbers_small e.arcs (by omega) has)) rfl rfl rfl (WR_nil ?_)) WAs_nil
              refine WA_step 6 [] (by kernel_rfl) ?_
              refine WAs_cons rfl rfl (WR_loud (l_append rfl rk_70 rfl rfl rfl (by simp [strsP]) ⟨by unfold maxLen; omega, by omega⟩) rfl rfl rfl (WR_nil ?_)) WAs_nil
              refine WA_step 7 [] (by kernel_rfl) ?_
              refine WAs_cons rfl rfl (WR_val (y_assign rfl rfl) rfl rfl rfl (WR_nil ?_)) WAs_nil
              exact WA_nil (by kernel_rfl) ⟨rfl, .cons (k := 1) rfl <| .cons (k := 3) rfl <| .cons (k := 5) rfl <| .cons (k := 6) rfl <| .cons (k := 15) rfl <| .cons (k := 16) rfl <| .cons (k := 17) rfl <| Sub.nil _⟩
            refine WAs_cons rfl rfl (WR_val (y_call rfl en_41 rfl rfl (numbers_small e.arcs (by omega) has)) rfl rfl rfl (WR_nil ?_)) WAs_nil
            refine WA_step 2 [] (by kernel_rfl) ?_
            refine WAs_cons rfl rfl (WR_loud (l_buildSlice (xs := [_, _, _]) rfl sl_70 ⟨Nat.le_of_ble_eq_true rfl, Nat.le_of_ble_eq_true rfl⟩ rfl rfl) rfl rfl rfl (WR_nil ?_)) WAs_nil
            refine WA_step 6 [] (by kernel_rfl) ?_
            refine WAs_cons rfl rfl (WR_loud (l_append rfl rk_70 rfl rfl rfl (by simp [strsP]) ⟨by unfold maxLen; omega, by omega⟩) rfl rfl rfl (WR_nil ?_)) WAs_nil
            refine WA_step 7 [] (by kernel_rfl) ?_
            refine WAs_cons rfl rfl (WR_val (y_assign rfl rfl) rfl rfl rfl (WR_nil ?_)) WAs_nil
            exact WA_nil (by kernel_rfl) ⟨rfl, .cons (k := 1) rfl <| .cons (k := 3) rfl <| .cons (k := 5) rfl <| .cons (k := 6) rfl <| .cons (k := 15) rfl <| .cons (k := 16) rfl <| .cons (k := 17) rfl <| Sub.nil _⟩
          refine WAs_cons rfl rfl (WR_val ((by first | exact y_loadPin rfl tk_29 rfl (rfl) | exact y_loadPtr rfl tk_29 rfl rfl (rfl))) rfl rfl rfl (WR_nil ?_)) WAs_nil
          refine WA_step 1 [] (by kernel_rfl) ?_
          refine WAs_cons rfl rfl (WR_val (y_call rfl en_40 rfl rfl (itoa_small k (by omega))) rfl rfl rfl (WR_nil ?_)) WAs_nil
          refine WA_step 2 [5] (by kernel_rfl) ?_
          refine WAs_cons rfl rfl (WR_loud (l_buildSlice (xs := [_, _, _]) rfl sl_70 ⟨Nat.le_of_ble_eq_true rfl, Nat.le_of_ble_eq_true rfl⟩ rfl rfl) rfl rfl rfl (WR_nil ?_)) ?_
          · refine WA_step 5 [] (by kernel_rfl) ?_
            refine WAs_cons rfl rfl (WR_val (y_call rfl en_41 rfl rfl (numbers_small e.arcs (by omega) has)) rfl rfl rfl (WR_nil ?_)) WAs_nil
            refine WA_step 6 [] (by kernel_rfl) ?_
            refine WAs_cons rfl rfl (WR_loud (l_append rfl rk_70 rfl rfl rfl (by simp [strsP]) ⟨by unfold maxLen; omega, by omega⟩) rfl rfl rfl (WR_nil ?_)) WAs_nil
            refine WA_step 7 [] (by kernel_rfl) ?_
            refine WAs_cons rfl rfl (WR_val (y_assign rfl rfl) rfl rfl rfl (WR_nil ?_)) WAs_nil
            exact WA_nil (by kernel_rfl) ⟨rfl, .cons (k := 1) rfl <| .cons (k := 3) rfl <| .cons (k := 5) rfl <| .cons (k := 6) rfl <| .cons (k := 15) rfl <| .cons (k := 16) rfl <| .cons (k := 17) rfl <| Sub.nil _⟩
          refine WAs_cons rfl rfl (WR_val (y_call rfl en_41 rfl rfl (numbers_small e.arcs (by omega) has)) rfl rfl rfl (WR_nil ?_)) WAs_nil
          refine WA_step 2 [] (by kernel_rfl) ?_
          refine WAs_cons rfl rfl (WR_loud (l_buildSlice (xs := [_, _, _]) rfl sl_70 ⟨Nat.le_of_ble_eq_true rfl, Nat.le_of_ble_eq_true rfl⟩ rfl rfl) rfl rfl rfl (WR_nil ?_)) WAs_nil
          refine WA_step 6 [] (by kernel_rfl) ?_
          refine WAs_cons rfl rfl (WR_loud (l_append rfl rk_70 rfl rfl rfl (by simp [strsP]) ⟨by unfold maxLen; omega, by omega⟩) rfl rfl rfl (WR_nil ?_)) WAs_nil
          refine WA_step 7 [] (by kernel_rfl) ?_
          refine WAs_cons rfl rfl (WR_val (y_assign rfl rfl) rfl rfl rfl (WR_nil ?_)) WAs_nil
          exact WA_nil (by kernel_rfl) ⟨rfl, .cons (k := 1) rfl <| .cons (k := 3) rfl <| .cons (k := 5) rfl <| .cons (k := 6) rfl <| .cons (k := 15) rfl <| .cons (k := 16) rfl <| .cons (k := 17) rfl <| Sub.nil _⟩
        refine WAs_cons rfl rfl (WR_val ((by first | exact y_fieldPin rfl fo_40_0 rfl | exact y_fieldPtr rfl fo_40_0 rfl)) rfl rfl rfl (WR_nil ?_)) WAs_nil
        refine WA_step 0 [4] (by kernel_rfl) ?_
        refine WAs_cons rfl rfl (WR_val (y_move rfl rfl) rfl rfl rfl (WR_nil ?_)) ?_
        · refine WA_step 1 [4] (by kernel_rfl) ?_
          refine WAs_cons rfl rfl (WR_val (y_call rfl en_40 rfl rfl (itoa_small k (by omega))) rfl rfl rfl (WR_nil ?_)) ?_
          · refine WA_step 2 [4] (by kernel_rfl) ?_
            refine WAs_cons rfl rfl (WR_loud (l_buildSlice (xs := [_, _, _]) rfl sl_70 ⟨Nat.le_of_ble_eq_true rfl, Nat.le_of_ble_eq_true rfl⟩ rfl rfl) rfl rfl rfl (WR_nil ?_)) ?_
            · refine WA_step 4 [] (by kernel_rfl) ?_
              refine WAs_cons rfl rfl (WR_val ((by first | exact y_loadPin rfl tk_29 rfl (rfl) | exact y_loadPtr rfl tk_29 rfl rfl (rfl))) rfl rfl rfl (WR_nil ?_)) WAs_nil
              refine WA_step 5 [] (by kernel_rfl) ?_
              refine WAs_cons rfl rfl (WR_val (y_call rfl en_41 rfl rfl (numbers_small e.arcs (by omega) has)) rfl rfl rfl (WR_nil ?_)) WAs_nil
              refine WA_step 6 [] (by kernel_rfl) ?_
              refine WAs_cons rfl rfl (WR_loud (l_append rfl rk_70 rfl rfl rfl (by simp [strsP]) ⟨by unfold maxLen; omega, by omega⟩) rfl rfl rfl (WR_nil ?_)) WAs_nil
              refine WA_step 7 [] (by kernel_rfl) ?_
              refine WAs_cons rfl rfl (WR_val (y_assign rfl rfl) rfl rfl rfl (WR_nil ?_)) WAs_nil
              exact WA_nil (by kernel_rfl) ⟨rfl, .cons (k := 1) rfl <| .cons (k := 3) rfl <| .cons (k := 5) rfl <| .cons (k := 6) rfl <| .cons (k := 15) rfl <| .cons (k := 16) rfl <| .cons (k := 17) rfl <| Sub.nil _⟩
            refine WAs_cons rfl rfl (WR_val ((by first | exact y_loadPin rfl tk_29 rfl (rfl) | exact y_loadPtr rfl tk_29 rfl rfl (rfl))) rfl rfl rfl (WR_nil ?_)) WAs_nil
            refine WA_step 2 [5] (by kernel_rfl) ?_
            refine WAs_cons rfl rfl (WR_loud (l_buildSlice (xs := [_, _, _]) rfl sl_70 ⟨Nat.le_of_ble_eq_true rfl, Nat.le_of_ble_eq_true rfl⟩ rfl rfl) rfl rfl rfl (WR_nil ?_)) ?_
            · refine WA_step 5 [] (by kernel_rfl) ?_
              refine WAs_cons rfl rfl (WR_val (y_call rfl en_41 rfl rfl (numbers_small e.arcs (by omega) has)) rfl rfl rfl (WR_nil ?_)) WAs_nil
              refine WA_step 6 [] (by kernel_rfl) ?_
              refine WAs_cons rfl rfl (WR_loud (l_append rfl rk_70 rfl rfl rfl (by simp [strsP]) ⟨by unfold maxLen; omega, by omega⟩) rfl rfl rfl (WR_nil ?_)) WAs_nil
              refine WA_step 7 [] (by kernel_rfl) ?_
              refine WAs_cons rfl rfl (WR_val (y_assign rfl rfl) rfl rfl rfl (WR_nil ?_)) WAs_nil
              exact WA_nil (by kernel_rfl) ⟨rfl, .cons (k := 1) rfl <| .cons (k := 3) rfl <| .cons (k := 5) rfl <| .cons (k := 6) rfl <| .cons (k := 15) rfl <| .cons (k := 16) rfl <| .cons (k := 17) rfl <| Sub.nil _⟩
            refine WAs_cons rfl rfl (WR_val (y_call rfl en_41 rfl rfl (numbers_small e.arcs (by omega) has)) rfl rfl rfl (WR_nil ?_)) WAs_nil
            refine WA_step 2 [] (by kernel_rfl) ?_
            refine WAs_cons rfl rfl (WR_loud (l_buildSlice (xs := [_, _, _]) rfl sl_70 ⟨Nat.le_of_ble_eq_true rfl, Nat.le_of_ble_eq_true rfl⟩ rfl rfl) rfl rfl rfl (WR_nil ?_)) WAs_nil
            refine WA_step 6 [] (by kernel_rfl) ?_
            refine WAs_cons rfl rfl (WR_loud (l_append rfl rk_70 rfl rfl rfl (by simp [strsP]) ⟨by unfold maxLen; omega, by omega⟩) rfl rfl rfl (WR_nil ?_)) WAs_nil
            refine WA_step 7 [] (by kernel_rfl) ?_
            refine WAs_cons rfl rfl (WR_val (y_assign rfl rfl) rfl rfl rfl (WR_nil ?_)) WAs_nil
            exact WA_nil (by kernel_rfl) ⟨rfl, .cons (k := 1) rfl <| .cons (k := 3) rfl <| .cons (k := 5) rfl <| .cons (k := 6) rfl <| .cons (k := 15) rfl <| .cons (k := 16) rfl <| .cons (k := 17) rfl <| Sub.nil _⟩
          refine WAs_cons rfl rfl (WR_val ((by first | exact y_loadPin rfl tk_29 rfl (rfl) | exact y_loadPtr rfl tk_29 rfl rfl (rfl))) rfl rfl rfl (WR_nil ?_)) WAs_nil
          refine WA_step 1 [] (by kernel_rfl) ?_
          refine WAs_cons rfl rfl (WR_val (y_call rfl en_40 rfl rfl (itoa_small k (by omega))) rfl rfl rfl (WR_nil ?_)) WAs_nil
          refine WA_step 2 [5] (by kernel_rfl) ?_
          refine WAs_cons rfl rfl (WR_loud (l_buildSlice (xs := [_, _, _]) rfl sl_70 ⟨Nat.le_of_ble_eq_true rfl, Nat.le_of_ble_eq_true rfl⟩ rfl rfl) rfl rfl rfl (WR_nil ?_)) ?_
          · refine WA_step 5 [] (by kernel_rfl) ?_
            refine WAs_cons rfl rfl (WR_val (y_call rfl en_41 rfl rfl (numbers_small e.arcs (by omega) has)) rfl rfl rfl (WR_nil ?_)) WAs_nil
            refine WA_step 6 [] (by kernel_rfl) ?_
            refine WAs_cons rfl rfl (WR_loud (l_append rfl rk_70 rfl rfl rfl (by simp [strsP]) ⟨by unfold maxLen; omega, by omega⟩) rfl rfl rfl (WR_nil ?_)) WAs_nil
            refine WA_step 7 [] (by kernel_rfl) ?_
            refine WAs_cons rfl rfl (WR_val (y_assign rfl rfl) rfl rfl rfl (WR_nil ?_)) WAs_nil
            exact WA_nil (by kernel_rfl) ⟨rfl, .cons (k := 1) rfl <| .cons (k := 3) rfl <| .cons (k := 5) rfl <| .cons (k := 6) rfl <| .cons (k := 15) rfl <| .cons (k := 16) rfl <| .cons (k := 17) rfl <| Sub.nil _⟩
          refine WAs_cons rfl rfl (WR_val (y_call rfl en_41 rfl rfl (numbers_small e.arcs (by omega) has)) rfl rfl rfl (WR_nil ?_)) WAs_nil
          refine WA_step 2 [] (by kernel_rfl) ?_
          refine WAs_cons rfl rfl (WR_loud (l_buildSlice (xs := [_, _, _]) rfl sl_70 ⟨Nat.le_of_ble_eq_true rfl, Nat.le_of_ble_eq_true rfl⟩ rfl rfl) rfl rfl rfl (WR_nil ?_)) WAs_nil
          refine WA_step 6 [] (by kernel_rfl) ?_
          refine WAs_cons rfl rfl (WR_loud (l_append rfl rk_70 rfl rfl rfl (by simp [strsP]) ⟨by unfold maxLen; omega, by omega⟩) rfl rfl rfl (WR_nil ?_)) WAs_nil
          refine WA_step 7 [] (by kernel_rfl) ?_
          refine WAs_cons rfl rfl (WR_val (y_assign rfl rfl) rfl rfl rfl (WR_nil ?_)) WAs_nil
          exact WA_nil (by kernel_rfl) ⟨rfl, .cons (k := 1) rfl <| .cons (k := 3) rfl <| .cons (k := 5) rfl <| .cons (k := 6) rfl <| .cons (k := 15) rfl <| .cons (k := 16) rfl <| .cons (k := 17) rfl <| Sub.nil _⟩
        refine WAs_cons rfl rfl (WR_val ((by first | exact y_loadPin rfl tk_29 rfl (rfl) | exact y_loadPtr rfl tk_29 rfl rfl (rfl))) rfl rfl rfl (WR_nil ?_)) WAs_nil
        refine WA_step 0 [] (by kernel_rfl) ?_
        refine WAs_cons rfl rfl (WR_val (y_move rfl rfl) rfl rfl rfl (WR_nil ?_)) WAs_nil
        refine WA_step 1 [] (by kernel_rfl) ?_
        refine WAs_cons rfl rfl (WR_val (y_call rfl en_40 rfl rfl (itoa_small k (by omega))) rfl rfl rfl (WR_nil ?_)) WAs_nil
        refine WA_step 2 [5] (by kernel_rfl) ?_
        refine WAs_cons rfl rfl (WR_loud (l_buildSlice (xs := [_, _, _]) rfl sl_70 ⟨Nat.le_of_ble_eq_true rfl, Nat.le_of_ble_eq_true rfl⟩ rfl rfl) rfl rfl rfl (WR_nil ?_)) ?_
        · refine WA_step 5 [] (by kernel_rfl) ?_
          refine WAs_cons rfl rfl (WR_val (y_call rfl en_41 rfl rfl (numbers_small e.arcs (by omega) has)) rfl rfl rfl (WR_nil ?_)) WAs_nil
          refine WA_step 6 [] (by kernel_rfl) ?_
          refine WAs_cons rfl rfl (WR_loud (l_append rfl rk_70 rfl rfl rfl (by simp [strsP]) ⟨by unfold maxLen; omega, by omega⟩) rfl rfl rfl (WR_nil ?_)) WAs_nil
          refine WA_step 7 [] (by kernel_rfl) ?_
          refine WAs_cons rfl rfl (WR_val (y_assign rfl rfl) rfl rfl rfl (WR_nil ?_)) WAs_nil
          exact WA_nil (by kernel_rfl) ⟨rfl, .cons (k := 1) rfl <| .cons (k := 3) rfl <| .cons (k := 5) rfl <| .cons (k := 6) rfl <| .cons (k := 15) rfl <| .cons (k := 16) rfl <| .cons (k := 17) rfl <| Sub.nil _⟩
        refine WAs_cons rfl rfl (WR_val (y_call rfl en_41 rfl rfl (numbers_small e.arcs (by omega) has)) rfl rfl rfl (WR_nil ?_)) WAs_nil
        refine WA_step 2 [] (by kernel_rfl) ?_
        refine WAs_cons rfl rfl (WR_loud (l_buildSlice (xs := [_, _, _]) rfl sl_70 ⟨Nat.le_of_ble_eq_true rfl, Nat.le_of_ble_eq_true rfl⟩ rfl rfl) rfl rfl rfl (WR_nil ?_)) WAs_nil
        refine WA_step 6 [] (by kernel_rfl) ?_
        refine WAs_cons rfl rfl (WR_loud (l_append rfl rk_70 rfl rfl rfl (by simp [strsP]) ⟨by unfold maxLen; omega, by omega⟩) rfl rfl rfl (WR_nil ?_)) WAs_nil
        refine WA_step 7 [] (by kernel_rfl) ?_
        refine WAs_cons rfl rfl (WR_val (y_assign rfl rfl) rfl rfl rfl (WR_nil ?_)) WAs_nil
        exact WA_nil (by kernel_rfl) ⟨rfl, .cons (k := 1) rfl <| .cons (k := 3) rfl <| .cons (k := 5) rfl <| .cons (k := 6) rfl <| .cons (k := 15) rfl <| .cons (k := 16) rfl <| .cons (k := 17) rfl <| Sub.nil _⟩
      refine W_seal 6 3 rfl rfl ?_
      rw [show 3 + (numsT e.arcs).length = ([[116, 111], Lib.decDigits k, [111, 118, 101, 114]] ++ numsT e.arcs).length by simp; omega]
      refine W_ren [0, 1] (.cons 1 rfl Ren.pure <| .cons 3 rfl (Ren.ptr (i := 0) rfl) <| .cons 5 rfl Ren.pure <| .cons 6 rfl Ren.pure <| .cons 15 rfl Ren.pure <| .cons 16 rfl Ren.pure <| .cons 17 rfl Ren.pure <| .nil) (.kept rfl (.cells (RenL.cons (Ren.ptr (i := 0) rfl) <| RenL.cons (Ren.own (i := 1) rfl) RenL.nil)) <| .kept rfl (.row RenL.pure) <| .nil) rfl rfl ?_
      refine W_sto (σ' := bst 1 true (lineL [[116, 97, 98, 108, 101], Lib.decDigits nd] ++ entsT x.ents k)) rfl ?_
      refine W_seq ?_
      refine W_cs (
        .val ((by first | exact y_fieldPin rfl fo_40_1 rfl | exact y_fieldPtr rfl fo_40_1 rfl)) rfl rfl rfl <|
        .val ((by first | exact y_loadPin rfl tk_4 rfl ((show some (flag e.rep) = some (flag false) by rw [hrep])) | exact y_loadPtr rfl tk_4 rfl rfl ((show some (flag e.rep) = some (flag false) by rw [hrep])))) rfl rfl rfl <|
        .nil (.cons (k := 1) rfl <| .cons (k := 3) rfl <| .cons (k := 5) rfl <| .cons (k := 6) rfl <| .cons (k := 15) rfl <| .cons (k := 16) rfl <| .cons (k := 17) rfl <| .cons (k := 34) rfl <| Sub.nil _)) ?_
      refine W_cond rfl (fun hc => ?_) (fun hc => ?_)
      · cases hc
      · refine W_skip ?_
        refine W_region ?_
        refine WR_val (y_move rfl rfl) rfl rfl rfl ?_
        refine WR_callS rfl en_39 rfl rfl rfl rfl rfl (CanS.mono (line_can true (lineL [[116, 97, 98, 108, 101], Lib.decDigits nd] ++ entsT x.ents k) ([[116, 111], Lib.decDigits k, [111, 118, 101, 114]] ++ numsT e.arcs) (by simp [hnl]; omega) (by simp only [List.length_append] at *; omega)) (fun _ σ' h => ?_))
        subst h
        refine WR_sub (.cons (k := 1) rfl <| .cons (k := 3) rfl <| .cons (k := 15) rfl <| .cons (k := 16) rfl <| .cons (k := 17) rfl <| Sub.nil _) (WR_nil ?_)
        refine W_bnorm (.cons 1 rfl Ren.pure <| .cons 3 rfl (Ren.ptr (i := 0) rfl) <| .cons 15 rfl Ren.pure <| .cons 16 rfl Ren.pure <| .cons 17 rfl Ren.pure <| .nil) ?_
        refine W_chain (
          .val (y_add rfl rfl rfl rfl (by unfold In64; omega)) rfl rfl rfl <|
          .val (y_move rfl rfl) rfl rfl rfl <|
          .nil (.cons (k := 1) rfl <| .cons (k := 3) rfl <| .cons (k := 15) rfl <| .cons (k := 16) rfl <| .cons (k := 17) rfl <| Sub.nil _)) ?_
        refine ⟨x.ents.length - (k + 1), by omega, k + 1, by omega, rfl, ?_⟩
        rw [hst]
        first
          | rfl
          | (rw [← List.append_assoc]; rfl)
  · have hke : k = x.ents.length := by have := of_decide_eq_false hc; omega
    refine W_exit ?_
    refine W_seq ?_
    refine W_cs (
      .val ((by first | exact y_fieldPin rfl fo_31_2 rfl | exact y_fieldPtr rfl fo_31_2 rfl)) rfl rfl rfl <|
      .val ((by first | exact y_loadPin rfl tk_29 rfl (rfl) | exact y_loadPtr rfl tk_29 rfl rfl (rfl))) rfl rfl rfl <|
      .val ((by first | exact y_lenSlice rfl el_29 rfl | exact y_lenOwn rfl el_29 rfl rfl | exact y_lenNil rfl el_29 rfl)) rfl rfl rfl <|
      .val (y_gtr rfl rfl rfl rfl) rfl rfl rfl <|
      .nil (.cons (k := 1) rfl <| .cons (k := 3) rfl <| .cons (k := 57) rfl <| Sub.nil _)) ?_
    refine W_cond rfl (fun hc => ?_) (fun hc => ?_)
    · have hdn : x.down ≠ [] := fun h => by have := of_decide_eq_true hc; rw [h] at this; simp at this
      have hdt : downT x.down = lineL ([100, 111, 119, 110] :: numsT x.down) := by unfold downT; rw [if_neg hdn]
      have hnl : (numsT x.down).length = x.down.length := by simp [numsT]
      have hd1 := hx.down.1
      have hlk := hlen k (by omega)
      rw [show x.node.toNat = nd by omega] at hlk
      have h1n : 1 + (numsT x.down).length = ([100, 111, 119, 110] :: numsT x.down).length := by simp; omega
      refine W_region ?_
      refine WR_loud (l_buildSlice (xs := [_]) rfl sl_70 ⟨Nat.le_of_ble_eq_true rfl, Nat.le_of_ble_eq_true rfl⟩ rfl rfl) rfl rfl rfl ?_
      refine WR_val ((by first | exact y_fieldPin rfl fo_31_2 rfl | exact y_fieldPtr rfl fo_31_2 rfl)) rfl rfl rfl ?_
      refine WR_val ((by first | exact y_loadPin rfl tk_29 rfl (rfl) | exact y_loadPtr rfl tk_29 rfl rfl (rfl))) rfl rfl rfl ?_
      refine WR_val (y_call rfl en_41 rfl rfl (numbers_small x.down (by omega) hx.down.2)) rfl rfl rfl ?_
      refine WR_loud (l_append rfl rk_70 rfl rfl rfl (by simp [strsP]) ⟨by unfold maxLen; omega, by omega⟩) rfl rfl rfl ?_
      (refine WR_seal 62 3 rfl rfl ?_; rw [h1n]; refine WR_ren [0, 1] (.cons 3 rfl (Ren.ptr (i := 0) rfl) <| .cons 62 rfl (Ren.pure (p := strsV ([100, 111, 119, 110] :: numsT x.down))) <| .nil) (.kept rfl (.cells (RenL.cons (Ren.ptr (i := 0) rfl) <| RenL.cons (Ren.own (i := 1) rfl) RenL.nil)) <| .kept rfl (.row RenL.pure) <| .nil) rfl rfl ?_)
      refine WR_callS rfl en_39 rfl rfl rfl rfl rfl (CanS.mono (line_can true (lineL [[116, 97, 98, 108, 101], Lib.decDigits nd] ++ entsT x.ents k) ([100, 111, 119, 110] :: numsT x.down) (by simp [hnl]; omega) (by simp only [List.length_append] at *; omega)) (fun _ σ' h => ?_))
      subst h
      refine WR_sub (.cons (k := 3) rfl <| Sub.nil _) (WR_nil ?_)
      refine W_bnorm (.cons 3 rfl (Ren.ptr (i := 0) rfl) <| .nil) ?_
      refine W_rs ?_
      refine WR_callS rfl en_43 rfl rfl rfl rfl rfl (CanS.mono (bstring true _ (by simp [lineL]; omega)) (fun _ σ' h => ?_))
      subst h
      refine WR_val (y_assign rfl rfl) rfl rfl rfl ?_
      refine WR_sub (.cons (k := 2) rfl <| Sub.nil _) (WR_nil ?_)
      refine W_ret ?_
      refine ⟨_, _, .cons (.tmp rfl) <| .nil, Pur.pure, ?_⟩
      unfold textS
      rw [hdt, show x.node.toNat = nd by omega, ← hke]
      first
        | rfl
        | (rw [List.append_nil]; rfl)
    · have hdn : x.down = [] := List.eq_nil_of_length_eq_zero (by have := of_decide_eq_false hc; omega)
      have hdt : downT x.down = [] := by unfold downT; rw [if_pos hdn]
      refine W_skip ?_
      refine W_rs ?_
      refine WR_callS rfl en_43 rfl rfl rfl rfl rfl (CanS.mono (bstring true _ (by simp [lineL]; omega)) (fun _ σ' h => ?_))
      subst h
      refine WR_val (y_assign rfl rfl) rfl rfl rfl ?_
      refine WR_sub (.cons (k := 2) rfl <| Sub.nil _) (WR_nil ?_)
      refine W_ret ?_
      refine ⟨_, _, .cons (.tmp rfl) <| .nil, Pur.pure, ?_⟩
      unfold textS
      rw [hdt, show x.node.toNat = nd by omega, ← hke]
      first
        | rfl
        | (rw [List.append_nil]; rfl)
end PW
end Go.Proofs.YtkaalpdfppbdeaaDoor
