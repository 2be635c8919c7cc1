/- TableSame returns true for every input: Same returns the specified result for any tables. No conditions. -/
import Derived.Test.YtkaalpdfppbdeaaDoorCardSB8
/- Package table: Text of a table with small numbers and without segments. -/
namespace Go.Proofs.YtkaalpdfppbdeaaDoor
set_option linter.unusedVariables false
set_option linter.unusedSimpArgs false
namespace PW
open Go.RowKit Reg Mem

structure Small (x : Tab) : Prop where
  node : 0 ≤ x.node ∧ x.node < 100
  ents : x.ents.length ≤ 90
  ent : ∀ e ∈ x.ents, e.rep = false ∧ e.arcs.length ≤ 90 ∧ ∀ a ∈ e.arcs, 0 ≤ a ∧ a < 100
  down : x.down.length ≤ 90 ∧ ∀ a ∈ x.down, 0 ≤ a ∧ a < 100
def entT (d : Nat) (e : Ent) : List UInt8 := if e.arcs = [] then [] else lineL ([[116, 111], Lib.decDigits d, [111, 118, 101, 114]] ++ numsT e.arcs)
def entsT (l : List Ent) (k : Nat) : List UInt8 := (List.range k).flatMap fun d => entT d (l.getD d ⟨[], false, []⟩)
def downT (l : List Int) : List UInt8 := if l = [] then [] else lineL ([100, 111, 119, 110] :: numsT l)
def textS (x : Tab) : List UInt8 := lineL [[116, 97, 98, 108, 101], Lib.decDigits x.node.toNat] ++ entsT x.ents x.ents.length ++ downT x.down
theorem entsT_step (l : List Ent) (k : Nat) (e : Ent) (h : l[k]? = some e) : entsT l (k + 1) = entsT l k ++ entT k e := by
  unfold entsT
  rw [List.range_succ, List.flatMap_append]
  simp [h]
theorem W_bnorm {P : Program} {M : Nat} {c : Code} {t : Tms} {Q : Exit → St → Prop} {l : List UInt8} (hT : TRen [0, 2] t t) (h : W P M 0 c ⟨t, bst 1 true l⟩ Q) : W P M 0 c ⟨t, bst 2 true l⟩ Q :=
  W_ren [0, 2] hT (.kept rfl (.cells (RenL.cons (Ren.ptr (i := 0) rfl) <| RenL.cons (Ren.own (i := 1) rfl) RenL.nil)) <| .kept rfl (.row RenL.pure) <| .nil) rfl rfl h

set_option maxRecDepth 10000 in
set_option maxHeartbeats 4000000 in
theorem text_small (x : Tab) (hx : Small x) (hlen : ∀ k, k ≤ x.ents.length → (lineL [[116, 97, 98, 108, 101], Lib.decDigits x.node.toNat]).length + (entsT x.ents k).length ≤ 100000000) (hline : ∀ d e, x.ents[d]? = some e → (lineL ([[116, 111], Lib.decDigits d, [111, 118, 101, 114]] ++ numsT e.arcs)).length ≤ 100000000) (hdl : (lineL ([100, 111, 119, 110] :: numsT x.down)).length ≤ 100000000) :
    Can Tryd.prog 16 [tabV x] (· = strV (textS x)) := by
  have hxe := hx.ents
  obtain ⟨nd, hnd⟩ := Int.eq_ofNat_of_zero_le hx.node.1
  have hnd1 : nd < 100 := by have := hx.node.2; omega
  have hl0 := hlen 0 (by omega)
  rw [show x.node.toNat = nd by omega] at hl0
  refine can_of Tryd.func16 rfl Tryd.ntmps16 rfl ?_
  refine W_cs (.a 2 rfl <| .k [1] rfl) ?_
  refine W_rs ?_
  refine WR_a 1 rfl <| WR_k [1, 3] rfl ?_
  refine W_adoptCell 0 1 5 1 rfl rfl ?_
  refine W_sto (σ' := bst 1 false []) rfl ?_
  refine W_rs ?_
  refine WR_a 1 rfl <| WR_v (y_ld rfl ((show some (num x.node) = some (num (nd : Int)) by rw [hnd]))) rfl <| WR_c rfl (itoa_small nd hnd1) rfl <| WR_a 1 rfl <| WR_cS rfl rfl (CanS.mono (line_can false [] [[116, 97, 98, 108, 101], Lib.decDigits nd] (by simp) (by simp only [List.length_nil]; omega)) (fun _ σ' h => ?_))
  subst h
  refine WR_k [1, 3] rfl ?_
  refine W_bnorm (.cons 1 rfl Ren.pure <| .cons 3 rfl (Ren.ptr (i := 0) rfl) <| .nil) ?_
  refine W_seq ?_
  refine W_cs (.a 4 rfl <| .k [1, 3, 15, 16, 17] rfl) ?_
  refine W_block ?_
  refine W_k [1, 3, 15, 16, 17] rfl ?_
  refine W_loop (fun r s => ∃ k, k ≤ x.ents.length ∧ r = x.ents.length - k ∧ s = ⟨[(1, .pin (tabP x) 0), (3, .ptr 0 0), (15, entsV x.ents), (16, num x.ents.length), (17, num k)], bst 1 true (lineL [[116, 97, 98, 108, 101], Lib.decDigits nd] ++ entsT x.ents k)⟩) x.ents.length ⟨0, by omega, by omega, by simp only [entsT, List.range_zero, List.flatMap_nil, List.append_nil, List.nil_append]; rfl⟩ ?_
  rintro r s ⟨k, hk, rfl, rfl⟩
  refine W_cs (.a 1 rfl <| .k [1, 3, 15, 16, 17, 18] rfl) ?_
  refine W_seq ?_
  refine W_cond rfl (fun hc => ?_) (fun hc => ?_)
  · have hlt : k < x.ents.length := by have := of_decide_eq_true hc; omega
    obtain ⟨e, he⟩ : ∃ e, x.ents[k]? = some e := ⟨x.ents[k], by simp [hlt]⟩
    obtain ⟨hrep, hal, has⟩ := hx.ent e (List.mem_of_getElem? he)
    have hst := entsT_step x.ents k e he
    have hlk := hlen k (by omega)
    rw [show x.node.toNat = nd by omega] at hlk
    have hlk2 := hline k e he
    refine W_skip ?_
    refine W_seq ?_
    refine W_block ?_
    refine W_rs ?_
    refine WR_a 1 rfl <| WR_v (y_ix (k * 3) rfl) rfl <| WR_v (y_loadPinAgg rfl (fok.tk.get rfl) rfl (ents_drop x.ents k e he) rfl) rfl <| WR_a 2 rfl <| WR_loud0 (l_store rfl (fok.tk.get rfl) rfl rfl rfl rfl rfl (Nat.le_of_ble_eq_true rfl)) rfl rfl <| WR_k [1, 3, 4, 5, 15, 16, 17] rfl ?_
    refine W_sto (σ' := bst 1 true (lineL [[116, 97, 98, 108, 101], Lib.decDigits nd] ++ entsT x.ents k) ++ [some (.cells 40 (entP e))]) rfl ?_
    refine W_sealPtr 5 2 0 rfl rfl ?_
    refine W_ren [0, 1] (.cons 1 rfl Ren.pure <| .cons 3 rfl (Ren.ptr (i := 0) rfl) <| .cons 4 rfl Ren.pure <| .cons 5 rfl Ren.pure <| .cons 15 rfl Ren.pure <| .cons 16 rfl Ren.pure <| .cons 17 rfl Ren.pure <| .nil) (.kept rfl (.cells (RenL.cons (Ren.ptr (i := 0) rfl) <| RenL.cons (Ren.own (i := 1) rfl) RenL.nil)) <| .kept rfl (.row RenL.pure) <| .nil) rfl rfl ?_
    refine W_seq ?_
    refine W_cs (.a 1 rfl <| .v (y_ld rfl (rfl)) rfl <| .a 2 rfl <| .k [1, 3, 4, 5, 15, 16, 17, 25] rfl) ?_
    refine W_cond rfl (fun hc => ?_) (fun hc => ?_)
    · have harc : e.arcs = [] := List.eq_nil_of_length_eq_zero (by have := of_decide_eq_true hc; omega)
      rw [show entT k e = [] by unfold entT; rw [if_pos harc], List.append_nil] at hst
      refine W_exit ?_
      refine W_chain (.v (y_ar rfl) rfl <| .a 1 rfl <| .k [1, 3, 15, 16, 17] rfl) ?_
      refine ⟨x.ents.length - (k + 1), by omega, k + 1, by omega, rfl, ?_⟩
      rw [hst]
      first
        | rfl
        | (rw [← List.append_assoc]; rfl)
    · have harc : e.arcs ≠ [] := fun h => by have := of_decide_eq_false hc; rw [h] at this; exact this rfl
      rw [show entT k e = lineL ([[116, 111], Lib.decDigits k, [111, 118, 101, 114]] ++ numsT e.arcs) by unfold entT; rw [if_neg harc]] at hst
      have hnl : (numsT e.arcs).length = e.arcs.length := by simp [numsT]
      refine W_skip ?_
      refine W_ordersTo ([(1, .pin (tabP x) 0), (3, .ptr 0 0), (5, .pin (entP e) 0), (6, .own 3), (15, entsV x.ents), (16, num x.ents.length), (17, num k)]) ([some (.cells 68 [.ptr 0 0, .own 1]), some (.row 5 1 (lineL [[116, 97, 98, 108, 101], Lib.decDigits nd] ++ entsT x.ents k).length (bytesP (lineL [[116, 97, 98, 108, 101], Lib.decDigits nd] ++ entsT x.ents k))), none, some (.row 9 1 (3 + (numsT e.arcs).length) (strsP ([[116, 111], Lib.decDigits k, [111, 118, 101, 114]] ++ numsT e.arcs)))]) mixed ?_ ?_
      · refine WA_step 0 [3] (by kernel_rfl) ?_
        refine WAs_cons rfl rfl (WR_v (y_a rfl) rfl (WR_nil ?_)) ?_
        · refine WA_step 1 [3] (by kernel_rfl) ?_
          refine WAs_cons rfl rfl (WR_v (y_c rfl (itoa_small k (by omega))) rfl (WR_nil ?_)) ?_
          · refine WA_step 2 [3] (by kernel_rfl) ?_
            refine WAs_cons rfl rfl (WR_l (l_buildSlice (xs := [_, _, _]) rfl (fok.sl.get rfl) ⟨Nat.le_of_ble_eq_true rfl, Nat.le_of_ble_eq_true rfl⟩ rfl rfl) rfl (WR_nil ?_)) ?_
            · refine WA_step 3 [] (by kernel_rfl) ?_
              refine WAs_cons rfl rfl (WR_v (y_a rfl) rfl (WR_nil ?_)) WAs_nil
              refine WA_step 4 [] (by kernel_rfl) ?_
              refine WAs_cons rfl rfl (WR_v (y_ld rfl (rfl)) rfl (WR_nil ?_)) WAs_nil
              refine WA_step 5 [] (by kernel_rfl) ?_
              refine WAs_cons rfl rfl (WR_v (y_c rfl (numbers_small e.arcs (by omega) has)) rfl (WR_nil ?_)) WAs_nil
              refine WA_step 6 [] (by kernel_rfl) ?_
              refine WAs_cons rfl rfl (WR_l (l_append rfl (fok.rk.get rfl) rfl rfl rfl (by simp [strsP]) ⟨by unfold maxLen; omega, by omega⟩) rfl (WR_nil ?_)) WAs_nil
              refine WA_step 7 [] (by kernel_rfl) ?_
              refine WAs_cons rfl rfl (WR_v (y_a rfl) rfl (WR_nil ?_)) WAs_nil
              exact WA_nil (by kernel_rfl) ⟨rfl, keepT_sub (ks := [1, 3, 5, 6, 15, 16, 17]) rfl⟩
            refine WAs_cons rfl rfl (WR_v (y_a rfl) rfl (WR_nil ?_)) WAs_nil
            refine WA_step 2 [4] (by kernel_rfl) ?_
            refine WAs_cons rfl rfl (WR_l (l_buildSlice (xs := [_, _, _]) rfl (fok.sl.get rfl) ⟨Nat.le_of_ble_eq_true rfl, Nat.le_of_ble_eq_true rfl⟩ rfl rfl) rfl (WR_nil ?_)) ?_
            · refine WA_step 4 [] (by kernel_rfl) ?_
              refine WAs_cons rfl rfl (WR_v (y_ld rfl (rfl)) rfl (WR_nil ?_)) WAs_nil
              refine WA_step 5 [] (by kernel_rfl) ?_
              refine WAs_cons rfl rfl (WR_v (y_c rfl (numbers_small e.arcs (by omega) has)) rfl (WR_nil ?_)) WAs_nil
              refine WA_step 6 [] (by kernel_rfl) ?_
              refine WAs_cons rfl rfl (WR_l (l_append rfl (fok.rk.get rfl) rfl rfl rfl (by simp [strsP]) ⟨by unfold maxLen; omega, by omega⟩) rfl (WR_nil ?_)) WAs_nil
              refine WA_step 7 [] (by kernel_rfl) ?_
              refine WAs_cons rfl rfl (WR_v (y_a rfl) rfl (WR_nil ?_)) WAs_nil
              exact WA_nil (by kernel_rfl) ⟨rfl, keepT_sub (ks := [1, 3, 5, 6, 15, 16, 17]) rfl⟩
            refine WAs_cons rfl rfl (WR_v (y_ld rfl (rfl)) rfl (WR_nil ?_)) WAs_nil
            refine WA_step 2 [5] (by kernel_rfl) ?_
            refine WAs_cons rfl rfl (WR_l (l_buildSlice (xs := [_, _, _]) rfl (fok.sl.get rfl) ⟨Nat.le_of_ble_eq_true rfl, Nat.le_of_ble_eq_true rfl⟩ rfl rfl) rfl (WR_nil ?_)) ?_
            · refine WA_step 5 [] (by kernel_rfl) ?_
              refine WAs_cons rfl rfl (WR_v (y_c rfl (numbers_small e.arcs (by omega) has)) rfl (WR_nil ?_)) WAs_nil
              refine WA_step 6 [] (by kernel_rfl) ?_
              refine WAs_cons rfl rfl (WR_l (l_append rfl (fok.rk.get rfl) rfl rfl rfl (by simp [strsP]) ⟨by unfold maxLen; omega, by omega⟩) rfl (WR_nil ?_)) WAs_nil
              refine WA_step 7 [] (by kernel_rfl) ?_
              refine WAs_cons rfl rfl (WR_v (y_a rfl) rfl (WR_nil ?_)) WAs_nil
              exact WA_nil (by kernel_rfl) ⟨rfl, keepT_sub (ks := [1, 3, 5, 6, 15, 16, 17]) rfl⟩
            refine WAs_cons rfl rfl (WR_v (y_c rfl (numbers_small e.arcs (by omega) has)) rfl (WR_nil ?_)) WAs_nil
            refine WA_step 2 [] (by kernel_rfl) ?_
            refine WAs_cons rfl rfl (WR_l (l_buildSlice (xs := [_, _, _]) rfl (fok.sl.get rfl) ⟨Nat.le_of_ble_eq_true rfl, Nat.le_of_ble_eq_true rfl⟩ rfl rfl) rfl (WR_nil ?_)) WAs_nil
            refine WA_step 6 [] (by kernel_rfl) ?_
            refine WAs_cons rfl rfl (WR_l (l_append rfl (fok.rk.get rfl) rfl rfl rfl (by simp [strsP]) ⟨by unfold maxLen; omega, by omega⟩) rfl (WR_nil ?_)) WAs_nil
            refine WA_step 7 [] (by kernel_rfl) ?_
            refine WAs_cons rfl rfl (WR_v (y_a rfl) rfl (WR_nil ?_)) WAs_nil
            exact WA_nil (by kernel_rfl) ⟨rfl, keepT_sub (ks := [1, 3, 5, 6, 15, 16, 17]) rfl⟩
          refine WAs_cons rfl rfl (WR_v (y_a rfl) rfl (WR_nil ?_)) WAs_nil
          refine WA_step 1 [4] (by kernel_rfl) ?_
          refine WAs_cons rfl rfl (WR_v (y_c rfl (itoa_small k (by omega))) rfl (WR_nil ?_)) ?_
          · refine WA_step 2 [4] (by kernel_rfl) ?_
            refine WAs_cons rfl rfl (WR_l (l_buildSlice (xs := [_, _, _]) rfl (fok.sl.get rfl) ⟨Nat.le_of_ble_eq_true rfl, Nat.le_of_ble_eq_true rfl⟩ rfl rfl) rfl (WR_nil ?_)) ?_
            · refine WA_step 4 [] (by kernel_rfl) ?_
              refine WAs_cons rfl rfl (WR_v (y_ld rfl (rfl)) rfl (WR_nil ?_)) WAs_nil
              refine WA_step 5 [] (by kernel_rfl) ?_
              refine WAs_cons rfl rfl (WR_v (y_c rfl (numbers_small e.arcs (by omega) has)) rfl (WR_nil ?_)) WAs_nil
              refine WA_step 6 [] (by kernel_rfl) ?_
              refine WAs_cons rfl rfl (WR_l (l_append rfl (fok.rk.get rfl) rfl rfl rfl (by simp [strsP]) ⟨by unfold maxLen; omega, by omega⟩) rfl (WR_nil ?_)) WAs_nil
              refine WA_step 7 [] (by kernel_rfl) ?_
              refine WAs_cons rfl rfl (WR_v (y_a rfl) rfl (WR_nil ?_)) WAs_nil
              exact WA_nil (by kernel_rfl) ⟨rfl, keepT_sub (ks := [1, 3, 5, 6, 15, 16, 17]) rfl⟩
            refine WAs_cons rfl rfl (WR_v (y_ld rfl (rfl)) rfl (WR_nil ?_)) WAs_nil
            refine WA_step 2 [5] (by kernel_rfl) ?_
            refine WAs_cons rfl rfl (WR_l (l_buildSlice (xs := [_, _, _]) rfl (fok.sl.get rfl) ⟨Nat.le_of_ble_eq_true rfl, Nat.le_of_ble_eq_true rfl⟩ rfl rfl) rfl (WR_nil ?_)) ?_
            · refine WA_step 5 [] (by kernel_rfl) ?_
              refine WAs_cons rfl rfl (WR_v (y_c rfl (numbers_small e.arcs (by omega) has)) rfl (WR_nil ?_)) WAs_nil
              refine WA_step 6 [] (by kernel_rfl) ?_
              refine WAs_cons rfl rfl (WR_l (l_append rfl (fok.rk.get rfl) rfl rfl rfl (by simp [strsP]) ⟨by unfold maxLen; omega, by omega⟩) rfl (WR_nil ?_)) WAs_nil
              refine WA_step 7 [] (by kernel_rfl) ?_
              refine WAs_cons rfl rfl (WR_v (y_a rfl) rfl (WR_nil ?_)) WAs_nil
              exact WA_nil (by kernel_rfl) ⟨rfl, keepT_sub (ks := [1, 3, 5, 6, 15, 16, 17]) rfl⟩
            refine WAs_cons rfl rfl (WR_v (y_c rfl (numbers_small e.arcs (by omega) has)) rfl (WR_nil ?_)) WAs_nil
            refine WA_step 2 [] (by kernel_rfl) ?_
            refine WAs_cons rfl rfl (WR_l (l_buildSlice (xs := [_, _, _]) rfl (fok.sl.get rfl) ⟨Nat.le_of_ble_eq_true rfl, Nat.le_of_ble_eq_true rfl⟩ rfl rfl) rfl (WR_nil ?_)) WAs_nil
            refine WA_step 6 [] (by kernel_rfl) ?_
            refine WAs_cons rfl rfl (WR_l (l_append rfl (fok.rk.get rfl) rfl rfl rfl (by simp [strsP]) ⟨by unfold maxLen; omega, by omega⟩) rfl (WR_nil ?_)) WAs_nil
            refine WA_step 7 [] (by kernel_rfl) ?_
            refine WAs_cons rfl rfl (WR_v (y_a rfl) rfl (WR_nil ?_)) WAs_nil
            exact WA_nil (by kernel_rfl) ⟨rfl, keepT_sub (ks := [1, 3, 5, 6, 15, 16, 17]) rfl⟩
          refine WAs_cons rfl rfl (WR_v (y_ld rfl (rfl)) rfl (WR_nil ?_)) WAs_nil
          refine WA_step 1 [] (by kernel_rfl) ?_
          refine WAs_cons rfl rfl (WR_v (y_c rfl (itoa_small k (by omega))) rfl (WR_nil ?_)) WAs_nil
          refine WA_step 2 [5] (by kernel_rfl) ?_
          refine WAs_cons rfl rfl (WR_l (l_buildSlice (xs := [_, _, _]) rfl (fok.sl.get rfl) ⟨Nat.le_of_ble_eq_true rfl, Nat.le_of_ble_eq_true rfl⟩ rfl rfl) rfl (WR_nil ?_)) ?_
          · refine WA_step 5 [] (by kernel_rfl) ?_
            refine WAs_cons rfl rfl (WR_v (y_c rfl (numbers_small e.arcs (by omega) has)) rfl (WR_nil ?_)) WAs_nil
            refine WA_step 6 [] (by kernel_rfl) ?_
            refine WAs_cons rfl rfl (WR_l (l_append rfl (fok.rk.get rfl) rfl rfl rfl (by simp [strsP]) ⟨by unfold maxLen; omega, by omega⟩) rfl (WR_nil ?_)) WAs_nil
            refine WA_step 7 [] (by kernel_rfl) ?_
            refine WAs_cons rfl rfl (WR_v (y_a rfl) rfl (WR_nil ?_)) WAs_nil
            exact WA_nil (by kernel_rfl) ⟨rfl, keepT_sub (ks := [1, 3, 5, 6, 15, 16, 17]) rfl⟩
          refine WAs_cons rfl rfl (WR_v (y_c rfl (numbers_small e.arcs (by omega) has)) rfl (WR_nil ?_)) WAs_nil
          refine WA_step 2 [] (by kernel_rfl) ?_
          refine WAs_cons rfl rfl (WR_l (l_buildSlice (xs := [_, _, _]) rfl (fok.sl.get rfl) ⟨Nat.le_of_ble_eq_true rfl, Nat.le_of_ble_eq_true rfl⟩ rfl rfl) rfl (WR_nil ?_)) WAs_nil
          refine WA_step 6 [] (by kernel_rfl) ?_
          refine WAs_cons rfl rfl (WR_l (l_append rfl (fok.rk.get rfl) rfl rfl rfl (by simp [strsP]) ⟨by unfold maxLen; omega, by omega⟩) rfl (WR_nil ?_)) WAs_nil
          refine WA_step 7 [] (by kernel_rfl) ?_
          refine WAs_cons rfl rfl (WR_v (y_a rfl) rfl (WR_nil ?_)) WAs_nil
          exact WA_nil (by kernel_rfl) ⟨rfl, keepT_sub (ks := [1, 3, 5, 6, 15, 16, 17]) rfl⟩
        refine WAs_cons rfl rfl (WR_v (y_a rfl) rfl (WR_nil ?_)) WAs_nil
        refine WA_step 0 [4] (by kernel_rfl) ?_
        refine WAs_cons rfl rfl (WR_v (y_a rfl) rfl (WR_nil ?_)) ?_
        · refine WA_step 1 [4] (by kernel_rfl) ?_
          refine WAs_cons rfl rfl (WR_v (y_c rfl (itoa_small k (by omega))) rfl (WR_nil ?_)) ?_
          · refine WA_step 2 [4] (by kernel_rfl) ?_
            refine WAs_cons rfl rfl (WR_l (l_buildSlice (xs := [_, _, _]) rfl (fok.sl.get rfl) ⟨Nat.le_of_ble_eq_true rfl, Nat.le_of_ble_eq_true rfl⟩ rfl rfl) rfl (WR_nil ?_)) ?_
            · refine WA_step 4 [] (by kernel_rfl) ?_
              refine WAs_cons rfl rfl (WR_v (y_ld rfl (rfl)) rfl (WR_nil ?_)) WAs_nil
              refine WA_step 5 [] (by kernel_rfl) ?_
              refine WAs_cons rfl rfl (WR_v (y_c rfl (numbers_small e.arcs (by omega) has)) rfl (WR_nil ?_)) WAs_nil
              refine WA_step 6 [] (by kernel_rfl) ?_
              refine WAs_cons rfl rfl (WR_l (l_append rfl (fok.rk.get rfl) rfl rfl rfl (by simp [strsP]) ⟨by unfold maxLen; omega, by omega⟩) rfl (WR_nil ?_)) WAs_nil
              refine WA_step 7 [] (by kernel_rfl) ?_
              refine WAs_cons rfl rfl (WR_v (y_a rfl) rfl (WR_nil ?_)) WAs_nil
              exact WA_nil (by kernel_rfl) ⟨rfl, keepT_sub (ks := [1, 3, 5, 6, 15, 16, 17]) rfl⟩
            refine WAs_cons rfl rfl (WR_v (y_ld rfl (rfl)) rfl (WR_nil ?_)) WAs_nil
            refine WA_step 2 [5] (by kernel_rfl) ?_
            refine WAs_cons rfl rfl (WR_l (l_buildSlice (xs := [_, _, _]) rfl (fok.sl.get rfl) ⟨Nat.le_of_ble_eq_true rfl, Nat.le_of_ble_eq_true rfl⟩ rfl rfl) rfl (WR_nil ?_)) ?_
            · refine WA_step 5 [] (by kernel_rfl) ?_
              refine WAs_cons rfl rfl (WR_v (y_c rfl (numbers_small e.arcs (by omega) has)) rfl (WR_nil ?_)) WAs_nil
              refine WA_step 6 [] (by kernel_rfl) ?_
              refine WAs_cons rfl rfl (WR_l (l_append rfl (fok.rk.get rfl) rfl rfl rfl (by simp [strsP]) ⟨by unfold maxLen; omega, by omega⟩) rfl (WR_nil ?_)) WAs_nil
              refine WA_step 7 [] (by kernel_rfl) ?_
              refine WAs_cons rfl rfl (WR_v (y_a rfl) rfl (WR_nil ?_)) WAs_nil
              exact WA_nil (by kernel_rfl) ⟨rfl, keepT_sub (ks := [1, 3, 5, 6, 15, 16, 17]) rfl⟩
            refine WAs_cons rfl rfl (WR_v (y_c rfl (numbers_small e.arcs (by omega) has)) rfl (WR_nil ?_)) WAs_nil
            refine WA_step 2 [] (by kernel_rfl) ?_
            refine WAs_cons rfl rfl (WR_l (l_buildSlice (xs := [_, _, _]) rfl (fok.sl.get rfl) ⟨Nat.le_of_ble_eq_true rfl, Nat.le_of_ble_eq_true rfl⟩ rfl rfl) rfl (WR_nil ?_)) WAs_nil
            refine WA_step 6 [] (by kernel_rfl) ?_
            refine WAs_cons rfl rfl (WR_l (l_append rfl (fok.rk.get rfl) rfl rfl rfl (by simp [strsP]) ⟨by unfold maxLen; omega, by omega⟩) rfl (WR_nil ?_)) WAs_nil
            refine WA_step 7 [] (by kernel_rfl) ?_
            refine WAs_cons rfl rfl (WR_v (y_a rfl) rfl (WR_nil ?_)) WAs_nil
            exact WA_nil (by kernel_rfl) ⟨rfl, keepT_sub (ks := [1, 3, 5, 6, 15, 16, 17]) rfl⟩
          refine WAs_cons rfl rfl (WR_v (y_ld rfl (rfl)) rfl (WR_nil ?_)) WAs_nil
          refine WA_step 1 [] (by kernel_rfl) ?_
          refine WAs_cons rfl rfl (WR_v (y_c rfl (itoa_small k (by omega))) rfl (WR_nil ?_)) WAs_nil
          refine WA_step 2 [5] (by kernel_rfl) ?_
          refine WAs_cons rfl rfl (WR_l (l_buildSlice (xs := [_, _, _]) rfl (fok.sl.get rfl) ⟨Nat.le_of_ble_eq_true rfl, Nat.le_of_ble_eq_true rfl⟩ rfl rfl) rfl (WR_nil ?_)) ?_
          · refine WA_step 5 [] (by kernel_rfl) ?_
            refine WAs_cons rfl rfl (WR_v (y_c rfl (numbers_small e.arcs (by omega) has)) rfl (WR_nil ?_)) WAs_nil
            refine WA_step 6 [] (by kernel_rfl) ?_
            refine WAs_cons rfl rfl (WR_l (l_append rfl (fok.rk.get rfl) rfl rfl rfl (by simp [strsP]) ⟨by unfold maxLen; omega, by omega⟩) rfl (WR_nil ?_)) WAs_nil
            refine WA_step 7 [] (by kernel_rfl) ?_
            refine WAs_cons rfl rfl (WR_v (y_a rfl) rfl (WR_nil ?_)) WAs_nil
            exact WA_nil (by kernel_rfl) ⟨rfl, keepT_sub (ks := [1, 3, 5, 6, 15, 16, 17]) rfl⟩
          refine WAs_cons rfl rfl (WR_v (y_c rfl (numbers_small e.arcs (by omega) has)) rfl (WR_nil ?_)) WAs_nil
          refine WA_step 2 [] (by kernel_rfl) ?_
          refine WAs_cons rfl rfl (WR_l (l_buildSlice (xs := [_, _, _]) rfl (fok.sl.get rfl) ⟨Nat.le_of_ble_eq_true rfl, Nat.le_of_ble_eq_true rfl⟩ rfl rfl) rfl (WR_nil ?_)) WAs_nil
          refine WA_step 6 [] (by kernel_rfl) ?_
          refine WAs_cons rfl rfl (WR_l (l_append rfl (fok.rk.get rfl) rfl rfl rfl (by simp [strsP]) ⟨by unfold maxLen; omega, by omega⟩) rfl (WR_nil ?_)) WAs_nil
          refine WA_step 7 [] (by kernel_rfl) ?_
          refine WAs_cons rfl rfl (WR_v (y_a rfl) rfl (WR_nil ?_)) WAs_nil
          exact WA_nil (by kernel_rfl) ⟨rfl, keepT_sub (ks := [1, 3, 5, 6, 15, 16, 17]) rfl⟩
        refine WAs_cons rfl rfl (WR_v (y_ld rfl (rfl)) rfl (WR_nil ?_)) WAs_nil
        refine WA_step 0 [] (by kernel_rfl) ?_
        refine WAs_cons rfl rfl (WR_v (y_a rfl) rfl (WR_nil ?_)) WAs_nil
        refine WA_step 1 [] (by kernel_rfl) ?_
        refine WAs_cons rfl rfl (WR_v (y_c rfl (itoa_small k (by omega))) rfl (WR_nil ?_)) WAs_nil
        refine WA_step 2 [5] (by kernel_rfl) ?_
        refine WAs_cons rfl rfl (WR_l (l_buildSlice (xs := [_, _, _]) rfl (fok.sl.get rfl) ⟨Nat.le_of_ble_eq_true rfl, Nat.le_of_ble_eq_true rfl⟩ rfl rfl) rfl (WR_nil ?_)) ?_
        · refine WA_step 5 [] (by kernel_rfl) ?_
          refine WAs_cons rfl rfl (WR_v (y_c rfl (numbers_small e.arcs (by omega) has)) rfl (WR_nil ?_)) WAs_nil
          refine WA_step 6 [] (by kernel_rfl) ?_
          refine WAs_cons rfl rfl (WR_l (l_append rfl (fok.rk.get rfl) rfl rfl rfl (by simp [strsP]) ⟨by unfold maxLen; omega, by omega⟩) rfl (WR_nil ?_)) WAs_nil
          refine WA_step 7 [] (by kernel_rfl) ?_
          refine WAs_cons rfl rfl (WR_v (y_a rfl) rfl (WR_nil ?_)) WAs_nil
          exact WA_nil (by kernel_rfl) ⟨rfl, keepT_sub (ks := [1, 3, 5, 6, 15, 16, 17]) rfl⟩
        refine WAs_cons rfl rfl (WR_v (y_c rfl (numbers_small e.arcs (by omega) has)) rfl (WR_nil ?_)) WAs_nil
        refine WA_step 2 [] (by kernel_rfl) ?_
        refine WAs_cons rfl rfl (WR_l (l_buildSlice (xs := [_, _, _]) rfl (fok.sl.get rfl) ⟨Nat.le_of_ble_eq_true rfl, Nat.le_of_ble_eq_true rfl⟩ rfl rfl) rfl (WR_nil ?_)) WAs_nil
        refine WA_step 6 [] (by kernel_rfl) ?_
        refine WAs_cons rfl rfl (WR_l (l_append rfl (fok.rk.get rfl) rfl rfl rfl (by simp [strsP]) ⟨by unfold maxLen; omega, by omega⟩) rfl (WR_nil ?_)) WAs_nil
        refine WA_step 7 [] (by kernel_rfl) ?_
        refine WAs_cons rfl rfl (WR_v (y_a rfl) rfl (WR_nil ?_)) WAs_nil
        exact WA_nil (by kernel_rfl) ⟨rfl, keepT_sub (ks := [1, 3, 5, 6, 15, 16, 17]) rfl⟩
      refine W_seal 6 3 rfl rfl ?_
      rw [show 3 + (numsT e.arcs).length = ([[116, 111], Lib.decDigits k, [111, 118, 101, 114]] ++ numsT e.arcs).length by simp; omega]
      refine W_ren [0, 1] (.cons 1 rfl Ren.pure <| .cons 3 rfl (Ren.ptr (i := 0) rfl) <| .cons 5 rfl Ren.pure <| .cons 6 rfl Ren.pure <| .cons 15 rfl Ren.pure <| .cons 16 rfl Ren.pure <| .cons 17 rfl Ren.pure <| .nil) (.kept rfl (.cells (RenL.cons (Ren.ptr (i := 0) rfl) <| RenL.cons (Ren.own (i := 1) rfl) RenL.nil)) <| .kept rfl (.row RenL.pure) <| .nil) rfl rfl ?_
      refine W_sto (σ' := bst 1 true (lineL [[116, 97, 98, 108, 101], Lib.decDigits nd] ++ entsT x.ents k)) rfl ?_
      refine W_seq ?_
      refine W_cs (.a 1 rfl <| .v (y_ld rfl ((show some (flag e.rep) = some (flag false) by rw [hrep]))) rfl <| .k [1, 3, 5, 6, 15, 16, 17, 34] rfl) ?_
      refine W_cond rfl (fun hc => ?_) (fun hc => ?_)
      · cases hc
      · refine W_skip ?_
        refine W_region ?_
        refine WR_a 1 rfl <| WR_cS rfl rfl (CanS.mono (line_can true (lineL [[116, 97, 98, 108, 101], Lib.decDigits nd] ++ entsT x.ents k) ([[116, 111], Lib.decDigits k, [111, 118, 101, 114]] ++ numsT e.arcs) (by simp [hnl]; omega) (by simp only [List.length_append] at *; omega)) (fun _ σ' h => ?_))
        subst h
        refine WR_k [1, 3, 15, 16, 17] rfl ?_
        refine W_bnorm (.cons 1 rfl Ren.pure <| .cons 3 rfl (Ren.ptr (i := 0) rfl) <| .cons 15 rfl Ren.pure <| .cons 16 rfl Ren.pure <| .cons 17 rfl Ren.pure <| .nil) ?_
        refine W_chain (.v (y_ar rfl) rfl <| .a 1 rfl <| .k [1, 3, 15, 16, 17] rfl) ?_
        refine ⟨x.ents.length - (k + 1), by omega, k + 1, by omega, rfl, ?_⟩
        rw [hst]
        first
          | rfl
          | (rw [← List.append_assoc]; rfl)
  · have hke : k = x.ents.length := by have := of_decide_eq_false hc; omega
    refine W_exit ?_
    refine W_seq ?_
    refine W_cs (.a 1 rfl <| .v (y_ld rfl (rfl)) rfl <| .a 2 rfl <| .k [1, 3, 57] rfl) ?_
    refine W_cond rfl (fun hc => ?_) (fun hc => ?_)
    · have hdn : x.down ≠ [] := fun h => by have := of_decide_eq_true hc; rw [h] at this; simp at this
      have hdt : downT x.down = lineL ([100, 111, 119, 110] :: numsT x.down) := by unfold downT; rw [if_neg hdn]
      have hnl : (numsT x.down).length = x.down.length := by simp [numsT]
      have hd1 := hx.down.1
      have hlk := hlen k (by omega)
      rw [show x.node.toNat = nd by omega] at hlk
      have h1n : 1 + (numsT x.down).length = ([100, 111, 119, 110] :: numsT x.down).length := by simp; omega
      refine W_region ?_
      refine WR_l (l_buildSlice (xs := [_]) rfl (fok.sl.get rfl) ⟨Nat.le_of_ble_eq_true rfl, Nat.le_of_ble_eq_true rfl⟩ rfl rfl) rfl <| WR_a 1 rfl <| WR_v (y_ld rfl (rfl)) rfl <| WR_c rfl (numbers_small x.down (by omega) hx.down.2) rfl <| WR_l (l_append rfl (fok.rk.get rfl) rfl rfl rfl (by simp [strsP]) ⟨by unfold maxLen; omega, by omega⟩) rfl ?_
      (refine WR_seal 62 3 rfl rfl ?_; rw [h1n]; refine WR_ren [0, 1] (.cons 3 rfl (Ren.ptr (i := 0) rfl) <| .cons 62 rfl (Ren.pure (p := strsV ([100, 111, 119, 110] :: numsT x.down))) <| .nil) (.kept rfl (.cells (RenL.cons (Ren.ptr (i := 0) rfl) <| RenL.cons (Ren.own (i := 1) rfl) RenL.nil)) <| .kept rfl (.row RenL.pure) <| .nil) rfl rfl ?_)
      refine WR_cS rfl rfl (CanS.mono (line_can true (lineL [[116, 97, 98, 108, 101], Lib.decDigits nd] ++ entsT x.ents k) ([100, 111, 119, 110] :: numsT x.down) (by simp [hnl]; omega) (by simp only [List.length_append] at *; omega)) (fun _ σ' h => ?_))
      subst h
      refine WR_k [3] rfl ?_
      refine W_bnorm (.cons 3 rfl (Ren.ptr (i := 0) rfl) <| .nil) ?_
      refine W_rs ?_
      refine WR_cS rfl rfl (CanS.mono (bstring true _ (by simp [lineL]; omega)) (fun _ σ' h => ?_))
      subst h
      refine WR_a 1 rfl <| WR_k [2] rfl ?_
      refine W_ret ?_
      refine ⟨_, _, ResL.of rfl, Pur.pure, ?_⟩
      unfold textS
      rw [hdt, show x.node.toNat = nd by omega, ← hke]
      first
        | rfl
        | (rw [List.append_nil]; rfl)
    · have hdn : x.down = [] := List.eq_nil_of_length_eq_zero (by have := of_decide_eq_false hc; omega)
      have hdt : downT x.down = [] := by unfold downT; rw [if_pos hdn]
      refine W_skip ?_
      refine W_rs ?_
      refine WR_cS rfl rfl (CanS.mono (bstring true _ (by simp [lineL]; omega)) (fun _ σ' h => ?_))
      subst h
      refine WR_a 1 rfl <| WR_k [2] rfl ?_
      refine W_ret ?_
      refine ⟨_, _, ResL.of rfl, Pur.pure, ?_⟩
      unfold textS
      rw [hdt, show x.node.toNat = nd by omega, ← hke]
      first
        | rfl
        | (rw [List.append_nil]; rfl)
end PW
end Go.Proofs.YtkaalpdfppbdeaaDoor

/- The example of the laws on tables: a ring of four nodes: its routes and their text. No program in sight. -/
namespace Go.Proofs.YtkaalpdfppbdeaaDoor
set_option linter.unusedVariables false
set_option linter.unusedSimpArgs false
namespace PW
open Net

def ringL (k : Nat) : List Lnk := (List.range k).map fun (i : Nat) => ⟨(i : Int), (((i + 1) % 4 : Nat) : Int), 1, 1, 0, 1, 0⟩
def ringT : Topo := ⟨4, [], ringL 4⟩
def ringD (d : Nat) : List Int := match d with
  | 0 => [0, 1, 2, 1]
  | 1 => [1, 0, 1, 2]
  | 2 => [2, 1, 0, 1]
  | _ => [1, 2, 1, 0]
theorem ring_valid : validB ringT = true := by kernel_rfl
theorem ring_fits : fitsB ringT [] = true := by kernel_rfl
def wayB (T : Topo) (n : Nat) (out : List Int) (a : Nat) : Bool := decide (0 ≤ at' out (arcY T false a)) && (decide (arcY T false a = (n : Int)) || !overN T (arcY T false a).toNat)
def distB (n : Nat) (out : List Int) : Bool :=
  decide (out.length = 4) && decide (at' out (n : Int) = 0) && (List.range 4).all (fun x => decide (0 ≤ at' out (x : Int))) &&
  (List.range 8).all (fun a => !wayB ringT n out a || (decide (0 ≤ at' out (arcX ringT false a)) && decide (at' out (arcX ringT false a) ≤ at' out (arcY ringT false a) + costN ringT a))) &&
  (List.range 4).all (fun x => decide (x = n) || (List.range 8).any fun a => decide (arcX ringT false a = (x : Int)) && wayB ringT n out a && decide (at' out (x : Int) = at' out (arcY ringT false a) + costN ringT a))
theorem way_iff (n : Nat) (out : List Int) (a : Nat) : Net.Way ringT [] n false out a ↔ wayB ringT n out a = true := by
  unfold Net.Way wayB
  have : downN [] a = false := by simp [downN]
  simp [this]
theorem dist_of {n : Nat} {out : List Int} (h : distB n out = true) : IsDist ringT [] n false out := by
  simp only [distB, Bool.and_eq_true, decide_eq_true_eq, List.all_eq_true, List.mem_range, Bool.or_eq_true, Bool.not_eq_true', List.any_eq_true] at h
  obtain ⟨⟨⟨⟨h1, h2⟩, h3⟩, h4⟩, h5⟩ := h
  refine ⟨by rw [h1]; rfl, h2, fun x hx => ?_, fun a ha hw => ?_, fun x hx _ => ?_⟩
  · have := h3 x (by have : ringT.nodes = 4 := rfl; omega); omega
  · rcases h4 a (by have : ringT.links.length = 4 := rfl; omega) with h | h
    · rw [(way_iff n out a).1 hw] at h; cases h
    · exact h
  · rcases h5 x (by have : ringT.nodes = 4 := rfl; omega) with h | ⟨a, ha, ⟨h6, h7⟩, h8⟩
    · exact .inl h
    · exact .inr ⟨a, by have : ringT.links.length = 4 := rfl; omega, h6, (way_iff n out a).2 h7, h8⟩
theorem ring_dist (d : Nat) (hd : d < 4) : distL ringT [] d false = ringD d := by
  refine distL_eq (sound_of ring_valid) (dist_of ?_)
  match d, hd with
  | 0, _ => exact (show distB 0 (ringD 0) = true by kernel_rfl)
  | 1, _ => exact (show distB 1 (ringD 1) = true by kernel_rfl)
  | 2, _ => exact (show distB 2 (ringD 2) = true by kernel_rfl)
  | 3, _ => exact (show distB 3 (ringD 3) = true by kernel_rfl)
def ringN (d : Nat) : List Int := if 0 = d ∨ (ringD d).getD 0 0 < 0 then [] else passL ringT [] (ringD d) ((ringD d).getD 0 0) d (outL ringT ((0 : Nat) : Int))
def ringTab : Tab := ⟨0, [⟨[], false, []⟩, ⟨[0], false, []⟩, ⟨[0, 7], false, []⟩, ⟨[7], false, []⟩], []⟩
theorem ring_next (d : Nat) (hd : d < 4) : nextL ringT [] 0 d = ((ringTab.ents.getD d ⟨[], false, []⟩).arcs) := by
  unfold nextL
  rw [ring_dist d hd]
  match d, hd with
  | 0, _ => exact (show ringN 0 = [] by kernel_rfl)
  | 1, _ => exact (show ringN 1 = [0] by kernel_rfl)
  | 2, _ => exact (show ringN 2 = [0, 7] by kernel_rfl)
  | 3, _ => exact (show ringN 3 = [7] by kernel_rfl)
theorem ring_routes : routesE ringT [] 0 = ringTab := by
  unfold routesE
  rw [if_pos (show chkE ringT [] [0] = 0 by kernel_rfl)]
  unfold routesT
  have h : toL ringT [] 0 4 = ringTab.ents := by
    unfold toL
    simp only [List.range, List.range.loop, List.map_cons, List.map_nil, ring_next 0 (by omega), ring_next 1 (by omega), ring_next 2 (by omega), ring_next 3 (by omega)]
    rfl
  show (⟨((0 : Nat) : Int), toL ringT [] 0 4, downL [] (outL ringT 0)⟩ : Tab) = ringTab
  rw [h]
  have h2 : downL [] (outL ringT 0) = [] := by kernel_rfl
  rw [h2]
  rfl
def ringBytes : List UInt8 := [116, 97, 98, 108, 101, 32, 48, 10, 116, 111, 32, 49, 32, 111, 118, 101, 114, 32, 48, 10, 116, 111, 32, 50, 32, 111, 118, 101, 114, 32, 48, 32, 55, 10, 116, 111, 32, 51, 32, 111, 118, 101, 114, 32, 55, 10]
theorem ring_text : textS ringTab = ringBytes := by kernel_rfl
end PW
end Go.Proofs.YtkaalpdfppbdeaaDoor

/- Package table: Routes. -/
namespace Go.Proofs.YtkaalpdfppbdeaaDoor
set_option linter.unusedVariables false
set_option linter.unusedSimpArgs false
namespace PW
open Go.RowKit Reg Mem Net

set_option maxRecDepth 10000 in
set_option maxHeartbeats 1000000 in
theorem routes_can (T : Topo) (D : List Bool) (n : Int) : Can Tryd.prog 11 [topoV T, boolsV D, num n] (· = .tuple [tabV (routesE T D n), num (chkE T D [n])]) := by
  refine can_of Tryd.func11 rfl Tryd.ntmps11 rfl ?_
  refine W_rs ?_
  refine WR_a 3 rfl <| WR_k [1, 2, 3, 6] rfl ?_
  refine W_seq ?_
  obtain ⟨q1, hq1⟩ : ∃ q, validB T = q := ⟨_, rfl⟩
  obtain ⟨q2, hq2⟩ : ∃ q, fitsB T D = q := ⟨_, rfl⟩
  refine W_csK 22 (.raw (.bool ((!q1) || (!q2)))) [1, 2, 3, 6] rfl ?_ ?_
  · refine .a 1 rfl <| .c rfl (hq1 ▸ valid_can T) rfl <| .a 2 rfl <| ?_
    cases q1
    · exact .a 5 rfl <| .k [22, 1, 2, 3, 6] rfl
    · exact .a 2 rfl <| .c rfl (hq2 ▸ fits_can T D (by have := links_le hq1; omega)) rfl <| .a 2 rfl <| .k [22, 1, 2, 3, 6] rfl
  refine W_cond rfl (fun hc => ?_) (fun hc => ?_)
  · have hch : chkE T D [n] = 1 := by
      unfold chkE
      rw [hq1, hq2, if_neg]
      revert hc
      cases q1 <;> cases q2 <;> simp
    refine W_rs ?_
    refine WR_a 3 rfl <| WR_k [6, 7] rfl ?_
    refine W_ret ?_
    exact ⟨_, _, ResL.of rfl, Pur.tupleL (PurL.cons (Pur.aggL (PurL.cons Pur.pure <| PurL.cons Pur.nils <| PurL.cons Pur.nils PurL.nil)) (PurL.cons Pur.pure PurL.nil)), by unfold routesE; rw [hch]; rfl⟩
  · have hok : (validB T && fitsB T D) = true := by
      rw [hq1, hq2]
      revert hc
      cases q1 <;> cases q2 <;> simp
    clear hc hq1 hq2
    refine W_skip ?_
    refine W_seq ?_
    refine W_cs (.a 2 rfl <| .c rfl (node_can T n) rfl <| .a 1 rfl <| .k [1, 2, 3, 6, 27] rfl) ?_
    refine W_cond rfl (fun hc => ?_) (fun hc => ?_)
    · have hn : nodeB T n = false := by revert hc; cases nodeB T n <;> simp
      have hch : chkE T D [n] = 2 := by
        unfold chkE
        rw [if_pos hok, if_neg]
        simp [hn]
      refine W_rs ?_
      refine WR_a 3 rfl <| WR_k [6, 7] rfl ?_
      refine W_ret ?_
      exact ⟨_, _, ResL.of rfl, Pur.tupleL (PurL.cons (Pur.aggL (PurL.cons Pur.pure <| PurL.cons Pur.nils <| PurL.cons Pur.nils PurL.nil)) (PurL.cons Pur.pure PurL.nil)), by unfold routesE; rw [hch]; rfl⟩
    · have hn : nodeB T n = true := by revert hc; cases nodeB T n <;> simp
      have hch : chkE T D [n] = 0 := by
        unfold chkE
        rw [if_pos hok, if_pos]
        simp [hn]
      obtain ⟨hv, hf⟩ := Bool.and_eq_true_iff.1 hok
      rw [nodeB_iff] at hn
      obtain ⟨m, rfl⟩ := Int.eq_ofNat_of_zero_le hn.1
      obtain ⟨N, hN⟩ : ∃ N : Nat, T.nodes = (N : Int) := ⟨T.nodes.toNat, by omega⟩
      have hN64 : N ≤ 64 := by have := (sound_of hv).nodes; omega
      have hll := links_le hv
      refine W_skip ?_
      refine W_rs ?_
      refine WR_a 4 rfl <| WR_k [1, 2, 3, 6, 8] rfl ?_
      refine W_adoptCell 1 1 40 3 rfl rfl ?_
      refine W_adoptCell 1 2 3 1 rfl rfl ?_
      refine W_seq ?_
      refine W_cs (.a 1 rfl <| .v (y_ld rfl ((show some (num T.nodes) = some (num (N : Int)) by rw [hN]))) rfl <| .a 1 rfl <| .k [1, 2, 3, 6, 8, 32, 33] rfl) ?_
      refine W_block ?_
      refine W_k [1, 2, 3, 6, 8, 32, 33] rfl ?_
      refine W_loop (fun r s => ∃ j, j ≤ N ∧ r = N - j ∧ s = ⟨[(1, boolsV D), (2, num m), (3, .pin (topoP T) 0), (6, .ptr 0 0), (8, .ptr 1 0), (32, num N), (33, num j)], [some (.cells 31 [num 0, .raw (.slice none 0 0), .raw (.slice none 0 0)]), some (.cells 31 [num m, .own 2, .own 3]), some (.row 40 3 j (entsP (toL T D m j))), some (.row 3 1 0 [])]⟩) N ⟨0, by omega, by omega, rfl⟩ ?_
      rintro r s ⟨j, hj, rfl, rfl⟩
      refine W_cs (.a 1 rfl <| .k [1, 2, 3, 6, 8, 32, 33, 34] rfl) ?_
      refine W_seq ?_
      refine W_cond rfl (fun hc => ?_) (fun hc => ?_)
      · have hlt : j < N := by have := of_decide_eq_true hc; omega
        have hne : nodeE T D (m : Int) (j : Int) = 0 := by
          have hnb : nodeB T (j : Int) = true := nodeB_iff.2 ⟨by omega, by omega⟩
          have hch' : chkE T D [(j : Int)] = 0 := by
            unfold chkE
            rw [if_pos hok, if_pos]
            simp [hnb]
          unfold nodeE
          rw [if_pos hch', if_pos (nodeB_iff.2 hn)]
        have hnx : Can Tryd.prog 30 [topoV T, boolsV D, num m, num j] (· = .tuple [intsV (nextL T D m j), num 0]) := by
          have h := next_can T D (m : Int) (j : Int)
          rw [hne] at h
          exact h
        refine W_skip ?_
        refine W_seq ?_
        refine W_block ?_
        refine W_cs (.a 2 rfl <| .k [1, 2, 3, 6, 8, 9, 32, 33] rfl) ?_
        refine W_cs (.a 4 rfl <| .c rfl (hnx) rfl <| .a 5 rfl <| .k [1, 2, 3, 6, 8, 10, 32, 33] rfl) ?_
        refine W_region ?_
        refine WR_a 3 rfl <| WR_v (y_le (y_build (xs := [_, _, _]) rfl (fok.st.get rfl) rfl rfl) (PLe.aggL (.cons (PLe.refl _) <| .cons (PLe.refl _) <| .cons PLe.nils .nil))) rfl <| WR_a 1 rfl <| WR_l (l_append rfl (fok.rk.get rfl) rfl rfl rfl rfl (by unfold maxLen; omega)) rfl <| WR_a 2 rfl ?_
        refine WR_ren [0, 1, 4, 3] (.c 1 <| .c 2 <| .c 3 <| .c 6 <| .c 8 <| .c 32 <| .c 33 <| .nil) (.kept rfl (.cells (RenL.c <| RenL.c <| RenL.c <| RenL.nil)) <| .kept rfl (.cells (RenL.c <| RenL.c <| RenL.c <| RenL.nil)) <| .kept rfl (.rowP rfl (show _ = entsP (toL T D m (j + 1)) by rw [toL_step]; exact entsP_snoc _ ⟨nextL T D m j, false, []⟩)) <| .kept rfl (.row RenL.pure) <| .nil) rfl rfl (WR_nil ?_)
        refine W_chain (.v (y_ar rfl) rfl <| .a 1 rfl <| .k [1, 2, 3, 6, 8, 32, 33] rfl) ?_
        exact ⟨N - (j + 1), by omega, j + 1, by omega, rfl, rfl⟩
      · have hje : j = N := by have := of_decide_eq_false hc; omega
        subst hje
        refine W_exit ?_
        refine W_seq ?_
        have hol : (outL T m).length ≤ 512 := Nat.le_trans (outTo_len T m _) (by omega)
        refine W_cs (.a 2 rfl <| .c rfl (out_can T hll _) rfl <| .a 2 rfl <| .k [1, 6, 8, 54, 55, 56] rfl) ?_
        refine W_block ?_
        refine W_k [1, 6, 8, 54, 55, 56] rfl ?_
        refine W_loop (fun r s => ∃ i, i ≤ (outL T m).length ∧ r = (outL T m).length - i ∧ s = ⟨[(1, boolsV D), (6, .ptr 0 0), (8, .ptr 1 0), (54, intsV (outL T m)), (55, num (outL T m).length), (56, num i)], [some (.cells 31 [num 0, .raw (.slice none 0 0), .raw (.slice none 0 0)]), some (.cells 31 [num m, .own 2, .own 3]), some (.row 40 3 j (entsP (toL T D m j))), some (.row 3 1 (downL D ((outL T m).take i)).length (intsP (downL D ((outL T m).take i))))]⟩) (outL T m).length ⟨0, by omega, by omega, rfl⟩ ?_
        rintro r s ⟨i, hi, rfl, rfl⟩
        refine W_cs (.a 1 rfl <| .k [1, 6, 8, 54, 55, 56, 57] rfl) ?_
        refine W_seq ?_
        refine W_cond rfl (fun hc => ?_) (fun hc => ?_)
        · have hlt : i < (outL T m).length := by have := of_decide_eq_true hc; omega
          obtain ⟨h0, h1⟩ := outL_mem (getD_mem (d := 0) hlt)
          obtain ⟨a, ha⟩ := Int.eq_ofNat_of_zero_le h0
          have hDl : D.length = 0 ∨ a < D.length := by simp only [fitsB, decide_eq_true_eq] at hf; omega
          have hstep : downL D ((outL T m).take (i + 1)) = downL D ((outL T m).take i) ++ (if downN D a then [(a : Int)] else []) := by
            unfold downL
            rw [take_step _ i 0 hlt, List.filter_append, ha]
            simp only [List.filter_cons, List.filter_nil, Int.toNat_natCast]
          have hdl : (downL D ((outL T m).take i)).length ≤ 1000 := Nat.le_trans (List.length_filter_le _ _) (by rw [List.length_take]; have := outTo_len T m (2 * T.links.length); unfold outL at *; omega)
          refine W_skip ?_
          refine W_seq ?_
          refine W_block ?_
          refine W_cs (.v (y_ix (i) rfl) rfl <| .v (y_ld rfl ((ints_get _ i hlt).trans (by rw [ha]))) rfl <| .a 1 rfl <| .k [1, 6, 8, 13, 54, 55, 56] rfl) ?_
          refine W_cs (.a 2 rfl <| .c rfl (down_can D a hDl) rfl <| .k [1, 6, 8, 13, 54, 55, 56, 62] rfl) ?_
          refine W_cond rfl (fun hcd => ?_) (fun hcd => ?_)
          · rw [hcd, if_pos rfl] at hstep
            refine W_region ?_
            refine WR_a 4 rfl <| WR_l (l_append rfl (fok.rk.get rfl) rfl rfl rfl rfl (by unfold maxLen; omega)) rfl <| WR_a 2 rfl ?_
            refine WR_ren [0, 1, 2, 4] (.c 1 <| .c 6 <| .c 8 <| .c 54 <| .c 55 <| .c 56 <| .nil) (.kept rfl (.cells (RenL.c <| RenL.c <| RenL.c <| RenL.nil)) <| .kept rfl (.cells (RenL.c <| RenL.c <| RenL.c <| RenL.nil)) <| .kept rfl (.row RenL.pure) <| .kept rfl (.rowP rfl (intsP_snoc _ _)) <| .nil) rfl rfl (WR_nil ?_)
            refine W_chain (.v (y_ar rfl) rfl <| .a 1 rfl <| .k [1, 6, 8, 54, 55, 56] rfl) ?_
            refine ⟨(outL T m).length - (i + 1), by omega, i + 1, by omega, rfl, ?_⟩
            rw [hstep]
            first
              | rfl
              | (simp only [List.length_append, List.length_singleton]; rfl)
          · rw [hcd, if_neg (by simp), List.append_nil] at hstep
            refine W_skip ?_
            refine W_chain (.v (y_ar rfl) rfl <| .a 1 rfl <| .k [1, 6, 8, 54, 55, 56] rfl) ?_
            refine ⟨(outL T m).length - (i + 1), by omega, i + 1, by omega, rfl, ?_⟩
            rw [hstep]
            first
              | rfl
              | (simp only [List.length_append, List.length_singleton]; rfl)
        · have hie : i = (outL T m).length := by have := of_decide_eq_false hc; omega
          subst hie
          refine W_exit ?_
          refine W_rs ?_
          refine WR_v (y_loadPtrAgg (ys := [num m, .own 2, .own 3]) rfl (fok.tk.get rfl) rfl rfl rfl rfl) rfl <| WR_a 2 rfl <| WR_k [6, 7] rfl ?_
          refine W_ret ?_
          refine ⟨_, _, ResL.of rfl, Pur.tupleL (PurL.cons (Pur.aggL (PurL.cons Pur.pure <| PurL.cons (Pur.ownL rfl PurL.pure) <| PurL.cons (Pur.ownL rfl PurL.pure) PurL.nil)) (PurL.cons Pur.pure PurL.nil)), ?_⟩
          unfold routesE
          rw [hch, if_pos rfl, List.take_length]
          unfold routesT tabV tabP entsV intsV
          rw [toL_len, show T.nodes.toNat = j by omega]
          rfl
end PW
end Go.Proofs.YtkaalpdfppbdeaaDoor

/- The laws on tables: awake, large. -/
namespace Go.Proofs.YtkaalpdfppbdeaaDoor
set_option linter.unusedVariables false
set_option linter.unusedSimpArgs false
namespace PW
open Go.RowKit Reg Mem Net

theorem lnksP_snoc (l : List Lnk) (e : Lnk) : lnksP l ++ lnkP e = lnksP (l ++ [e]) := by simp [lnksP]
theorem ringL_step (k : Nat) : ringL (k + 1) = ringL k ++ [⟨(k : Int), (((k + 1) % 4 : Nat) : Int), 1, 1, 0, 1, 0⟩] := by simp [ringL, List.range_succ]
/-- A pair of constants. -/
theorem y_build2 {P : Program} {σ : Sto} {t : Tms} {o : Oper} {ty : TypeId} {v0 v1 c0 c1 : Value} (ho : o.op = .build ty #[(0, .const v0), (1, .const v1)]) (hb : P.built ty [(0, v0), (1, v1)] = some #[c0, c1]) : Yield P σ t o (.agg [.raw c0, .raw c1]) := by
  intro F base E ρ w hρ hS hT
  have hrun := run_build (P := P) w ty #[(0, v0), (1, v1)] #[c0, c1] hb
  have h0 : ρ (.const v0) = v0 := hρ.const v0
  have h1 : ρ (.const v1) = v1 := hρ.const v1
  have hr : (execOp ρ o).run P w = .ok (.value (.agg #[c0, c1])) w := by
    simp only [execOp, ho, Sem.run_bind, List.map_toArray, List.map_cons, List.map_nil, h0, h1, hrun, Result.andThen_ok, Sem.run_pure]
  rw [hr]
  refine upon_val (.agg #[c0, c1] _ rfl (fun i x u k1 k2 => ?_))
  match i, k1, k2 with
  | 0, k1, k2 => simp at k1 k2; subst k1; subst k2; exact .raw _
  | 1, k1, k2 => simp at k1 k2; subst k1; subst k2; exact .raw _
  | _ + 2, k1, k2 => simp at k2
theorem ring_small : Small ringTab := by
  refine ⟨by decide, by decide, fun e he => ?_, by decide, fun a ha => by cases ha⟩
  simp [ringTab] at he
  rcases he with rfl | rfl | rfl | rfl <;> simp
theorem ring_len1 : (List.range 5).all (fun k => Nat.ble ((lineL [[116, 97, 98, 108, 101], Lib.decDigits ringTab.node.toNat]).length + (entsT ringTab.ents k).length) 100000000) = true := by kernel_rfl
theorem ring_len2 : (List.range 4).all (fun d => Nat.ble (lineL ([[116, 111], Lib.decDigits d, [111, 118, 101, 114]] ++ numsT (ringTab.ents.getD d ⟨[], false, []⟩).arcs)).length 100000000) = true := by kernel_rfl
theorem ring_len3 : Nat.ble (lineL ([100, 111, 119, 110] :: numsT ringTab.down)).length 100000000 = true := by kernel_rfl
theorem ring_text_can : Can Tryd.prog 16 [tabV ringTab] (· = strV ringBytes) := by
  rw [← ring_text]
  refine text_small ringTab ring_small (fun k hk => ?_) (fun d e he => ?_) (Nat.le_of_ble_eq_true ring_len3)
  · have h4 : k ≤ 4 := hk
    exact Nat.le_of_ble_eq_true (List.all_eq_true.1 ring_len1 k (List.mem_range.2 (by omega)))
  · have hd : d < ringTab.ents.length := (List.getElem?_eq_some_iff.1 he).1
    have h4 : d < 4 := hd
    have h := Nat.le_of_ble_eq_true (List.all_eq_true.1 ring_len2 d (List.mem_range.2 h4))
    rw [show ringTab.ents.getD d ⟨[], false, []⟩ = e by rw [List.getD_eq_getElem?_getD, he]; rfl] at h
    exact h

set_option maxRecDepth 10000 in
set_option maxHeartbeats 1000000 in
theorem awake_can : Can Tryd.prog 9 [] (· = flag true) := by
  have hro := routes_can ringT [] 0
  rw [ring_routes, show chkE ringT [] [0] = 0 by kernel_rfl] at hro
  refine can_of Tryd.func9 rfl Tryd.ntmps9 rfl ?_
  refine W_cs (.a 1 rfl <| .k [] rfl) ?_
  refine W_cs (.a 1 rfl <| .k [1] rfl) ?_
  refine W_adopt 1 56 7 rfl ?_
  refine W_seq ?_
  refine W_cs (.a 1 rfl <| .k [1, 5] rfl) ?_
  refine W_block ?_
  refine W_k [1, 5] rfl ?_
  refine W_loop (fun r s => ∃ k, k ≤ 4 ∧ r = 4 - k ∧ s = ⟨[(1, .own 0), (5, num k)], [some (.row 56 7 k (lnksP (ringL k)))]⟩) 4 ⟨0, by omega, by omega, rfl⟩ ?_
  rintro r s ⟨k, hk, rfl, rfl⟩
  refine W_cs (.a 1 rfl <| .k [1, 5, 6] rfl) ?_
  refine W_seq ?_
  refine W_cond rfl (fun hc => ?_) (fun hc => ?_)
  · have hlt : k < 4 := by have := of_decide_eq_true hc; omega
    refine W_skip ?_
    refine W_seq ?_
    refine W_block ?_
    refine W_cs (.a 2 rfl <| .k [1, 2, 5] rfl) ?_
    refine W_region ?_
    refine WR_a 3 rfl <| WR_v (y_ar rfl) rfl <| WR_v (y_rem rfl rfl rfl (by decide) ((show ((k : Int) + 1).tmod 4 = (((k + 1) % 4 : Nat) : Int) by rw [Int.tmod_eq_emod_of_nonneg (by omega)]; omega))) rfl <| WR_v (y_build2 rfl (show Tryd.prog.built 54 [(0, .int .i64 1), (1, .int .i64 1)] = some #[.int .i64 1, .int .i64 1] by kernel_rfl)) rfl <| WR_a 2 rfl <| WR_l (l_append rfl (fok.rk.get rfl) rfl rfl rfl rfl (by unfold maxLen; omega)) rfl <| WR_a 1 rfl ?_
    refine WR_ren [1] (.c 1 <| .c 5 <| .nil) (.kept rfl (.rowP rfl (show _ = lnksP (ringL (k + 1)) by rw [ringL_step]; exact lnksP_snoc _ ⟨(k : Int), (((k + 1) % 4 : Nat) : Int), 1, 1, 0, 1, 0⟩)) <| .nil) rfl rfl (WR_nil ?_)
    refine W_chain (.v (y_ar rfl) rfl <| .a 1 rfl <| .k [1, 5] rfl) ?_
    exact ⟨4 - (k + 1), by omega, k + 1, by omega, rfl, rfl⟩
  · have hke : k = 4 := by have := of_decide_eq_false hc; omega
    subst hke
    refine W_seal 1 0 rfl rfl ?_
    refine W_ren [] (.cons 1 rfl (Ren.pure (p := .slice 4 (lnksP (ringL 4)))) .nil) .nil rfl rfl ?_
    refine W_exit ?_
    refine W_rs ?_
    refine WR_a 2 rfl <| WR_v (y_cP rfl (PurL.cons (Pur.aggL (PurL.cons Pur.pure <| PurL.cons Pur.nils <| PurL.cons Pur.pure PurL.nil)) <| PurL.cons Pur.nils <| PurL.cons Pur.pure PurL.nil) (hro)) rfl <| WR_a 6 rfl <| WR_k [3, 4] rfl ?_
    refine W_sto (σ' := [some (.cells 31 (tabP ringTab))]) rfl ?_
    refine W_sealPtr 3 0 0 rfl rfl ?_
    refine W_ren [] (.cons 3 rfl (Ren.pure (p := .pin (tabP ringTab) 0)) <| .cons 4 rfl Ren.pure .nil) .nil rfl rfl ?_
    refine W_csK 0 (.raw (.bool (true))) [] rfl ?_ ?_
    · exact .a 4 rfl <| .c rfl (ring_text_can) rfl <| .v (y_strEql rfl rfl rfl (beq_self_eq_true (ByteArray.toList ⟨ringBytes.toArray⟩))) rfl <| .a 2 rfl <| .k [0] rfl
    refine W_ret ?_
    exact ⟨_, _, ResL.of rfl, Pur.pure, rfl⟩
end PW
end Go.Proofs.YtkaalpdfppbdeaaDoor

/- slices.Equal, slices.EqualFunc; package table: Same; the law's wide. -/
namespace Go.Proofs.YtkaalpdfppbdeaaDoor
set_option linter.unusedVariables false
set_option linter.unusedSimpArgs false
namespace PW
open Go.RowKit Reg Mem Net

set_option maxRecDepth 10000 in
set_option maxHeartbeats 1000000 in
theorem eqInts_can (L M : List Int) : Can Tryd.prog 46 [intsV L, intsV M] (· = flag (sameB L M)) := by
  refine can_rep fun ⟨E, w, vs, hR⟩ => ?_
  obtain ⟨v, _, hv⟩ := hR.get (i := 0) rfl
  have hm := rep_len hv
  unfold maxLen at hm
  refine can_of Tryd.func46 rfl Tryd.ntmps46 rfl ?_
  refine W_cs (.a 1 rfl <| .k [0, 1] rfl) ?_
  refine W_seq ?_
  refine W_cs (.a 5 rfl <| .k [0, 1, 10] rfl) ?_
  refine W_cond rfl (fun hc => ?_) (fun hc => ?_)
  · rw [← same_len L M (by have := tt hc; omega)]
    refine W_cs (.a 1 rfl <| .k [4] rfl) ?_
    refine W_ret ?_
    exact ⟨_, _, ResL.of rfl, Pur.pure, rfl⟩
  · have hlen : M.length = L.length := by have := ff hc; omega
    refine W_skip ?_
    refine W_seq ?_
    refine W_cs (.a 3 rfl <| .k [0, 1, 12, 13] rfl) ?_
    refine W_block ?_
    refine W_k [0, 1, 12, 13] rfl ?_
    refine W_loop (fun r s => ∃ k, k ≤ L.length ∧ r = L.length - k ∧ (∀ i, i < k → L.getD i 0 = M.getD i 0) ∧ s = ⟨[(0, intsV L), (1, intsV M), (12, num L.length), (13, num k)], []⟩) L.length ⟨0, by omega, by omega, fun i hi => by omega, rfl⟩ ?_
    rintro r s ⟨k, hk, rfl, hall, rfl⟩
    refine W_cs (.a 1 rfl <| .k [0, 1, 12, 13, 14] rfl) ?_
    refine W_seq ?_
    refine W_cond rfl (fun hc => ?_) (fun hc => ?_)
    · have hlt : k < L.length := by have := tt hc; omega
      refine W_skip ?_
      refine W_seq ?_
      refine W_block ?_
      refine W_cs (.a 2 rfl <| .k [0, 1, 5, 12, 13] rfl) ?_
      refine W_drs mixed (by kernel_rfl) (.a 2 rfl <| .v [16, 17] (y_ix (k) rfl) rfl rfl <| .v [18] (y_ld rfl (ints_get L k hlt)) rfl rfl <| .a 2 rfl <| .v [20, 21] (y_ix (k) rfl) rfl rfl <| .v [22] (y_ld rfl (ints_get M k (by omega))) rfl rfl <| .a 1 rfl <| .k [0, 1, 12, 13, 24] rfl) ?_
      refine W_cond rfl (fun hx => ?_) (fun hx => ?_)
      · rw [← same_at L M k (tt hx)]
        refine W_cs (.a 1 rfl <| .k [4] rfl) ?_
        refine W_ret ?_
        exact ⟨_, _, ResL.of rfl, Pur.pure, rfl⟩
      · have hx' : L.getD k 0 = M.getD k 0 := by have := ff hx; omega
        refine W_skip ?_
        refine W_chain (.v (y_ar rfl) rfl <| .a 1 rfl <| .k [0, 1, 12, 13] rfl) ?_
        refine ⟨L.length - (k + 1), by omega, k + 1, by omega, rfl, fun i hi => ?_, rfl⟩
        by_cases h : i = k
        · rw [h]; exact hx'
        · exact hall i (by omega)
    · have hke : k = L.length := by have := ff hc; omega
      rw [← same_all L M hlen (fun i hi => hall i (by omega))]
      refine W_exit ?_
      refine W_cs (.a 1 rfl <| .k [4] rfl) ?_
      refine W_ret ?_
      exact ⟨_, _, ResL.of rfl, Pur.pure, rfl⟩
set_option maxRecDepth 10000 in
set_option maxHeartbeats 1000000 in
theorem eqSegs_can (L M : List Seg) : Can Tryd.prog 47 [segsV L, segsV M] (· = flag (decide (L = M))) := by
  refine can_rep fun ⟨E, w, vs, hR⟩ => ?_
  obtain ⟨v, _, hv⟩ := hR.get (i := 0) rfl
  have hm := rep_len hv
  unfold maxLen at hm
  refine can_of Tryd.func47 rfl Tryd.ntmps47 rfl ?_
  refine W_cs (.a 1 rfl <| .k [0, 1] rfl) ?_
  refine W_seq ?_
  refine W_cs (.a 5 rfl <| .k [0, 1, 10] rfl) ?_
  refine W_cond rfl (fun hc => ?_) (fun hc => ?_)
  · have hne : L ≠ M := fun e => by have := tt hc; rw [e] at this; exact this rfl
    rw [decide_eq_false hne]
    refine W_cs (.a 1 rfl <| .k [4] rfl) ?_
    refine W_ret ?_
    exact ⟨_, _, ResL.of rfl, Pur.pure, rfl⟩
  · have hlen : L.length = M.length := by have := ff hc; omega
    refine W_skip ?_
    refine W_seq ?_
    refine W_cs (.a 3 rfl <| .k [0, 1, 12, 13] rfl) ?_
    refine W_block ?_
    refine W_k [0, 1, 12, 13] rfl ?_
    refine W_loop (fun r s => ∃ k, k ≤ L.length ∧ r = L.length - k ∧ (∀ j, j < k → L[j]? = M[j]?) ∧ s = ⟨[(0, segsV L), (1, segsV M), (12, num L.length), (13, num k)], []⟩) L.length ⟨0, by omega, by omega, fun i hi => by omega, rfl⟩ ?_
    rintro r s ⟨i, hi, rfl, hall, rfl⟩
    refine W_cs (.a 1 rfl <| .k [0, 1, 12, 13, 14] rfl) ?_
    refine W_seq ?_
    refine W_cond rfl (fun hc => ?_) (fun hc => ?_)
    · have hlt : i < L.length := by have := tt hc; omega
      obtain ⟨a, ha⟩ : ∃ a, L[i]? = some a := ⟨L[i], by simp [hlt]⟩
      obtain ⟨b, hb⟩ : ∃ b, M[i]? = some b := ⟨M[i]'(by omega), by simp [show i < M.length by omega]⟩
      refine W_skip ?_
      refine W_seq ?_
      refine W_block ?_
      refine W_cs (.a 2 rfl <| .k [0, 1, 5, 12, 13] rfl) ?_
      refine W_drs mixed (by kernel_rfl) (.a 2 rfl <| .v [16, 17] (y_ix (i * 2) rfl) rfl rfl <| .v [18] (y_la rfl (segs_drop L i a ha) rfl) rfl rfl <| .a 2 rfl <| .v [20, 21] (y_ix (i * 2) rfl) rfl rfl <| .v [22] (y_la rfl (segs_drop M i b hb) rfl) rfl rfl <| .v [19, 23] (y_segNeq (a := a) (b := b) rfl rfl rfl rfl) rfl rfl <| .k [0, 1, 12, 13, 24] rfl) ?_
      refine W_cond rfl (fun hc => ?_) (fun hc => ?_)
      · have hne : L ≠ M := fun e => by rw [e, hb] at ha; cases ha; exact tt hc rfl
        rw [decide_eq_false hne]
        refine W_cs (.a 1 rfl <| .k [4] rfl) ?_
        refine W_ret ?_
        exact ⟨_, _, ResL.of rfl, Pur.pure, rfl⟩
      · have hab : a = b := Classical.byContradiction (ff hc)
        refine W_skip ?_
        refine W_chain (.v (y_ar rfl) rfl <| .a 1 rfl <| .k [0, 1, 12, 13] rfl) ?_
        exact ⟨L.length - (i + 1), by omega, i + 1, by omega, rfl, fun j hj => by by_cases e : j = i; (rw [e, ha, hb, hab]); exact hall j (by omega), rfl⟩
    · have hie : i = L.length := by have := ff hc; omega
      have heq : L = M := List.ext_getElem? fun j => by
        by_cases hj : j < L.length
        · exact hall j (by omega)
        · rw [List.getElem?_eq_none (by omega), List.getElem?_eq_none (by omega)]
      rw [decide_eq_true heq]
      refine W_exit ?_
      refine W_cs (.a 1 rfl <| .k [4] rfl) ?_
      refine W_ret ?_
      exact ⟨_, _, ResL.of rfl, Pur.pure, rfl⟩
set_option maxRecDepth 10000 in
set_option maxHeartbeats 1000000 in
theorem same1_can (a b : Ent) : Can Tryd.prog 45 [entV a, entV b] (· = flag (entB a b)) := by
  obtain ⟨p1, hp1⟩ : ∃ q, (a.rep == b.rep) = q := ⟨_, rfl⟩
  obtain ⟨p2, hp2⟩ : ∃ q, sameB a.arcs b.arcs = q := ⟨_, rfl⟩
  obtain ⟨p3, hp3⟩ : ∃ q, decide (a.push = b.push) = q := ⟨_, rfl⟩
  have he : entB a b = ((p1 && p2) && p3) := by unfold entB; rw [hp1, hp2, hp3]
  rw [he]
  refine can_of Tryd.func45 rfl Tryd.ntmps45 rfl ?_
  refine W_cs (.a 3 rfl <| .k [2, 3] rfl) ?_
  refine W_csK 4 (.raw (.bool ((p1 && p2) && p3))) [] rfl ?_ ?_
  · refine .a 4 rfl <| .v (y_q rfl (hp1)) rfl <| .a 1 rfl <| ?_
    cases p1
    · exact .a 14 rfl <| .k [4] rfl
    · refine .a 4 rfl <| .c rfl (hp2 ▸ eqInts_can a.arcs b.arcs) rfl <| .a 2 rfl <| ?_
      cases p2
      · exact .a 7 rfl <| .k [4] rfl
      · exact .a 4 rfl <| .c rfl (hp3 ▸ eqSegs_can a.push b.push) rfl <| .a 2 rfl <| .k [4] rfl
  refine W_ret ?_
  exact ⟨_, _, ResL.of rfl, Pur.pure, rfl⟩
set_option maxRecDepth 10000 in
set_option maxHeartbeats 1000000 in
theorem eqEnts_can (A B : List Ent) : Can Tryd.prog 48 [entsV A, entsV B, .func 45 []] (· = flag (decide (A = B))) := by
  refine can_rep fun ⟨E, w, vs, hR⟩ => ?_
  obtain ⟨v, _, hv⟩ := hR.get (i := 0) rfl
  have hm := rep_len hv
  unfold maxLen at hm
  refine can_of Tryd.func48 rfl Tryd.ntmps48 rfl ?_
  refine W_cs (.a 1 rfl <| .k [0, 1, 2] rfl) ?_
  refine W_seq ?_
  refine W_cs (.a 5 rfl <| .k [0, 1, 2, 14] rfl) ?_
  refine W_cond rfl (fun hc => ?_) (fun hc => ?_)
  · have hne : A ≠ B := fun e => by have := tt hc; rw [e] at this; exact this rfl
    rw [decide_eq_false hne]
    refine W_cs (.a 1 rfl <| .k [6] rfl) ?_
    refine W_ret ?_
    exact ⟨_, _, ResL.of rfl, Pur.pure, rfl⟩
  · have hlen : A.length = B.length := by have := ff hc; omega
    refine W_skip ?_
    refine W_seq ?_
    refine W_cs (.a 3 rfl <| .k [1, 2, 15, 16, 17] rfl) ?_
    refine W_block ?_
    refine W_k [1, 2, 15, 16, 17] rfl ?_
    refine W_loop (fun r s => ∃ k, k ≤ A.length ∧ r = A.length - k ∧ (∀ j, j < k → A[j]? = B[j]?) ∧ s = ⟨[(1, entsV B), (2, .func 45 []), (15, entsV A), (16, num A.length), (17, num k)], []⟩) A.length ⟨0, by omega, by omega, fun i hi => by omega, rfl⟩ ?_
    rintro r s ⟨i, hi, rfl, hall, rfl⟩
    refine W_cs (.a 1 rfl <| .k [1, 2, 15, 16, 17, 18] rfl) ?_
    refine W_seq ?_
    refine W_cond rfl (fun hc => ?_) (fun hc => ?_)
    · have hlt : i < A.length := by have := tt hc; omega
      obtain ⟨a, ha⟩ : ∃ a, A[i]? = some a := ⟨A[i], by simp [hlt]⟩
      obtain ⟨b, hb⟩ : ∃ b, B[i]? = some b := ⟨B[i]'(by omega), by simp [show i < B.length by omega]⟩
      refine W_skip ?_
      refine W_seq ?_
      refine W_block ?_
      refine W_rs ?_
      refine WR_a 1 rfl <| WR_v (y_ix (i * 3) rfl) rfl <| WR_v (y_la rfl (ents_drop A i a ha) rfl) rfl <| WR_a 3 rfl <| WR_k [1, 2, 7, 8, 15, 16, 17] rfl ?_
      refine W_rs ?_
      refine WR_a 2 rfl <| WR_v (y_ix (i * 3) rfl) rfl <| WR_v (y_la rfl (ents_drop B i b hb) rfl) rfl <| WR_a 2 rfl <| WR_k [1, 2, 8, 9, 15, 16, 17] rfl ?_
      refine W_cs (.a 3 rfl <| .c rfl (same1_can a b) rfl <| .a 1 rfl <| .k [1, 2, 15, 16, 17, 30] rfl) ?_
      refine W_ren [] (.c 1 <| .c 2 <| .c 15 <| .c 16 <| .c 17 <| .c 30 .nil) .nil rfl rfl ?_
      refine W_cond rfl (fun hc => ?_) (fun hc => ?_)
      · have hne : A ≠ B := fun e => by
          rw [e, hb] at ha
          cases ha
          rw [entB_eq] at hc
          simp at hc
        rw [decide_eq_false hne]
        refine W_cs (.a 1 rfl <| .k [6] rfl) ?_
        refine W_ret ?_
        exact ⟨_, _, ResL.of rfl, Pur.pure, rfl⟩
      · have hab : a = b := by
          rw [entB_eq] at hc
          simpa using hc
        refine W_skip ?_
        refine W_chain (.v (y_ar rfl) rfl <| .a 1 rfl <| .k [1, 2, 15, 16, 17] rfl) ?_
        exact ⟨A.length - (i + 1), by omega, i + 1, by omega, rfl, fun j hj => by by_cases e : j = i; (rw [e, ha, hb, hab]); exact hall j (by omega), rfl⟩
    · have hie : i = A.length := by have := ff hc; omega
      have heq : A = B := List.ext_getElem? fun j => by
        by_cases hj : j < A.length
        · exact hall j (by omega)
        · rw [List.getElem?_eq_none (by omega), List.getElem?_eq_none (by omega)]
      rw [decide_eq_true heq]
      refine W_exit ?_
      refine W_cs (.a 1 rfl <| .k [6] rfl) ?_
      refine W_ret ?_
      exact ⟨_, _, ResL.of rfl, Pur.pure, rfl⟩
theorem tab_ext (x y : Tab) : decide (x = y) = ((decide (x.node = y.node) && sameB x.down y.down) && decide (x.ents = y.ents)) := by
  obtain ⟨x1, x2, x3⟩ := x
  obtain ⟨y1, y2, y3⟩ := y
  unfold sameB
  by_cases e1 : x1 = y1 <;> by_cases e2 : x2 = y2 <;> by_cases e3 : x3 = y3 <;> simp [e1, e2, e3]
set_option maxRecDepth 10000 in
set_option maxHeartbeats 1000000 in
theorem tsame_can (x y : Tab) : Can Tryd.prog 18 [tabV x, tabV y] (· = flag (decide (x = y))) := by
  obtain ⟨p1, hp1⟩ : ∃ q, decide (x.node = y.node) = q := ⟨_, rfl⟩
  obtain ⟨p2, hp2⟩ : ∃ q, sameB x.down y.down = q := ⟨_, rfl⟩
  obtain ⟨p3, hp3⟩ : ∃ q, decide (x.ents = y.ents) = q := ⟨_, rfl⟩
  rw [tab_ext, hp1, hp2, hp3]
  refine can_of Tryd.func18 rfl Tryd.ntmps18 rfl ?_
  refine W_cs (.a 3 rfl <| .k [2, 3] rfl) ?_
  refine W_cs (.a 1 rfl <| .k [2, 3, 5] rfl) ?_
  refine W_csK 4 (.raw (.bool ((p1 && p2) && p3))) [] rfl ?_ ?_
  · refine .a 4 rfl <| .v (y_q rfl (hp1)) rfl <| .a 1 rfl <| ?_
    cases p1
    · exact .a 15 rfl <| .k [4] rfl
    · refine .a 4 rfl <| .c rfl (hp2 ▸ eqInts_can x.down y.down) rfl <| .a 2 rfl <| ?_
      cases p2
      · exact .a 8 rfl <| .k [4] rfl
      · exact .a 5 rfl <| .c rfl (hp3 ▸ eqEnts_can x.ents y.ents) rfl <| .a 2 rfl <| .k [4] rfl
  refine W_ret ?_
  exact ⟨_, _, ResL.of rfl, Pur.pure, rfl⟩
/-- Sums that may run over. -/
theorem y_addW {P : Program} {σ : Sto} {t : Tms} {o : Oper} {x y : Operand} {ty tz : TypeId} {a b : Int} (ho : o.op = .binOp .add ty x y tz) (hx : evalO t x = some (num a)) (hy : evalO t y = some (num b)) : Yield P σ t o (num (IntKind.i64.wrap (a + b))) :=
  y_int ho hx hy fun w => by simp [binOp, Op.intArith]
def wideN (n : Int) (l : List Ent) : Int := l.foldl (fun n e => IntKind.i64.wrap (n + IntKind.i64.wrap ((e.arcs.length : Int) + (e.push.length : Int)))) n
def wideB (x : Tab) : Bool := decide (300 < wideN x.down.length x.ents) || decide (70 < (x.ents.length : Int))
theorem wideN_step (n : Int) (l : List Ent) (k : Nat) (e : Ent) (h : l[k]? = some e) : wideN n (l.take (k + 1)) = IntKind.i64.wrap (wideN n (l.take k) + IntKind.i64.wrap ((e.arcs.length : Int) + (e.push.length : Int))) := by
  unfold wideN
  rw [List.take_add_one, h, List.foldl_append]
  rfl
set_option maxRecDepth 10000 in
set_option maxHeartbeats 1000000 in
theorem wide_can (x : Tab) : Can Tryd.prog 14 [tabV x] (· = flag (wideB x)) := by
  refine can_rep fun ⟨E, w, vs, hR⟩ => ?_
  obtain ⟨v, _, hv⟩ := hR.get (i := 0) rfl
  have hm := (rep_tab hv).1
  unfold maxLen at hm
  obtain ⟨p1, hp1⟩ : ∃ q, decide (300 < wideN x.down.length x.ents) = q := ⟨_, rfl⟩
  obtain ⟨p2, hp2⟩ : ∃ q, decide (70 < (x.ents.length : Int)) = q := ⟨_, rfl⟩
  unfold wideB
  rw [hp1, hp2]
  refine can_of Tryd.func14 rfl Tryd.ntmps14 rfl ?_
  refine W_cs (.a 2 rfl <| .k [1] rfl) ?_
  refine W_cs (.a 4 rfl <| .k [1, 3] rfl) ?_
  refine W_seq ?_
  refine W_cs (.a 4 rfl <| .k [1, 3, 10, 11, 12] rfl) ?_
  refine W_block ?_
  refine W_k [1, 3, 10, 11, 12] rfl ?_
  refine W_loop (fun r s => ∃ k, k ≤ x.ents.length ∧ r = x.ents.length - k ∧ s = ⟨[(1, .pin (tabP x) 0), (3, num (wideN x.down.length (x.ents.take k))), (10, entsV x.ents), (11, num x.ents.length), (12, num k)], []⟩) x.ents.length ⟨0, by omega, by omega, rfl⟩ ?_
  rintro r s ⟨k, hk, rfl, rfl⟩
  refine W_cs (.a 1 rfl <| .k [1, 3, 10, 11, 12, 13] rfl) ?_
  refine W_seq ?_
  refine W_cond rfl (fun hc => ?_) (fun hc => ?_)
  · have hlt : k < x.ents.length := by have := tt hc; omega
    obtain ⟨e, he⟩ : ∃ a, x.ents[k]? = some a := ⟨x.ents[k], by simp [hlt]⟩
    refine W_skip ?_
    refine W_seq ?_
    refine W_block ?_
    refine W_rs ?_
    refine WR_v (y_ix (k * 3) rfl) rfl <| WR_v (y_la rfl (ents_drop x.ents k e he) rfl) rfl <| WR_a 2 rfl <| WR_k [1, 3, 5, 10, 11, 12] rfl ?_
    refine W_chain (.a 7 rfl <| .v (y_addW rfl rfl rfl) rfl <| .v (y_addW rfl rfl rfl) rfl <| .a 1 rfl <| .k [1, 3, 10, 11, 12] rfl) ?_
    refine W_ren [] (.c 1 <| .c 3 <| .c 10 <| .c 11 <| .c 12 .nil) .nil rfl rfl ?_
    refine W_chain (.v (y_ar rfl) rfl <| .a 1 rfl <| .k [1, 3, 10, 11, 12] rfl) ?_
    exact ⟨x.ents.length - (k + 1), by omega, k + 1, by omega, rfl, by rw [wideN_step _ _ k e he]; rfl⟩
  · have hke : k = x.ents.length := by have := ff hc; omega
    subst hke
    rw [List.take_length]
    refine W_exit ?_
    refine W_csK 2 (.raw (.bool (p1 || p2))) [] rfl ?_ ?_
    · refine .a 1 rfl <| .v (y_q rfl (hp1)) rfl <| .a 1 rfl <| ?_
      cases p1
      · exact .a 3 rfl <| .v (y_q rfl (hp2)) rfl <| .a 2 rfl <| .k [2] rfl
      · exact .a 6 rfl <| .k [2] rfl
    refine W_ret ?_
    exact ⟨_, _, ResL.of rfl, Pur.pure, rfl⟩
end PW
end Go.Proofs.YtkaalpdfppbdeaaDoor

/- The law TableSame, walked. -/
namespace Go.Proofs.YtkaalpdfppbdeaaDoor
set_option linter.unusedVariables false
set_option linter.unusedSimpArgs false
namespace PW
open Go.RowKit Reg Mem Net

set_option maxRecDepth 10000 in
set_option maxHeartbeats 1000000 in
theorem lawSame_can (x y : Tab) : Can Tryd.prog 5 [tabV x, tabV y] (· = flag true) := by
  obtain ⟨p1, hp1⟩ : ∃ q, wideB x = q := ⟨_, rfl⟩
  obtain ⟨p2, hp2⟩ : ∃ q, wideB y = q := ⟨_, rfl⟩
  have h1 : (decide (x = y) == decide (x = y)) = true := by simp
  have h2 : (decide (y = x) == decide (x = y)) = true := by simp [eq_comm]
  have h3 := tsame_can x x
  rw [decide_eq_true rfl] at h3
  refine can_of Tryd.func5 rfl Tryd.ntmps5 rfl ?_
  refine W_cs (.a 3 rfl <| .k [2, 3] rfl) ?_
  refine W_seq ?_
  refine W_cs (.c rfl (awake_can) rfl <| .a 1 rfl <| .k [2, 3, 6] rfl) ?_
  refine W_cond rfl (fun hc => ?_) (fun hc => ?_)
  · cases hc
  · refine W_skip ?_
    refine W_seq ?_
    refine W_csK 12 (.raw (.bool (p1 || p2))) [2, 3] rfl ?_ ?_
    · refine .a 1 rfl <| .c rfl (hp1 ▸ wide_can x) rfl <| .a 1 rfl <| ?_
      cases p1
      · exact .a 1 rfl <| .c rfl (hp2 ▸ wide_can y) rfl <| .a 1 rfl <| .k [12, 2, 3] rfl
      · exact .a 3 rfl <| .k [12, 2, 3] rfl
    refine W_cond rfl (fun hc => ?_) (fun hc => ?_)
    · refine W_cs (.a 1 rfl <| .k [4] rfl) ?_
      refine W_ret ?_
      exact ⟨_, _, ResL.of rfl, Pur.pure, rfl⟩
    · refine W_skip ?_
      refine W_drsK mixed (by kernel_rfl) 4 (.raw (.bool (true))) [] rfl ?_ ?_
      · exact .a 2 rfl <| .v [13, 14] (y_c rfl (tsame_can x y)) rfl rfl <| .a 2 rfl <| .v [16, 17] (y_c rfl (rtab_can x y)) rfl rfl <| .v [15, 18] (y_q rfl h1) rfl rfl <| .a 3 rfl <| .v [21, 22] (y_c rfl (tsame_can y x)) rfl rfl <| .a 2 rfl <| .v [24, 25] (y_c rfl (tsame_can x y)) rfl rfl <| .v [23, 26] (y_q rfl h2) rfl rfl <| .a 4 rfl <| .v [30, 31] (y_c rfl (h3)) rfl rfl <| .a 2 rfl <| .k [4] rfl
      refine W_ret ?_
      exact ⟨_, _, ResL.of rfl, Pur.pure, rfl⟩
end PW
end Go.Proofs.YtkaalpdfppbdeaaDoor

namespace Go.Proofs.YtkaalpdfppbdeaaDoor.tableSame
set_option linter.unusedVariables false
set_option linter.unusedSimpArgs false
open Go.ChangeShapes Go.WideShapes Go.ChangeAt Go.RowKit
open Reg Mem PW

set_option maxRecDepth 100000 in
theorem lifted (os : Os) (started : os.Started) (H : Type) (enc : TypeId × Value → H) :
    ReturnsInHanded {} Tryd.checked os 5 .any (fun w args => (Rows.tableSameSpec.pre enc Tryd.prog Tryd.f5 [] false w args ∧ laidMetH Tryd.prog Rows.tableSameRow.laid w) ∧ sizedMet enc Tryd.prog Tryd.f5 (OpenSpec.ofChange Rows.tableSameSpec) false w args)
      (Rows.tableSameSpec.post enc Tryd.prog Tryd.f5 false true false false) := by
  refine returnsInHanded_of_change_and (C := Tryd.checked) (X := fun w _ => laidMetH Tryd.prog Rows.tableSameRow.laid w) (fun _ _ _ hh h => h.of_heap hh) own started (by kernel_rfl) Tryd.func5
    (ChangeSpec.witness_shaped (enc := enc) (C := Tryd.checked) (os := os) (X := fun w _ => laidMetH Tryd.prog Rows.tableSameRow.laid w) false (World.doorLaid Tryd.prog 400 os) #[.agg #[.int .i64 0, .slice none 0 0, .slice none 0 0], .agg #[.int .i64 0, .slice none 0 0, .slice none 0 0]] 8 rfl (World.shaped_of_RefB (by kernel_rfl) (by kernel_rfl)) (by kernel_rfl) (by kernel_rfl) (by kernel_rfl) (laidMetH_of_parts3 (fuel := 8) (laidMet_of_run' 8 (by kernel_rfl) (by kernel_rfl)) (by kernel_rfl) (by kernel_rfl))) ?_
  intro W base args ds gs before hval0 hW _ _ hL _
  have hval : ∀ (j : Nat) t v, Tryd.f5.params[j]? = some t → args[j]? = some v → Value.okWide Tryd.prog W .any base t v := hval0
  have hW' := hW
  obtain ⟨p, q, hA0, hV, rfl, hfz, hnd⟩ := hW
  have hA : DataW.TrodAll enc Tryd.prog W 0 (fun _ => true) true Tryd.f5.params.toList args.toList ds p := hA0
  rw [Tryd.params5] at hA hval
  obtain ⟨v0, vs0, d0, ds0, p0, q0, hargs, rfl, rfl, h0, r0⟩ := trodAll_cons hA
  obtain ⟨v1, vs1, d1, ds1, p1, q1, rfl, rfl, rfl, h1, r1⟩ := trodAll_cons r0
  obtain ⟨rfl, rfl, rfl⟩ := trodAll_nil r1
  obtain rfl : args = #[v0, v1] := by cases args; simp_all
  obtain ⟨rfl, rfl⟩ := trodVars_none hV
  have lt0 := lt_of h0
  obtain ⟨x, R0⟩ := rd_tab (hval 0 31 v0 rfl rfl) h0
  have lt1 := lt_of h1
  obtain ⟨y, R1⟩ := rd_tab (hval 1 31 v1 rfl rfl) h1
  clear hA0 hval0
  refine ((lawSame_can x y) (fun _ => False) W #[v0, v1] (fun _ h => h.elim) (RepL.cons R0 (RepL.cons R1 (RepL.nil _ _)))).mono fun e W' ⟨x, he, bel, r, hr, hx⟩ => ?_
  subst hr
  cases hx
  subst he
  exact ⟨_, rfl, _, _, _, [], _, [], hW', trodAll_mk1 (shut_bool Tryd.underlying4 _), (trodAll_cons_mk (Below.trod laidOut (by kernel_rfl) (of_decide_eq_true (by kernel_rfl)) h0 bel lt0) (trodAll_cons_mk (Below.trod laidOut (by kernel_rfl) (of_decide_eq_true (by kernel_rfl)) h1 bel lt1) trodAll_mk0)), rfl, bel.frame _, fun h => by cases h⟩

theorem over : Rows.tableSameRow.holds Tryd.pinned (OpenSpec.ofChange Rows.tableSameSpec) :=
  OpenClaim.holds_of_wide 5 Tryd.f5 rfl rfl rfl rfl rfl rfl rfl ⟨rfl, rfl, rfl, rfl, rfl⟩ rfl rfl rfl rfl rfl (by kernel_rfl) Tryd.func5 (by kernel_rfl)
    (of_decide_eq_true (by kernel_rfl)) (by unfold Func.isWrapper; first | (rw [if_pos (by decide +kernel)]; kernel_rfl) | (rw [if_neg (by decide +kernel)]; exact ⟨rfl, rfl⟩))
    (fun os started H enc _ => lifted os started H enc)

theorem proved : Rows.TableSameCardSaid :=
  Claim7.holds_tied_plain_at .later [] [.data, .data, .data] true (true, "b6f37571878e50a4db78bf11737a66575ad26af79a1a95ed8600468fc83ed6c1") false
    over (fun _ h => by cases h) (by kernel_rfl) (fun _ h => by cases h) tableSame_row_tie rfl ⟨rfl, rfl⟩ (by kernel_rfl) rfl
    (fun f fn hf hfn => by
      obtain rfl : f = 5 := Option.some.inj ((show Tryd.prog.funcNamed "waypoint/waypointlaw22.TableSame" = some 5 by kernel_rfl).symm.trans hf) |>.symm
      obtain rfl : fn = Tryd.f5 := (Option.some.inj (Tryd.func5.symm.trans hfn)).symm
      exact ⟨by kernel_rfl, fun j t ht => by
        rw [Tryd.params5] at ht
        have hm : t ∈ [31, 31] := by simpa using Array.mem_of_getElem? ht
        have hall : ([31, 31].all fun u => !Tryd.prog.wantsStandIn u) = true := by kernel_rfl
        exact (show Tryd.prog.wantsStandIn t = false by simpa using List.all_eq_true.1 hall t hm)⟩)
    (by kernel_rfl)
end Go.Proofs.YtkaalpdfppbdeaaDoor.tableSame
