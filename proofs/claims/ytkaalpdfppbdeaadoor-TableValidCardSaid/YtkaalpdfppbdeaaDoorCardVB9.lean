/- Texts of the proof, part 9. -/
import Derived.Test.YtkaalpdfppbdeaaDoorCardVB8
/- Package table: Text of a table with small numbers and without segments. -/
namespace Go.Proofs.YtkaalpdfppbdeaaDoor
set_option linter.unusedVariables false
set_option linter.unusedSimpArgs false
namespace PW
open Go.RowKit Reg Mem

structure Small (x : Tab) : Prop where
  node : 0 ≤ x.node ∧ x.node < 100
  ents : x.ents.length ≤ 90
  ent : ∀ e ∈ x.ents, e.rep = false ∧ e.arcs.length ≤ 90 ∧ ∀ a ∈ e.arcs, 0 ≤ a ∧ a < 100
  down : x.down.length ≤ 90 ∧ ∀ a ∈ x.down, 0 ≤ a ∧ a < 100
def entT (d : Nat) (e : Ent) : List UInt8 := if e.arcs = [] then [] else lineL ([[116, 111], Lib.decDigits d, [111, 118, 101, 114]] ++ numsT e.arcs)
def entsT (l : List Ent) (k : Nat) : List UInt8 := (List.range k).flatMap fun d => entT d (l.getD d ⟨[], false, []⟩)
def downT (l : List Int) : List UInt8 := if l = [] then [] else lineL ([100, 111, 119, 110] :: numsT l)
def textS (x : Tab) : List UInt8 := lineL [[116, 97, 98, 108, 101], Lib.decDigits x.node.toNat] ++ entsT x.ents x.ents.length ++ downT x.down
theorem entsT_step (l : List Ent) (k : Nat) (e : Ent) (h : l[k]? = some e) : entsT l (k + 1) = entsT l k ++ entT k e := by
  unfold entsT
  rw [List.range_succ, List.flatMap_append]
  simp [h]
theorem W_bnorm {P : Program} {M : Nat} {c : Code} {t : Tms} {Q : Exit → St → Prop} {l : List UInt8} (hT : TRen [0, 2] t t) (h : W P M 0 c ⟨t, bst 1 true l⟩ Q) : W P M 0 c ⟨t, bst 2 true l⟩ Q :=
  W_ren [0, 2] hT (.kept rfl (.cells (RenL.cons (Ren.ptr (i := 0) rfl) <| RenL.cons (Ren.own (i := 1) rfl) RenL.nil)) <| .kept rfl (.row RenL.pure) <| .nil) rfl rfl h

set_option maxRecDepth 10000 in
set_option maxHeartbeats 4000000 in
theorem text_small (x : Tab) (hx : Small x) (hlen : ∀ k, k ≤ x.ents.length → (lineL [[116, 97, 98, 108, 101], Lib.decDigits x.node.toNat]).length + (entsT x.ents k).length ≤ 100000000) (hline : ∀ d e, x.ents[d]? = some e → (lineL ([[116, 111], Lib.decDigits d, [111, 118, 101, 114]] ++ numsT e.arcs)).length ≤ 100000000) (hdl : (lineL ([100, 111, 119, 110] :: numsT x.down)).length ≤ 100000000) :
    Can Tryd.prog 16 [tabV x] (· = strV (textS x)) := by
  have hxe := hx.ents
  obtain ⟨nd, hnd⟩ := Int.eq_ofNat_of_zero_le hx.node.1
  have hnd1 : nd < 100 := by have := hx.node.2; omega
  have hl0 := hlen 0 (by omega)
  rw [show x.node.toNat = nd by omega] at hl0
  refine can_of Tryd.func16 rfl Tryd.ntmps16 rfl ?_
  refine W_cs (.a 2 rfl <| .k [1] rfl) ?_
  refine W_rs ?_
  refine WR_a 1 rfl <| WR_k [1, 3] rfl ?_
  refine W_adoptCell 0 1 5 1 rfl rfl ?_
  refine W_sto (σ' := bst 1 false []) rfl ?_
  refine W_rs ?_
  refine WR_a 1 rfl <| WR_v (y_ld rfl ((show some (num x.node) = some (num (nd : Int)) by rw [hnd]))) rfl <| WR_c rfl (itoa_small nd hnd1) rfl <| WR_a 1 rfl <| WR_cS rfl rfl (CanS.mono (line_can false [] [[116, 97, 98, 108, 101], Lib.decDigits nd] (by simp) (by simp only [List.length_nil]; omega)) (fun _ σ' h => ?_))
  subst h
  refine WR_k [1, 3] rfl ?_
  refine W_bnorm (.cons 1 rfl Ren.pure <| .cons 3 rfl (Ren.ptr (i := 0) rfl) <| .nil) ?_
  refine W_seq ?_
  refine W_cs (.a 4 rfl <| .k [1, 3, 15, 16, 17] rfl) ?_
  refine W_block ?_
  refine W_k [1, 3, 15, 16, 17] rfl ?_
  refine W_loop (fun r s => ∃ k, k ≤ x.ents.length ∧ r = x.ents.length - k ∧ s = ⟨[(1, .pin (tabP x) 0), (3, .ptr 0 0), (15, entsV x.ents), (16, num x.ents.length), (17, num k)], bst 1 true (lineL [[116, 97, 98, 108, 101], Lib.decDigits nd] ++ entsT x.ents k)⟩) x.ents.length ⟨0, by omega, by omega, by simp only [entsT, List.range_zero, List.flatMap_nil, List.append_nil, List.nil_append]; rfl⟩ ?_
  rintro r s ⟨k, hk, rfl, rfl⟩
  refine W_cs (.a 1 rfl <| .k [1, 3, 15, 16, 17, 18] rfl) ?_
  refine W_seq ?_
  refine W_cond rfl (fun hc => ?_) (fun hc => ?_)
  · have hlt : k < x.ents.length := by have := of_decide_eq_true hc; omega
    obtain ⟨e, he⟩ : ∃ e, x.ents[k]? = some e := ⟨x.ents[k], by simp [hlt]⟩
    obtain ⟨hrep, hal, has⟩ := hx.ent e (List.mem_of_getElem? he)
    have hst := entsT_step x.ents k e he
    have hlk := hlen k (by omega)
    rw [show x.node.toNat = nd by omega] at hlk
    have hlk2 := hline k e he
    refine W_skip ?_
    refine W_seq ?_
    refine W_block ?_
    refine W_rs ?_
    refine WR_a 1 rfl <| WR_v (y_ix (k * 3) rfl) rfl <| WR_v (y_loadPinAgg rfl (fok.tk.get rfl) rfl (ents_drop x.ents k e he) rfl) rfl <| WR_a 2 rfl <| WR_loud0 (l_store rfl (fok.tk.get rfl) rfl rfl rfl rfl rfl (Nat.le_of_ble_eq_true rfl)) rfl rfl <| WR_k [1, 3, 4, 5, 15, 16, 17] rfl ?_
    refine W_sto (σ' := bst 1 true (lineL [[116, 97, 98, 108, 101], Lib.decDigits nd] ++ entsT x.ents k) ++ [some (.cells 40 (entP e))]) rfl ?_
    refine W_sealPtr 5 2 0 rfl rfl ?_
    refine W_ren [0, 1] (.cons 1 rfl Ren.pure <| .cons 3 rfl (Ren.ptr (i := 0) rfl) <| .cons 4 rfl Ren.pure <| .cons 5 rfl Ren.pure <| .cons 15 rfl Ren.pure <| .cons 16 rfl Ren.pure <| .cons 17 rfl Ren.pure <| .nil) (.kept rfl (.cells (RenL.cons (Ren.ptr (i := 0) rfl) <| RenL.cons (Ren.own (i := 1) rfl) RenL.nil)) <| .kept rfl (.row RenL.pure) <| .nil) rfl rfl ?_
    refine W_seq ?_
    refine W_cs (.a 1 rfl <| .v (y_ld rfl (rfl)) rfl <| .a 2 rfl <| .k [1, 3, 4, 5, 15, 16, 17, 25] rfl) ?_
    refine W_cond rfl (fun hc => ?_) (fun hc => ?_)
    · have harc : e.arcs = [] := List.eq_nil_of_length_eq_zero (by have := of_decide_eq_true hc; omega)
      rw [show entT k e = [] by unfold entT; rw [if_pos harc], List.append_nil] at hst
      refine W_exit ?_
      refine W_chain (.v (y_ar rfl) rfl <| .a 1 rfl <| .k [1, 3, 15, 16, 17] rfl) ?_
      refine ⟨x.ents.length - (k + 1), by omega, k + 1, by omega, rfl, ?_⟩
      rw [hst]
      first
        | rfl
        | (rw [← List.append_assoc]; rfl)
    · have harc : e.arcs ≠ [] := fun h => by have := of_decide_eq_false hc; rw [h] at this; exact this rfl
      rw [show entT k e = lineL ([[116, 111], Lib.decDigits k, [111, 118, 101, 114]] ++ numsT e.arcs) by unfold entT; rw [if_neg harc]] at hst
      have hnl : (numsT e.arcs).length = e.arcs.length := by simp [numsT]
      refine W_skip ?_
      refine W_ordersTo ([(1, .pin (tabP x) 0), (3, .ptr 0 0), (5, .pin (entP e) 0), (6, .own 3), (15, entsV x.ents), (16, num x.ents.length), (17, num k)]) ([some (.cells 68 [.ptr 0 0, .own 1]), some (.row 5 1 (lineL [[116, 97, 98, 108, 101], Lib.decDigits nd] ++ entsT x.ents k).length (bytesP (lineL [[116, 97, 98, 108, 101], Lib.decDigits nd] ++ entsT x.ents k))), none, some (.row 9 1 (3 + (numsT e.arcs).length) (strsP ([[116, 111], Lib.decDigits k, [111, 118, 101, 114]] ++ numsT e.arcs)))]) mixed ?_ ?_
      · refine WA_step 0 [3] (by kernel_rfl) ?_
        refine WAs_cons rfl rfl (WR_v (y_a rfl) rfl (WR_nil ?_)) ?_
        · refine WA_step 1 [3] (by kernel_rfl) ?_
          refine WAs_cons rfl rfl (WR_v (y_c rfl (itoa_small k (by omega))) rfl (WR_nil ?_)) ?_
          · refine WA_step 2 [3] (by kernel_rfl) ?_
            refine WAs_cons rfl rfl (WR_l (l_buildSlice (xs := [_, _, _]) rfl (fok.sl.get rfl) ⟨Nat.le_of_ble_eq_true rfl, Nat.le_of_ble_eq_true rfl⟩ rfl rfl) rfl (WR_nil ?_)) ?_
            · refine WA_step 3 [] (by kernel_rfl) ?_
              refine WAs_cons rfl rfl (WR_v (y_a rfl) rfl (WR_nil ?_)) WAs_nil
              refine WA_step 4 [] (by kernel_rfl) ?_
              refine WAs_cons rfl rfl (WR_v (y_ld rfl (rfl)) rfl (WR_nil ?_)) WAs_nil
              refine WA_step 5 [] (by kernel_rfl) ?_
              refine WAs_cons rfl rfl (WR_v (y_c rfl (numbers_small e.arcs (by omega) has)) rfl (WR_nil ?_)) WAs_nil
              refine WA_step 6 [] (by kernel_rfl) ?_
              refine WAs_cons rfl rfl (WR_l (l_append rfl (fok.rk.get rfl) rfl rfl rfl (by simp [strsP]) ⟨by unfold maxLen; omega, by omega⟩) rfl (WR_nil ?_)) WAs_nil
              refine WA_step 7 [] (by kernel_rfl) ?_
              refine WAs_cons rfl rfl (WR_v (y_a rfl) rfl (WR_nil ?_)) WAs_nil
              exact WA_nil (by kernel_rfl) ⟨rfl, keepT_sub (ks := [1, 3, 5, 6, 15, 16, 17]) rfl⟩
            refine WAs_cons rfl rfl (WR_v (y_a rfl) rfl (WR_nil ?_)) WAs_nil
            refine WA_step 2 [4] (by kernel_rfl) ?_
            refine WAs_cons rfl rfl (WR_l (l_buildSlice (xs := [_, _, _]) rfl (fok.sl.get rfl) ⟨Nat.le_of_ble_eq_true rfl, Nat.le_of_ble_eq_true rfl⟩ rfl rfl) rfl (WR_nil ?_)) ?_
            · refine WA_step 4 [] (by kernel_rfl) ?_
              refine WAs_cons rfl rfl (WR_v (y_ld rfl (rfl)) rfl (WR_nil ?_)) WAs_nil
              refine WA_step 5 [] (by kernel_rfl) ?_
              refine WAs_cons rfl rfl (WR_v (y_c rfl (numbers_small e.arcs (by omega) has)) rfl (WR_nil ?_)) WAs_nil
              refine WA_step 6 [] (by kernel_rfl) ?_
              refine WAs_cons rfl rfl (WR_l (l_append rfl (fok.rk.get rfl) rfl rfl rfl (by simp [strsP]) ⟨by unfold maxLen; omega, by omega⟩) rfl (WR_nil ?_)) WAs_nil
              refine WA_step 7 [] (by kernel_rfl) ?_
              refine WAs_cons rfl rfl (WR_v (y_a rfl) rfl (WR_nil ?_)) WAs_nil
              exact WA_nil (by kernel_rfl) ⟨rfl, keepT_sub (ks := [1, 3, 5, 6, 15, 16, 17]) rfl⟩
            refine WAs_cons rfl rfl (WR_v (y_ld rfl (rfl)) rfl (WR_nil ?_)) WAs_nil
            refine WA_step 2 [5] (by kernel_rfl) ?_
            refine WAs_cons rfl rfl (WR_l (l_buildSlice (xs := [_, _, _]) rfl (fok.sl.get rfl) ⟨Nat.le_of_ble_eq_true rfl, Nat.le_of_ble_eq_true rfl⟩ rfl rfl) rfl (WR_nil ?_)) ?_
            · refine WA_step 5 [] (by kernel_rfl) ?_
              refine WAs_cons rfl rfl (WR_v (y_c rfl (numbers_small e.arcs (by omega) has)) rfl (WR_nil ?_)) WAs_nil
              refine WA_step 6 [] (by kernel_rfl) ?_
              refine WAs_cons rfl rfl (WR_l (l_append rfl (fok.rk.get rfl) rfl rfl rfl (by simp [strsP]) ⟨by unfold maxLen; omega, by omega⟩) rfl (WR_nil ?_)) WAs_nil
              refine WA_step 7 [] (by kernel_rfl) ?_
              refine WAs_cons rfl rfl (WR_v (y_a rfl) rfl (WR_nil ?_)) WAs_nil
              exact WA_nil (by kernel_rfl) ⟨rfl, keepT_sub (ks := [1, 3, 5, 6, 15, 16, 17]) rfl⟩
            refine WAs_cons rfl rfl (WR_v (y_c rfl (numbers_small e.arcs (by omega) has)) rfl (WR_nil ?_)) WAs_nil
            refine WA_step 2 [] (by kernel_rfl) ?_
            refine WAs_cons rfl rfl (WR_l (l_buildSlice (xs := [_, _, _]) rfl (fok.sl.get rfl) ⟨Nat.le_of_ble_eq_true rfl, Nat.le_of_ble_eq_true rfl⟩ rfl rfl) rfl (WR_nil ?_)) WAs_nil
            refine WA_step 6 [] (by kernel_rfl) ?_
            refine WAs_cons rfl rfl (WR_l (l_append rfl (fok.rk.get rfl) rfl rfl rfl (by simp [strsP]) ⟨by unfold maxLen; omega, by omega⟩) rfl (WR_nil ?_)) WAs_nil
            refine WA_step 7 [] (by kernel_rfl) ?_
            refine WAs_cons rfl rfl (WR_v (y_a rfl) rfl (WR_nil ?_)) WAs_nil
            exact WA_nil (by kernel_rfl) ⟨rfl, keepT_sub (ks := [1, 3, 5, 6, 15, 16, 17]) rfl⟩
          refine WAs_cons rfl rfl (WR_v (y_a rfl) rfl (WR_nil ?_)) WAs_nil
          refine WA_step 1 [4] (by kernel_rfl) ?_
          refine WAs_cons rfl rfl (WR_v (y_c rfl (itoa_small k (by omega))) rfl (WR_nil ?_)) ?_
          · refine WA_step 2 [4] (by kernel_rfl) ?_
            refine WAs_cons rfl rfl (WR_l (l_buildSlice (xs := [_, _, _]) rfl (fok.sl.get rfl) ⟨Nat.le_of_ble_eq_true rfl, Nat.le_of_ble_eq_true rfl⟩ rfl rfl) rfl (WR_nil ?_)) ?_
            · refine WA_step 4 [] (by kernel_rfl) ?_
              refine WAs_cons rfl rfl (WR_v (y_ld rfl (rfl)) rfl (WR_nil ?_)) WAs_nil
              refine WA_step 5 [] (by kernel_rfl) ?_
              refine WAs_cons rfl rfl (WR_v (y_c rfl (numbers_small e.arcs (by omega) has)) rfl (WR_nil ?_)) WAs_nil
              refine WA_step 6 [] (by kernel_rfl) ?_
              refine WAs_cons rfl rfl (WR_l (l_append rfl (fok.rk.get rfl) rfl rfl rfl (by simp [strsP]) ⟨by unfold maxLen; omega, by omega⟩) rfl (WR_nil ?_)) WAs_nil
              refine WA_step 7 [] (by kernel_rfl) ?_
              refine WAs_cons rfl rfl (WR_v (y_a rfl) rfl (WR_nil ?_)) WAs_nil
              exact WA_nil (by kernel_rfl) ⟨rfl, keepT_sub (ks := [1, 3, 5, 6, 15, 16, 17]) rfl⟩
            refine WAs_cons rfl rfl (WR_v (y_ld rfl (rfl)) rfl (WR_nil ?_)) WAs_nil
            refine WA_step 2 [5] (by kernel_rfl) ?_
            refine WAs_cons rfl rfl (WR_l (l_buildSlice (xs := [_, _, _]) rfl (fok.sl.get rfl) ⟨Nat.le_of_ble_eq_true rfl, Nat.le_of_ble_eq_true rfl⟩ rfl rfl) rfl (WR_nil ?_)) ?_
            · refine WA_step 5 [] (by kernel_rfl) ?_
              refine WAs_cons rfl rfl (WR_v (y_c rfl (numbers_small e.arcs (by omega) has)) rfl (WR_nil ?_)) WAs_nil
              refine WA_step 6 [] (by kernel_rfl) ?_
              refine WAs_cons rfl rfl (WR_l (l_append rfl (fok.rk.get rfl) rfl rfl rfl (by simp [strsP]) ⟨by unfold maxLen; omega, by omega⟩) rfl (WR_nil ?_)) WAs_nil
              refine WA_step 7 [] (by kernel_rfl) ?_
              refine WAs_cons rfl rfl (WR_v (y_a rfl) rfl (WR_nil ?_)) WAs_nil
              exact WA_nil (by kernel_rfl) ⟨rfl, keepT_sub (ks := [1, 3, 5, 6, 15, 16, 17]) rfl⟩
            refine WAs_cons rfl rfl (WR_v (y_c rfl (numbers_small e.arcs (by omega) has)) rfl (WR_nil ?_)) WAs_nil
            refine WA_step 2 [] (by kernel_rfl) ?_
            refine WAs_cons rfl rfl (WR_l (l_buildSlice (xs := [_, _, _]) rfl (fok.sl.get rfl) ⟨Nat.le_of_ble_eq_true rfl, Nat.le_of_ble_eq_true rfl⟩ rfl rfl) rfl (WR_nil ?_)) WAs_nil
            refine WA_step 6 [] (by kernel_rfl) ?_
            refine WAs_cons rfl rfl (WR_l (l_append rfl (fok.rk.get rfl) rfl rfl rfl (by simp [strsP]) ⟨by unfold maxLen; omega, by omega⟩) rfl (WR_nil ?_)) WAs_nil
            refine WA_step 7 [] (by kernel_rfl) ?_
            refine WAs_cons rfl rfl (WR_v (y_a rfl) rfl (WR_nil ?_)) WAs_nil
            exact WA_nil (by kernel_rfl) ⟨rfl, keepT_sub (ks := [1, 3, 5, 6, 15, 16, 17]) rfl⟩
          refine WAs_cons rfl rfl (WR_v (y_ld rfl (rfl)) rfl (WR_nil ?_)) WAs_nil
          refine WA_step 1 [] (by kernel_rfl) ?_
          refine WAs_cons rfl rfl (WR_v (y_c rfl (itoa_small k (by omega))) rfl (WR_nil ?_)) WAs_nil
          refine WA_step 2 [5] (by kernel_rfl) ?_
          refine WAs_cons rfl rfl (WR_l (l_buildSlice (xs := [_, _, _]) rfl (fok.sl.get rfl) ⟨Nat.le_of_ble_eq_true rfl, Nat.le_of_ble_eq_true rfl⟩ rfl rfl) rfl (WR_nil ?_)) ?_
          · refine WA_step 5 [] (by kernel_rfl) ?_
            refine WAs_cons rfl rfl (WR_v (y_c rfl (numbers_small e.arcs (by omega) has)) rfl (WR_nil ?_)) WAs_nil
            refine WA_step 6 [] (by kernel_rfl) ?_
            refine WAs_cons rfl rfl (WR_l (l_append rfl (fok.rk.get rfl) rfl rfl rfl (by simp [strsP]) ⟨by unfold maxLen; omega, by omega⟩) rfl (WR_nil ?_)) WAs_nil
            refine WA_step 7 [] (by kernel_rfl) ?_
            refine WAs_cons rfl rfl (WR_v (y_a rfl) rfl (WR_nil ?_)) WAs_nil
            exact WA_nil (by kernel_rfl) ⟨rfl, keepT_sub (ks := [1, 3, 5, 6, 15, 16, 17]) rfl⟩
          refine WAs_cons rfl rfl (WR_v (y_c rfl (numbers_small e.arcs (by omega) has)) rfl (WR_nil ?_)) WAs_nil
          refine WA_step 2 [] (by kernel_rfl) ?_
          refine WAs_cons rfl rfl (WR_l (l_buildSlice (xs := [_, _, _]) rfl (fok.sl.get rfl) ⟨Nat.le_of_ble_eq_true rfl, Nat.le_of_ble_eq_true rfl⟩ rfl rfl) rfl (WR_nil ?_)) WAs_nil
          refine WA_step 6 [] (by kernel_rfl) ?_
          refine WAs_cons rfl rfl (WR_l (l_append rfl (fok.rk.get rfl) rfl rfl rfl (by simp [strsP]) ⟨by unfold maxLen; omega, by omega⟩) rfl (WR_nil ?_)) WAs_nil
          refine WA_step 7 [] (by kernel_rfl) ?_
          refine WAs_cons rfl rfl (WR_v (y_a rfl) rfl (WR_nil ?_)) WAs_nil
          exact WA_nil (by kernel_rfl) ⟨rfl, keepT_sub (ks := [1, 3, 5, 6, 15, 16, 17]) rfl⟩
        refine WAs_cons rfl rfl (WR_v (y_a rfl) rfl (WR_nil ?_)) WAs_nil
        refine WA_step 0 [4] (by kernel_rfl) ?_
        refine WAs_cons rfl rfl (WR_v (y_a rfl) rfl (WR_nil ?_)) ?_
        · refine WA_step 1 [4] (by kernel_rfl) ?_
          refine WAs_cons rfl rfl (WR_v (y_c rfl (itoa_small k (by omega))) rfl (WR_nil ?_)) ?_
          · refine WA_step 2 [4] (by kernel_rfl) ?_
            refine WAs_cons rfl rfl (WR_l (l_buildSlice (xs := [_, _, _]) rfl (fok.sl.get rfl) ⟨Nat.le_of_ble_eq_true rfl, Nat.le_of_ble_eq_true rfl⟩ rfl rfl) rfl (WR_nil ?_)) ?_
            · refine WA_step 4 [] (by kernel_rfl) ?_
              refine WAs_cons rfl rfl (WR_v (y_ld rfl (rfl)) rfl (WR_nil ?_)) WAs_nil
              refine WA_step 5 [] (by kernel_rfl) ?_
              refine WAs_cons rfl rfl (WR_v (y_c rfl (numbers_small e.arcs (by omega) has)) rfl (WR_nil ?_)) WAs_nil
              refine WA_step 6 [] (by kernel_rfl) ?_
              refine WAs_cons rfl rfl (WR_l (l_append rfl (fok.rk.get rfl) rfl rfl rfl (by simp [strsP]) ⟨by unfold maxLen; omega, by omega⟩) rfl (WR_nil ?_)) WAs_nil
              refine WA_step 7 [] (by kernel_rfl) ?_
              refine WAs_cons rfl rfl (WR_v (y_a rfl) rfl (WR_nil ?_)) WAs_nil
              exact WA_nil (by kernel_rfl) ⟨rfl, keepT_sub (ks := [1, 3, 5, 6, 15, 16, 17]) rfl⟩
            refine WAs_cons rfl rfl (WR_v (y_ld rfl (rfl)) rfl (WR_nil ?_)) WAs_nil
            refine WA_step 2 [5] (by kernel_rfl) ?_
            refine WAs_cons rfl rfl (WR_l (l_buildSlice (xs := [_, _, _]) rfl (fok.sl.get rfl) ⟨Nat.le_of_ble_eq_true rfl, Nat.le_of_ble_eq_true rfl⟩ rfl rfl) rfl (WR_nil ?_)) ?_
            · refine WA_step 5 [] (by kernel_rfl) ?_
              refine WAs_cons rfl rfl (WR_v (y_c rfl (numbers_small e.arcs (by omega) has)) rfl (WR_nil ?_)) WAs_nil
              refine WA_step 6 [] (by kernel_rfl) ?_
              refine WAs_cons rfl rfl (WR_l (l_append rfl (fok.rk.get rfl) rfl rfl rfl (by simp [strsP]) ⟨by unfold maxLen; omega, by omega⟩) rfl (WR_nil ?_)) WAs_nil
              refine WA_step 7 [] (by kernel_rfl) ?_
              refine WAs_cons rfl rfl (WR_v (y_a rfl) rfl (WR_nil ?_)) WAs_nil
              exact WA_nil (by kernel_rfl) ⟨rfl, keepT_sub (ks := [1, 3, 5, 6, 15, 16, 17]) rfl⟩
            refine WAs_cons rfl rfl (WR_v (y_c rfl (numbers_small e.arcs (by omega) has)) rfl (WR_nil ?_)) WAs_nil
            refine WA_step 2 [] (by kernel_rfl) ?_
            refine WAs_cons rfl rfl (WR_l (l_buildSlice (xs := [_, _, _]) rfl (fok.sl.get rfl) ⟨Nat.le_of_ble_eq_true rfl, Nat.le_of_ble_eq_true rfl⟩ rfl rfl) rfl (WR_nil ?_)) WAs_nil
            refine WA_step 6 [] (by kernel_rfl) ?_
            refine WAs_cons rfl rfl (WR_l (l_append rfl (fok.rk.get rfl) rfl rfl rfl (by simp [strsP]) ⟨by unfold maxLen; omega, by omega⟩) rfl (WR_nil ?_)) WAs_nil
            refine WA_step 7 [] (by kernel_rfl) ?_
            refine WAs_cons rfl rfl (WR_v (y_a rfl) rfl (WR_nil ?_)) WAs_nil
            exact WA_nil (by kernel_rfl) ⟨rfl, keepT_sub (ks := [1, 3, 5, 6, 15, 16, 17]) rfl⟩
          refine WAs_cons rfl rfl (WR_v (y_ld rfl (rfl)) rfl (WR_nil ?_)) WAs_nil
          refine WA_step 1 [] (by kernel_rfl) ?_
          refine WAs_cons rfl rfl (WR_v (y_c rfl (itoa_small k (by omega))) rfl (WR_nil ?_)) WAs_nil
          refine WA_step 2 [5] (by kernel_rfl) ?_
          refine WAs_cons rfl rfl (WR_l (l_buildSlice (xs := [_, _, _]) rfl (fok.sl.get rfl) ⟨Nat.le_of_ble_eq_true rfl, Nat.le_of_ble_eq_true rfl⟩ rfl rfl) rfl (WR_nil ?_)) ?_
          · refine WA_step 5 [] (by kernel_rfl) ?_
            refine WAs_cons rfl rfl (WR_v (y_c rfl (numbers_small e.arcs (by omega) has)) rfl (WR_nil ?_)) WAs_nil
            refine WA_step 6 [] (by kernel_rfl) ?_
            refine WAs_cons rfl rfl (WR_l (l_append rfl (fok.rk.get rfl) rfl rfl rfl (by simp [strsP]) ⟨by unfold maxLen; omega, by omega⟩) rfl (WR_nil ?_)) WAs_nil
            refine WA_step 7 [] (by kernel_rfl) ?_
            refine WAs_cons rfl rfl (WR_v (y_a rfl) rfl (WR_nil ?_)) WAs_nil
            exact WA_nil (by kernel_rfl) ⟨rfl, keepT_sub (ks := [1, 3, 5, 6, 15, 16, 17]) rfl⟩
          refine WAs_cons rfl rfl (WR_v (y_c rfl (numbers_small e.arcs (by omega) has)) rfl (WR_nil ?_)) WAs_nil
          refine WA_step 2 [] (by kernel_rfl) ?_
          refine WAs_cons rfl rfl (WR_l (l_buildSlice (xs := [_, _, _]) rfl (fok.sl.get rfl) ⟨Nat.le_of_ble_eq_true rfl, Nat.le_of_ble_eq_true rfl⟩ rfl rfl) rfl (WR_nil ?_)) WAs_nil
          refine WA_step 6 [] (by kernel_rfl) ?_
          refine WAs_cons rfl rfl (WR_l (l_append rfl (fok.rk.get rfl) rfl rfl rfl (by simp [strsP]) ⟨by unfold maxLen; omega, by omega⟩) rfl (WR_nil ?_)) WAs_nil
          refine WA_step 7 [] (by kernel_rfl) ?_
          refine WAs_cons rfl rfl (WR_v (y_a rfl) rfl (WR_nil ?_)) WAs_nil
          exact WA_nil (by kernel_rfl) ⟨rfl, keepT_sub (ks := [1, 3, 5, 6, 15, 16, 17]) rfl⟩
        refine WAs_cons rfl rfl (WR_v (y_ld rfl (rfl)) rfl (WR_nil ?_)) WAs_nil
        refine WA_step 0 [] (by kernel_rfl) ?_
        refine WAs_cons rfl rfl (WR_v (y_a rfl) rfl (WR_nil ?_)) WAs_nil
        refine WA_step 1 [] (by kernel_rfl) ?_
        refine WAs_cons rfl rfl (WR_v (y_c rfl (itoa_small k (by omega))) rfl (WR_nil ?_)) WAs_nil
        refine WA_step 2 [5] (by kernel_rfl) ?_
        refine WAs_cons rfl rfl (WR_l (l_buildSlice (xs := [_, _, _]) rfl (fok.sl.get rfl) ⟨Nat.le_of_ble_eq_true rfl, Nat.le_of_ble_eq_true rfl⟩ rfl rfl) rfl (WR_nil ?_)) ?_
        · refine WA_step 5 [] (by kernel_rfl) ?_
          refine WAs_cons rfl rfl (WR_v (y_c rfl (numbers_small e.arcs (by omega) has)) rfl (WR_nil ?_)) WAs_nil
          refine WA_step 6 [] (by kernel_rfl) ?_
          refine WAs_cons rfl rfl (WR_l (l_append rfl (fok.rk.get rfl) rfl rfl rfl (by simp [strsP]) ⟨by unfold maxLen; omega, by omega⟩) rfl (WR_nil ?_)) WAs_nil
          refine WA_step 7 [] (by kernel_rfl) ?_
          refine WAs_cons rfl rfl (WR_v (y_a rfl) rfl (WR_nil ?_)) WAs_nil
          exact WA_nil (by kernel_rfl) ⟨rfl, keepT_sub (ks := [1, 3, 5, 6, 15, 16, 17]) rfl⟩
        refine WAs_cons rfl rfl (WR_v (y_c rfl (numbers_small e.arcs (by omega) has)) rfl (WR_nil ?_)) WAs_nil
        refine WA_step 2 [] (by kernel_rfl) ?_
        refine WAs_cons rfl rfl (WR_l (l_buildSlice (xs := [_, _, _]) rfl (fok.sl.get rfl) ⟨Nat.le_of_ble_eq_true rfl, Nat.le_of_ble_eq_true rfl⟩ rfl rfl) rfl (WR_nil ?_)) WAs_nil
        refine WA_step 6 [] (by kernel_rfl) ?_
        refine WAs_cons rfl rfl (WR_l (l_append rfl (fok.rk.get rfl) rfl rfl rfl (by simp [strsP]) ⟨by unfold maxLen; omega, by omega⟩) rfl (WR_nil ?_)) WAs_nil
        refine WA_step 7 [] (by kernel_rfl) ?_
        refine WAs_cons rfl rfl (WR_v (y_a rfl) rfl (WR_nil ?_)) WAs_nil
        exact WA_nil (by kernel_rfl) ⟨rfl, keepT_sub (ks := [1, 3, 5, 6, 15, 16, 17]) rfl⟩
      refine W_seal 6 3 rfl rfl ?_
      rw [show 3 + (numsT e.arcs).length = ([[116, 111], Lib.decDigits k, [111, 118, 101, 114]] ++ numsT e.arcs).length by simp; omega]
      refine W_ren [0, 1] (.cons 1 rfl Ren.pure <| .cons 3 rfl (Ren.ptr (i := 0) rfl) <| .cons 5 rfl Ren.pure <| .cons 6 rfl Ren.pure <| .cons 15 rfl Ren.pure <| .cons 16 rfl Ren.pure <| .cons 17 rfl Ren.pure <| .nil) (.kept rfl (.cells (RenL.cons (Ren.ptr (i := 0) rfl) <| RenL.cons (Ren.own (i := 1) rfl) RenL.nil)) <| .kept rfl (.row RenL.pure) <| .nil) rfl rfl ?_
      refine W_sto (σ' := bst 1 true (lineL [[116, 97, 98, 108, 101], Lib.decDigits nd] ++ entsT x.ents k)) rfl ?_
      refine W_seq ?_
      refine W_cs (.a 1 rfl <| .v (y_ld rfl ((show some (flag e.rep) = some (flag false) by rw [hrep]))) rfl <| .k [1, 3, 5, 6, 15, 16, 17, 34] rfl) ?_
      refine W_cond rfl (fun hc => ?_) (fun hc => ?_)
      · cases hc
      · refine W_skip ?_
        refine W_region ?_
        refine WR_a 1 rfl <| WR_cS rfl rfl (CanS.mono (line_can true (lineL [[116, 97, 98, 108, 101], Lib.decDigits nd] ++ entsT x.ents k) ([[116, 111], Lib.decDigits k, [111, 118, 101, 114]] ++ numsT e.arcs) (by simp [hnl]; omega) (by simp only [List.length_append] at *; omega)) (fun _ σ' h => ?_))
        subst h
        refine WR_k [1, 3, 15, 16, 17] rfl ?_
        refine W_bnorm (.cons 1 rfl Ren.pure <| .cons 3 rfl (Ren.ptr (i := 0) rfl) <| .cons 15 rfl Ren.pure <| .cons 16 rfl Ren.pure <| .cons 17 rfl Ren.pure <| .nil) ?_
        refine W_chain (.v (y_ar rfl) rfl <| .a 1 rfl <| .k [1, 3, 15, 16, 17] rfl) ?_
        refine ⟨x.ents.length - (k + 1), by omega, k + 1, by omega, rfl, ?_⟩
        rw [hst]
        first
          | rfl
          | (rw [← List.append_assoc]; rfl)
  · have hke : k = x.ents.length := by have := of_decide_eq_false hc; omega
    refine W_exit ?_
    refine W_seq ?_
    refine W_cs (.a 1 rfl <| .v (y_ld rfl (rfl)) rfl <| .a 2 rfl <| .k [1, 3, 57] rfl) ?_
    refine W_cond rfl (fun hc => ?_) (fun hc => ?_)
    · have hdn : x.down ≠ [] := fun h => by have := of_decide_eq_true hc; rw [h] at this; simp at this
      have hdt : downT x.down = lineL ([100, 111, 119, 110] :: numsT x.down) := by unfold downT; rw [if_neg hdn]
      have hnl : (numsT x.down).length = x.down.length := by simp [numsT]
      have hd1 := hx.down.1
      have hlk := hlen k (by omega)
      rw [show x.node.toNat = nd by omega] at hlk
      have h1n : 1 + (numsT x.down).length = ([100, 111, 119, 110] :: numsT x.down).length := by simp; omega
      refine W_region ?_
      refine WR_l (l_buildSlice (xs := [_]) rfl (fok.sl.get rfl) ⟨Nat.le_of_ble_eq_true rfl, Nat.le_of_ble_eq_true rfl⟩ rfl rfl) rfl <| WR_a 1 rfl <| WR_v (y_ld rfl (rfl)) rfl <| WR_c rfl (numbers_small x.down (by omega) hx.down.2) rfl <| WR_l (l_append rfl (fok.rk.get rfl) rfl rfl rfl (by simp [strsP]) ⟨by unfold maxLen; omega, by omega⟩) rfl ?_
      (refine WR_seal 62 3 rfl rfl ?_; rw [h1n]; refine WR_ren [0, 1] (.cons 3 rfl (Ren.ptr (i := 0) rfl) <| .cons 62 rfl (Ren.pure (p := strsV ([100, 111, 119, 110] :: numsT x.down))) <| .nil) (.kept rfl (.cells (RenL.cons (Ren.ptr (i := 0) rfl) <| RenL.cons (Ren.own (i := 1) rfl) RenL.nil)) <| .kept rfl (.row RenL.pure) <| .nil) rfl rfl ?_)
      refine WR_cS rfl rfl (CanS.mono (line_can true (lineL [[116, 97, 98, 108, 101], Lib.decDigits nd] ++ entsT x.ents k) ([100, 111, 119, 110] :: numsT x.down) (by simp [hnl]; omega) (by simp only [List.length_append] at *; omega)) (fun _ σ' h => ?_))
      subst h
      refine WR_k [3] rfl ?_
      refine W_bnorm (.cons 3 rfl (Ren.ptr (i := 0) rfl) <| .nil) ?_
      refine W_rs ?_
      refine WR_cS rfl rfl (CanS.mono (bstring true _ (by simp [lineL]; omega)) (fun _ σ' h => ?_))
      subst h
      refine WR_a 1 rfl <| WR_k [2] rfl ?_
      refine W_ret ?_
      refine ⟨_, _, ResL.of rfl, Pur.pure, ?_⟩
      unfold textS
      rw [hdt, show x.node.toNat = nd by omega, ← hke]
      first
        | rfl
        | (rw [List.append_nil]; rfl)
    · have hdn : x.down = [] := List.eq_nil_of_length_eq_zero (by have := of_decide_eq_false hc; omega)
      have hdt : downT x.down = [] := by unfold downT; rw [if_pos hdn]
      refine W_skip ?_
      refine W_rs ?_
      refine WR_cS rfl rfl (CanS.mono (bstring true _ (by simp [lineL]; omega)) (fun _ σ' h => ?_))
      subst h
      refine WR_a 1 rfl <| WR_k [2] rfl ?_
      refine W_ret ?_
      refine ⟨_, _, ResL.of rfl, Pur.pure, ?_⟩
      unfold textS
      rw [hdt, show x.node.toNat = nd by omega, ← hke]
      first
        | rfl
        | (rw [List.append_nil]; rfl)
end PW
end Go.Proofs.YtkaalpdfppbdeaaDoor

/- The example of the laws on tables: a ring of four nodes: its routes and their text. No program in sight. -/
namespace Go.Proofs.YtkaalpdfppbdeaaDoor
set_option linter.unusedVariables false
set_option linter.unusedSimpArgs false
namespace PW
open Net

def ringL (k : Nat) : List Lnk := (List.range k).map fun (i : Nat) => ⟨(i : Int), (((i + 1) % 4 : Nat) : Int), 1, 1, 0, 1, 0⟩
def ringT : Topo := ⟨4, [], ringL 4⟩
def ringD (d : Nat) : List Int := match d with
  | 0 => [0, 1, 2, 1]
  | 1 => [1, 0, 1, 2]
  | 2 => [2, 1, 0, 1]
  | _ => [1, 2, 1, 0]
theorem ring_valid : validB ringT = true := by kernel_rfl
theorem ring_fits : fitsB ringT [] = true := by kernel_rfl
def wayB (T : Topo) (n : Nat) (out : List Int) (a : Nat) : Bool := decide (0 ≤ at' out (arcY T false a)) && (decide (arcY T false a = (n : Int)) || !overN T (arcY T false a).toNat)
def distB (n : Nat) (out : List Int) : Bool :=
  decide (out.length = 4) && decide (at' out (n : Int) = 0) && (List.range 4).all (fun x => decide (0 ≤ at' out (x : Int))) &&
  (List.range 8).all (fun a => !wayB ringT n out a || (decide (0 ≤ at' out (arcX ringT false a)) && decide (at' out (arcX ringT false a) ≤ at' out (arcY ringT false a) + costN ringT a))) &&
  (List.range 4).all (fun x => decide (x = n) || (List.range 8).any fun a => decide (arcX ringT false a = (x : Int)) && wayB ringT n out a && decide (at' out (x : Int) = at' out (arcY ringT false a) + costN ringT a))
theorem way_iff (n : Nat) (out : List Int) (a : Nat) : Net.Way ringT [] n false out a ↔ wayB ringT n out a = true := by
  unfold Net.Way wayB
  have : downN [] a = false := by simp [downN]
  simp [this]
theorem dist_of {n : Nat} {out : List Int} (h : distB n out = true) : IsDist ringT [] n false out := by
  simp only [distB, Bool.and_eq_true, decide_eq_true_eq, List.all_eq_true, List.mem_range, Bool.or_eq_true, Bool.not_eq_true', List.any_eq_true] at h
  obtain ⟨⟨⟨⟨h1, h2⟩, h3⟩, h4⟩, h5⟩ := h
  refine ⟨by rw [h1]; rfl, h2, fun x hx => ?_, fun a ha hw => ?_, fun x hx _ => ?_⟩
  · have := h3 x (by have : ringT.nodes = 4 := rfl; omega); omega
  · rcases h4 a (by have : ringT.links.length = 4 := rfl; omega) with h | h
    · rw [(way_iff n out a).1 hw] at h; cases h
    · exact h
  · rcases h5 x (by have : ringT.nodes = 4 := rfl; omega) with h | ⟨a, ha, ⟨h6, h7⟩, h8⟩
    · exact .inl h
    · exact .inr ⟨a, by have : ringT.links.length = 4 := rfl; omega, h6, (way_iff n out a).2 h7, h8⟩
theorem ring_dist (d : Nat) (hd : d < 4) : distL ringT [] d false = ringD d := by
  refine distL_eq (sound_of ring_valid) (dist_of ?_)
  match d, hd with
  | 0, _ => exact (show distB 0 (ringD 0) = true by kernel_rfl)
  | 1, _ => exact (show distB 1 (ringD 1) = true by kernel_rfl)
  | 2, _ => exact (show distB 2 (ringD 2) = true by kernel_rfl)
  | 3, _ => exact (show distB 3 (ringD 3) = true by kernel_rfl)
def ringN (d : Nat) : List Int := if 0 = d ∨ (ringD d).getD 0 0 < 0 then [] else passL ringT [] (ringD d) ((ringD d).getD 0 0) d (outL ringT ((0 : Nat) : Int))
def ringTab : Tab := ⟨0, [⟨[], false, []⟩, ⟨[0], false, []⟩, ⟨[0, 7], false, []⟩, ⟨[7], false, []⟩], []⟩
theorem ring_next (d : Nat) (hd : d < 4) : nextL ringT [] 0 d = ((ringTab.ents.getD d ⟨[], false, []⟩).arcs) := by
  unfold nextL
  rw [ring_dist d hd]
  match d, hd with
  | 0, _ => exact (show ringN 0 = [] by kernel_rfl)
  | 1, _ => exact (show ringN 1 = [0] by kernel_rfl)
  | 2, _ => exact (show ringN 2 = [0, 7] by kernel_rfl)
  | 3, _ => exact (show ringN 3 = [7] by kernel_rfl)
theorem ring_routes : routesE ringT [] 0 = ringTab := by
  unfold routesE
  rw [if_pos (show chkE ringT [] [0] = 0 by kernel_rfl)]
  unfold routesT
  have h : toL ringT [] 0 4 = ringTab.ents := by
    unfold toL
    simp only [List.range, List.range.loop, List.map_cons, List.map_nil, ring_next 0 (by omega), ring_next 1 (by omega), ring_next 2 (by omega), ring_next 3 (by omega)]
    rfl
  show (⟨((0 : Nat) : Int), toL ringT [] 0 4, downL [] (outL ringT 0)⟩ : Tab) = ringTab
  rw [h]
  have h2 : downL [] (outL ringT 0) = [] := by kernel_rfl
  rw [h2]
  rfl
def ringBytes : List UInt8 := [116, 97, 98, 108, 101, 32, 48, 10, 116, 111, 32, 49, 32, 111, 118, 101, 114, 32, 48, 10, 116, 111, 32, 50, 32, 111, 118, 101, 114, 32, 48, 32, 55, 10, 116, 111, 32, 51, 32, 111, 118, 101, 114, 32, 55, 10]
theorem ring_text : textS ringTab = ringBytes := by kernel_rfl
end PW
end Go.Proofs.YtkaalpdfppbdeaaDoor

/- Package table: Routes. -/
namespace Go.Proofs.YtkaalpdfppbdeaaDoor
set_option linter.unusedVariables false
set_option linter.unusedSimpArgs false
namespace PW
open Go.RowKit Reg Mem Net

set_option maxRecDepth 10000 in
set_option maxHeartbeats 1000000 in
theorem routes_can (T : Topo) (D : List Bool) (n : Int) : Can Tryd.prog 11 [topoV T, boolsV D, num n] (· = .tuple [tabV (routesE T D n), num (chkE T D [n])]) := by
  refine can_of Tryd.func11 rfl Tryd.ntmps11 rfl ?_
  refine W_rs ?_
  refine WR_a 3 rfl <| WR_k [1, 2, 3, 6] rfl ?_
  refine W_seq ?_
  obtain ⟨q1, hq1⟩ : ∃ q, validB T = q := ⟨_, rfl⟩
  obtain ⟨q2, hq2⟩ : ∃ q, fitsB T D = q := ⟨_, rfl⟩
  refine W_csK 22 (.raw (.bool ((!q1) || (!q2)))) [1, 2, 3, 6] rfl ?_ ?_
  · refine .a 1 rfl <| .c rfl (hq1 ▸ valid_can T) rfl <| .a 2 rfl <| ?_
    cases q1
    · exact .a 5 rfl <| .k [22, 1, 2, 3, 6] rfl
    · exact .a 2 rfl <| .c rfl (hq2 ▸ fits_can T D (by have := links_le hq1; omega)) rfl <| .a 2 rfl <| .k [22, 1, 2, 3, 6] rfl
  refine W_cond rfl (fun hc => ?_) (fun hc => ?_)
  · have hch : chkE T D [n] = 1 := by
      unfold chkE
      rw [hq1, hq2, if_neg]
      revert hc
      cases q1 <;> cases q2 <;> simp
    refine W_rs ?_
    refine WR_a 3 rfl <| WR_k [6, 7] rfl ?_
    refine W_ret ?_
    exact ⟨_, _, ResL.of rfl, Pur.tupleL (PurL.cons (Pur.aggL (PurL.cons Pur.pure <| PurL.cons Pur.nils <| PurL.cons Pur.nils PurL.nil)) (PurL.cons Pur.pure PurL.nil)), by unfold routesE; rw [hch]; rfl⟩
  · have hok : (validB T && fitsB T D) = true := by
      rw [hq1, hq2]
      revert hc
      cases q1 <;> cases q2 <;> simp
    clear hc hq1 hq2
    refine W_skip ?_
    refine W_seq ?_
    refine W_cs (.a 2 rfl <| .c rfl (node_can T n) rfl <| .a 1 rfl <| .k [1, 2, 3, 6, 27] rfl) ?_
    refine W_cond rfl (fun hc => ?_) (fun hc => ?_)
    · have hn : nodeB T n = false := by revert hc; cases nodeB T n <;> simp
      have hch : chkE T D [n] = 2 := by
        unfold chkE
        rw [if_pos hok, if_neg]
        simp [hn]
      refine W_rs ?_
      refine WR_a 3 rfl <| WR_k [6, 7] rfl ?_
      refine W_ret ?_
      exact ⟨_, _, ResL.of rfl, Pur.tupleL (PurL.cons (Pur.aggL (PurL.cons Pur.pure <| PurL.cons Pur.nils <| PurL.cons Pur.nils PurL.nil)) (PurL.cons Pur.pure PurL.nil)), by unfold routesE; rw [hch]; rfl⟩
    · have hn : nodeB T n = true := by revert hc; cases nodeB T n <;> simp
      have hch : chkE T D [n] = 0 := by
        unfold chkE
        rw [if_pos hok, if_pos]
        simp [hn]
      obtain ⟨hv, hf⟩ := Bool.and_eq_true_iff.1 hok
      rw [nodeB_iff] at hn
      obtain ⟨m, rfl⟩ := Int.eq_ofNat_of_zero_le hn.1
      obtain ⟨N, hN⟩ : ∃ N : Nat, T.nodes = (N : Int) := ⟨T.nodes.toNat, by omega⟩
      have hN64 : N ≤ 64 := by have := (sound_of hv).nodes; omega
      have hll := links_le hv
      refine W_skip ?_
      refine W_rs ?_
      refine WR_a 4 rfl <| WR_k [1, 2, 3, 6, 8] rfl ?_
      refine W_adoptCell 1 1 40 3 rfl rfl ?_
      refine W_adoptCell 1 2 3 1 rfl rfl ?_
      refine W_seq ?_
      refine W_cs (.a 1 rfl <| .v (y_ld rfl ((show some (num T.nodes) = some (num (N : Int)) by rw [hN]))) rfl <| .a 1 rfl <| .k [1, 2, 3, 6, 8, 32, 33] rfl) ?_
      refine W_block ?_
      refine W_k [1, 2, 3, 6, 8, 32, 33] rfl ?_
      refine W_loop (fun r s => ∃ j, j ≤ N ∧ r = N - j ∧ s = ⟨[(1, boolsV D), (2, num m), (3, .pin (topoP T) 0), (6, .ptr 0 0), (8, .ptr 1 0), (32, num N), (33, num j)], [some (.cells 31 [num 0, .raw (.slice none 0 0), .raw (.slice none 0 0)]), some (.cells 31 [num m, .own 2, .own 3]), some (.row 40 3 j (entsP (toL T D m j))), some (.row 3 1 0 [])]⟩) N ⟨0, by omega, by omega, rfl⟩ ?_
      rintro r s ⟨j, hj, rfl, rfl⟩
      refine W_cs (.a 1 rfl <| .k [1, 2, 3, 6, 8, 32, 33, 34] rfl) ?_
      refine W_seq ?_
      refine W_cond rfl (fun hc => ?_) (fun hc => ?_)
      · have hlt : j < N := by have := of_decide_eq_true hc; omega
        have hne : nodeE T D (m : Int) (j : Int) = 0 := by
          have hnb : nodeB T (j : Int) = true := nodeB_iff.2 ⟨by omega, by omega⟩
          have hch' : chkE T D [(j : Int)] = 0 := by
            unfold chkE
            rw [if_pos hok, if_pos]
            simp [hnb]
          unfold nodeE
          rw [if_pos hch', if_pos (nodeB_iff.2 hn)]
        have hnx : Can Tryd.prog 30 [topoV T, boolsV D, num m, num j] (· = .tuple [intsV (nextL T D m j), num 0]) := by
          have h := next_can T D (m : Int) (j : Int)
          rw [hne] at h
          exact h
        refine W_skip ?_
        refine W_seq ?_
        refine W_block ?_
        refine W_cs (.a 2 rfl <| .k [1, 2, 3, 6, 8, 9, 32, 33] rfl) ?_
        refine W_cs (.a 4 rfl <| .c rfl (hnx) rfl <| .a 5 rfl <| .k [1, 2, 3, 6, 8, 10, 32, 33] rfl) ?_
        refine W_region ?_
        refine WR_a 3 rfl <| WR_v (y_le (y_build (xs := [_, _, _]) rfl (fok.st.get rfl) rfl rfl) (PLe.aggL (.cons (PLe.refl _) <| .cons (PLe.refl _) <| .cons PLe.nils .nil))) rfl <| WR_a 1 rfl <| WR_l (l_append rfl (fok.rk.get rfl) rfl rfl rfl rfl (by unfold maxLen; omega)) rfl <| WR_a 2 rfl ?_
        refine WR_ren [0, 1, 4, 3] (.c 1 <| .c 2 <| .c 3 <| .c 6 <| .c 8 <| .c 32 <| .c 33 <| .nil) (.kept rfl (.cells (RenL.c <| RenL.c <| RenL.c <| RenL.nil)) <| .kept rfl (.cells (RenL.c <| RenL.c <| RenL.c <| RenL.nil)) <| .kept rfl (.rowP rfl (show _ = entsP (toL T D m (j + 1)) by rw [toL_step]; exact entsP_snoc _ ⟨nextL T D m j, false, []⟩)) <| .kept rfl (.row RenL.pure) <| .nil) rfl rfl (WR_nil ?_)
        refine W_chain (.v (y_ar rfl) rfl <| .a 1 rfl <| .k [1, 2, 3, 6, 8, 32, 33] rfl) ?_
        exact ⟨N - (j + 1), by omega, j + 1, by omega, rfl, rfl⟩
      · have hje : j = N := by have := of_decide_eq_false hc; omega
        subst hje
        refine W_exit ?_
        refine W_seq ?_
        have hol : (outL T m).length ≤ 512 := Nat.le_trans (outTo_len T m _) (by omega)
        refine W_cs (.a 2 rfl <| .c rfl (out_can T hll _) rfl <| .a 2 rfl <| .k [1, 6, 8, 54, 55, 56] rfl) ?_
        refine W_block ?_
        refine W_k [1, 6, 8, 54, 55, 56] rfl ?_
        refine W_loop (fun r s => ∃ i, i ≤ (outL T m).length ∧ r = (outL T m).length - i ∧ s = ⟨[(1, boolsV D), (6, .ptr 0 0), (8, .ptr 1 0), (54, intsV (outL T m)), (55, num (outL T m).length), (56, num i)], [some (.cells 31 [num 0, .raw (.slice none 0 0), .raw (.slice none 0 0)]), some (.cells 31 [num m, .own 2, .own 3]), some (.row 40 3 j (entsP (toL T D m j))), some (.row 3 1 (downL D ((outL T m).take i)).length (intsP (downL D ((outL T m).take i))))]⟩) (outL T m).length ⟨0, by omega, by omega, rfl⟩ ?_
        rintro r s ⟨i, hi, rfl, rfl⟩
        refine W_cs (.a 1 rfl <| .k [1, 6, 8, 54, 55, 56, 57] rfl) ?_
        refine W_seq ?_
        refine W_cond rfl (fun hc => ?_) (fun hc => ?_)
        · have hlt : i < (outL T m).length := by have := of_decide_eq_true hc; omega
          obtain ⟨h0, h1⟩ := outL_mem (getD_mem (d := 0) hlt)
          obtain ⟨a, ha⟩ := Int.eq_ofNat_of_zero_le h0
          have hDl : D.length = 0 ∨ a < D.length := by simp only [fitsB, decide_eq_true_eq] at hf; omega
          have hstep : downL D ((outL T m).take (i + 1)) = downL D ((outL T m).take i) ++ (if downN D a then [(a : Int)] else []) := by
            unfold downL
            rw [take_step _ i 0 hlt, List.filter_append, ha]
            simp only [List.filter_cons, List.filter_nil, Int.toNat_natCast]
          have hdl : (downL D ((outL T m).take i)).length ≤ 1000 := Nat.le_trans (List.length_filter_le _ _) (by rw [List.length_take]; have := outTo_len T m (2 * T.links.length); unfold outL at *; omega)
          refine W_skip ?_
          refine W_seq ?_
          refine W_block ?_
          refine W_cs (.v (y_ix (i) rfl) rfl <| .v (y_ld rfl ((ints_get _ i hlt).trans (by rw [ha]))) rfl <| .a 1 rfl <| .k [1, 6, 8, 13, 54, 55, 56] rfl) ?_
          refine W_cs (.a 2 rfl <| .c rfl (down_can D a hDl) rfl <| .k [1, 6, 8, 13, 54, 55, 56, 62] rfl) ?_
          refine W_cond rfl (fun hcd => ?_) (fun hcd => ?_)
          · rw [hcd, if_pos rfl] at hstep
            refine W_region ?_
            refine WR_a 4 rfl <| WR_l (l_append rfl (fok.rk.get rfl) rfl rfl rfl rfl (by unfold maxLen; omega)) rfl <| WR_a 2 rfl ?_
            refine WR_ren [0, 1, 2, 4] (.c 1 <| .c 6 <| .c 8 <| .c 54 <| .c 55 <| .c 56 <| .nil) (.kept rfl (.cells (RenL.c <| RenL.c <| RenL.c <| RenL.nil)) <| .kept rfl (.cells (RenL.c <| RenL.c <| RenL.c <| RenL.nil)) <| .kept rfl (.row RenL.pure) <| .kept rfl (.rowP rfl (intsP_snoc _ _)) <| .nil) rfl rfl (WR_nil ?_)
            refine W_chain (.v (y_ar rfl) rfl <| .a 1 rfl <| .k [1, 6, 8, 54, 55, 56] rfl) ?_
            refine ⟨(outL T m).length - (i + 1), by omega, i + 1, by omega, rfl, ?_⟩
            rw [hstep]
            first
              | rfl
              | (simp only [List.length_append, List.length_singleton]; rfl)
          · rw [hcd, if_neg (by simp), List.append_nil] at hstep
            refine W_skip ?_
            refine W_chain (.v (y_ar rfl) rfl <| .a 1 rfl <| .k [1, 6, 8, 54, 55, 56] rfl) ?_
            refine ⟨(outL T m).length - (i + 1), by omega, i + 1, by omega, rfl, ?_⟩
            rw [hstep]
            first
              | rfl
              | (simp only [List.length_append, List.length_singleton]; rfl)
        · have hie : i = (outL T m).length := by have := of_decide_eq_false hc; omega
          subst hie
          refine W_exit ?_
          refine W_rs ?_
          refine WR_v (y_loadPtrAgg (ys := [num m, .own 2, .own 3]) rfl (fok.tk.get rfl) rfl rfl rfl rfl) rfl <| WR_a 2 rfl <| WR_k [6, 7] rfl ?_
          refine W_ret ?_
          refine ⟨_, _, ResL.of rfl, Pur.tupleL (PurL.cons (Pur.aggL (PurL.cons Pur.pure <| PurL.cons (Pur.ownL rfl PurL.pure) <| PurL.cons (Pur.ownL rfl PurL.pure) PurL.nil)) (PurL.cons Pur.pure PurL.nil)), ?_⟩
          unfold routesE
          rw [hch, if_pos rfl, List.take_length]
          unfold routesT tabV tabP entsV intsV
          rw [toL_len, show T.nodes.toNat = j by omega]
          rfl
end PW
end Go.Proofs.YtkaalpdfppbdeaaDoor

/- The laws on tables: awake, large. -/
namespace Go.Proofs.YtkaalpdfppbdeaaDoor
set_option linter.unusedVariables false
set_option linter.unusedSimpArgs false
namespace PW
open Go.RowKit Reg Mem Net

theorem lnksP_snoc (l : List Lnk) (e : Lnk) : lnksP l ++ lnkP e = lnksP (l ++ [e]) := by simp [lnksP]
theorem ringL_step (k : Nat) : ringL (k + 1) = ringL k ++ [⟨(k : Int), (((k + 1) % 4 : Nat) : Int), 1, 1, 0, 1, 0⟩] := by simp [ringL, List.range_succ]
/-- A pair of constants. -/
theorem y_build2 {P : Program} {σ : Sto} {t : Tms} {o : Oper} {ty : TypeId} {v0 v1 c0 c1 : Value} (ho : o.op = .build ty #[(0, .const v0), (1, .const v1)]) (hb : P.built ty [(0, v0), (1, v1)] = some #[c0, c1]) : Yield P σ t o (.agg [.raw c0, .raw c1]) := by
  intro F base E ρ w hρ hS hT
  have hrun := run_build (P := P) w ty #[(0, v0), (1, v1)] #[c0, c1] hb
  have h0 : ρ (.const v0) = v0 := hρ.const v0
  have h1 : ρ (.const v1) = v1 := hρ.const v1
  have hr : (execOp ρ o).run P w = .ok (.value (.agg #[c0, c1])) w := by
    simp only [execOp, ho, Sem.run_bind, List.map_toArray, List.map_cons, List.map_nil, h0, h1, hrun, Result.andThen_ok, Sem.run_pure]
  rw [hr]
  refine upon_val (.agg #[c0, c1] _ rfl (fun i x u k1 k2 => ?_))
  match i, k1, k2 with
  | 0, k1, k2 => simp at k1 k2; subst k1; subst k2; exact .raw _
  | 1, k1, k2 => simp at k1 k2; subst k1; subst k2; exact .raw _
  | _ + 2, k1, k2 => simp at k2
theorem ring_small : Small ringTab := by
  refine ⟨by decide, by decide, fun e he => ?_, by decide, fun a ha => by cases ha⟩
  simp [ringTab] at he
  rcases he with rfl | rfl | rfl | rfl <;> simp
theorem ring_len1 : (List.range 5).all (fun k => Nat.ble ((lineL [[116, 97, 98, 108, 101], Lib.decDigits ringTab.node.toNat]).length + (entsT ringTab.ents k).length) 100000000) = true := by kernel_rfl
theorem ring_len2 : (List.range 4).all (fun d => Nat.ble (lineL ([[116, 111], Lib.decDigits d, [111, 118, 101, 114]] ++ numsT (ringTab.ents.getD d ⟨[], false, []⟩).arcs)).length 100000000) = true := by kernel_rfl
theorem ring_len3 : Nat.ble (lineL ([100, 111, 119, 110] :: numsT ringTab.down)).length 100000000 = true := by kernel_rfl
theorem ring_text_can : Can Tryd.prog 16 [tabV ringTab] (· = strV ringBytes) := by
  rw [← ring_text]
  refine text_small ringTab ring_small (fun k hk => ?_) (fun d e he => ?_) (Nat.le_of_ble_eq_true ring_len3)
  · have h4 : k ≤ 4 := hk
    exact Nat.le_of_ble_eq_true (List.all_eq_true.1 ring_len1 k (List.mem_range.2 (by omega)))
  · have hd : d < ringTab.ents.length := (List.getElem?_eq_some_iff.1 he).1
    have h4 : d < 4 := hd
    have h := Nat.le_of_ble_eq_true (List.all_eq_true.1 ring_len2 d (List.mem_range.2 h4))
    rw [show ringTab.ents.getD d ⟨[], false, []⟩ = e by rw [List.getD_eq_getElem?_getD, he]; rfl] at h
    exact h

set_option maxRecDepth 10000 in
set_option maxHeartbeats 1000000 in
theorem awake_can : Can Tryd.prog 9 [] (· = flag true) := by
  have hro := routes_can ringT [] 0
  rw [ring_routes, show chkE ringT [] [0] = 0 by kernel_rfl] at hro
  refine can_of Tryd.func9 rfl Tryd.ntmps9 rfl ?_
  refine W_cs (.a 1 rfl <| .k [] rfl) ?_
  refine W_cs (.a 1 rfl <| .k [1] rfl) ?_
  refine W_adopt 1 56 7 rfl ?_
  refine W_seq ?_
  refine W_cs (.a 1 rfl <| .k [1, 5] rfl) ?_
  refine W_block ?_
  refine W_k [1, 5] rfl ?_
  refine W_loop (fun r s => ∃ k, k ≤ 4 ∧ r = 4 - k ∧ s = ⟨[(1, .own 0), (5, num k)], [some (.row 56 7 k (lnksP (ringL k)))]⟩) 4 ⟨0, by omega, by omega, rfl⟩ ?_
  rintro r s ⟨k, hk, rfl, rfl⟩
  refine W_cs (.a 1 rfl <| .k [1, 5, 6] rfl) ?_
  refine W_seq ?_
  refine W_cond rfl (fun hc => ?_) (fun hc => ?_)
  · have hlt : k < 4 := by have := of_decide_eq_true hc; omega
    refine W_skip ?_
    refine W_seq ?_
    refine W_block ?_
    refine W_cs (.a 2 rfl <| .k [1, 2, 5] rfl) ?_
    refine W_region ?_
    refine WR_a 3 rfl <| WR_v (y_ar rfl) rfl <| WR_v (y_rem rfl rfl rfl (by decide) ((show ((k : Int) + 1).tmod 4 = (((k + 1) % 4 : Nat) : Int) by rw [Int.tmod_eq_emod_of_nonneg (by omega)]; omega))) rfl <| WR_v (y_build2 rfl (show Tryd.prog.built 54 [(0, .int .i64 1), (1, .int .i64 1)] = some #[.int .i64 1, .int .i64 1] by kernel_rfl)) rfl <| WR_a 2 rfl <| WR_l (l_append rfl (fok.rk.get rfl) rfl rfl rfl rfl (by unfold maxLen; omega)) rfl <| WR_a 1 rfl ?_
    refine WR_ren [1] (.c 1 <| .c 5 <| .nil) (.kept rfl (.rowP rfl (show _ = lnksP (ringL (k + 1)) by rw [ringL_step]; exact lnksP_snoc _ ⟨(k : Int), (((k + 1) % 4 : Nat) : Int), 1, 1, 0, 1, 0⟩)) <| .nil) rfl rfl (WR_nil ?_)
    refine W_chain (.v (y_ar rfl) rfl <| .a 1 rfl <| .k [1, 5] rfl) ?_
    exact ⟨4 - (k + 1), by omega, k + 1, by omega, rfl, rfl⟩
  · have hke : k = 4 := by have := of_decide_eq_false hc; omega
    subst hke
    refine W_seal 1 0 rfl rfl ?_
    refine W_ren [] (.cons 1 rfl (Ren.pure (p := .slice 4 (lnksP (ringL 4)))) .nil) .nil rfl rfl ?_
    refine W_exit ?_
    refine W_rs ?_
    refine WR_a 2 rfl <| WR_v (y_cP rfl (PurL.cons (Pur.aggL (PurL.cons Pur.pure <| PurL.cons Pur.nils <| PurL.cons Pur.pure PurL.nil)) <| PurL.cons Pur.nils <| PurL.cons Pur.pure PurL.nil) (hro)) rfl <| WR_a 6 rfl <| WR_k [3, 4] rfl ?_
    refine W_sto (σ' := [some (.cells 31 (tabP ringTab))]) rfl ?_
    refine W_sealPtr 3 0 0 rfl rfl ?_
    refine W_ren [] (.cons 3 rfl (Ren.pure (p := .pin (tabP ringTab) 0)) <| .cons 4 rfl Ren.pure .nil) .nil rfl rfl ?_
    refine W_csK 0 (.raw (.bool (true))) [] rfl ?_ ?_
    · exact .a 4 rfl <| .c rfl (ring_text_can) rfl <| .v (y_strEql rfl rfl rfl (beq_self_eq_true (ByteArray.toList ⟨ringBytes.toArray⟩))) rfl <| .a 2 rfl <| .k [0] rfl
    refine W_ret ?_
    exact ⟨_, _, ResL.of rfl, Pur.pure, rfl⟩
end PW
end Go.Proofs.YtkaalpdfppbdeaaDoor

/- The law TableRoutes, walked. -/
namespace Go.Proofs.YtkaalpdfppbdeaaDoor
set_option linter.unusedVariables false
set_option linter.unusedSimpArgs false
namespace PW
open Go.RowKit Reg Mem Net

def largeB (T : Topo) (D : List Bool) : Bool := ((decide (100 < (T.over.length : Int)) || decide (24 < (T.links.length : Int))) || decide (100 < (D.length : Int))) || decide (16 < T.nodes)
set_option maxRecDepth 10000 in
set_option maxHeartbeats 1000000 in
theorem large_can (T : Topo) (D : List Bool) : Can Tryd.prog 10 [topoV T, boolsV D] (· = flag (largeB T D)) := by
  obtain ⟨p1, hp1⟩ : ∃ q, decide (100 < (T.over.length : Int)) = q := ⟨_, rfl⟩
  obtain ⟨p2, hp2⟩ : ∃ q, decide (24 < (T.links.length : Int)) = q := ⟨_, rfl⟩
  obtain ⟨p3, hp3⟩ : ∃ q, decide (100 < (D.length : Int)) = q := ⟨_, rfl⟩
  obtain ⟨p4, hp4⟩ : ∃ q, decide (16 < T.nodes) = q := ⟨_, rfl⟩
  have he : largeB T D = (((p1 || p2) || p3) || p4) := by unfold largeB; rw [hp1, hp2, hp3, hp4]
  rw [he]
  refine can_of Tryd.func10 rfl Tryd.ntmps10 rfl ?_
  refine W_cs (.a 2 rfl <| .k [1, 2] rfl) ?_
  refine W_csK 4 (.raw (.bool (((p1 || p2) || p3) || p4))) [] rfl ?_ ?_
  · refine .a 3 rfl <| .v (y_q rfl (hp1)) rfl <| .a 1 rfl <| ?_
    cases p1
    · refine .a 3 rfl <| .v (y_q rfl (hp2)) rfl <| .a 2 rfl <| ?_
      cases p2
      · refine .a 2 rfl <| .v (y_q rfl (hp3)) rfl <| .a 2 rfl <| ?_
        cases p3
        · exact .a 2 rfl <| .v (y_q rfl (hp4)) rfl <| .a 2 rfl <| .k [4] rfl
        · exact .a 5 rfl <| .k [4] rfl
      · exact .a 10 rfl <| .k [4] rfl
    · exact .a 16 rfl <| .k [4] rfl
  refine W_ret ?_
  exact ⟨_, _, ResL.of rfl, Pur.pure, rfl⟩

set_option maxRecDepth 10000 in
set_option maxHeartbeats 1000000 in
theorem lawRoutes_can (T : Topo) (D : List Bool) (n : Int) : Can Tryd.prog 3 [topoV T, boolsV D, num n] (· = flag true) := by
  have hsame := rtab_can (routesE T D n) (routesE T D n)
  rw [decide_eq_true rfl] at hsame
  have he : decide (chkE T D [n] = chkE T D [n]) = true := decide_eq_true rfl
  refine can_of Tryd.func3 rfl Tryd.ntmps3 rfl ?_
  refine W_cs (.a 2 rfl <| .k [1, 2, 3] rfl) ?_
  refine W_seq ?_
  refine W_cs (.c rfl (awake_can) rfl <| .a 1 rfl <| .k [1, 2, 3, 12] rfl) ?_
  refine W_cond rfl (fun hc => ?_) (fun hc => ?_)
  · cases hc
  · refine W_skip ?_
    refine W_seq ?_
    refine W_cs (.a 2 rfl <| .c rfl (large_can T D) rfl <| .k [1, 2, 3, 15] rfl) ?_
    refine W_cond rfl (fun hc => ?_) (fun hc => ?_)
    · refine W_cs (.a 1 rfl <| .k [6] rfl) ?_
      refine W_ret ?_
      exact ⟨_, _, ResL.of rfl, Pur.pure, rfl⟩
    · refine W_skip ?_
      refine W_rs ?_
      refine WR_a 3 rfl <| WR_c rfl (routes_can T D n) rfl <| WR_a 6 rfl <| WR_k [1, 2, 3, 7, 8] rfl ?_
      refine W_sto (σ' := [some (.cells 31 (tabP (routesE T D n)))]) rfl ?_
      refine W_sealPtr 7 0 0 rfl rfl ?_
      refine W_ren [] (.cons 1 rfl Ren.pure <| .cons 2 rfl Ren.pure <| .cons 3 rfl Ren.pure <| .cons 7 rfl Ren.pure <| .cons 8 rfl Ren.pure .nil) .nil rfl rfl ?_
      refine W_rs ?_
      refine WR_a 3 rfl <| WR_c rfl (rroutes_can T D n) rfl <| WR_a 6 rfl <| WR_k [7, 8, 9, 10] rfl ?_
      refine W_sto (σ' := [some (.cells 31 (tabP (routesE T D n)))]) rfl ?_
      refine W_sealPtr 9 0 0 rfl rfl ?_
      refine W_ren [] (.cons 7 rfl Ren.pure <| .cons 8 rfl Ren.pure <| .cons 9 rfl Ren.pure <| .cons 10 rfl Ren.pure .nil) .nil rfl rfl ?_
      refine W_csK 6 (.raw (.bool (true))) [] rfl ?_ ?_
      · exact .a 2 rfl <| .v (y_eql rfl rfl rfl he) rfl <| .a 3 rfl <| .c rfl (hsame) rfl <| .a 2 rfl <| .k [6] rfl
      refine W_ret ?_
      exact ⟨_, _, ResL.of rfl, Pur.pure, rfl⟩
end PW
end Go.Proofs.YtkaalpdfppbdeaaDoor

/- slices.Equal, slices.EqualFunc; package table: Same; the law's wide. -/
namespace Go.Proofs.YtkaalpdfppbdeaaDoor
set_option linter.unusedVariables false
set_option linter.unusedSimpArgs false
namespace PW
open Go.RowKit Reg Mem Net

set_option maxRecDepth 10000 in
set_option maxHeartbeats 1000000 in
theorem eqInts_can (L M : List Int) : Can Tryd.prog 46 [intsV L, intsV M] (· = flag (sameB L M)) := by
  refine can_rep fun ⟨E, w, vs, hR⟩ => ?_
  obtain ⟨v, _, hv⟩ := hR.get (i := 0) rfl
  have hm := rep_len hv
  unfold maxLen at hm
  refine can_of Tryd.func46 rfl Tryd.ntmps46 rfl ?_
  refine W_cs (.a 1 rfl <| .k [0, 1] rfl) ?_
  refine W_seq ?_
  refine W_cs (.a 5 rfl <| .k [0, 1, 10] rfl) ?_
  refine W_cond rfl (fun hc => ?_) (fun hc => ?_)
  · rw [← same_len L M (by have := tt hc; omega)]
    refine W_cs (.a 1 rfl <| .k [4] rfl) ?_
    refine W_ret ?_
    exact ⟨_, _, ResL.of rfl, Pur.pure, rfl⟩
  · have hlen : M.length = L.length := by have := ff hc; omega
    refine W_skip ?_
    refine W_seq ?_
    refine W_cs (.a 3 rfl <| .k [0, 1, 12, 13] rfl) ?_
    refine W_block ?_
    refine W_k [0, 1, 12, 13] rfl ?_
    refine W_loop (fun r s => ∃ k, k ≤ L.length ∧ r = L.length - k ∧ (∀ i, i < k → L.getD i 0 = M.getD i 0) ∧ s = ⟨[(0, intsV L), (1, intsV M), (12, num L.length), (13, num k)], []⟩) L.length ⟨0, by omega, by omega, fun i hi => by omega, rfl⟩ ?_
    rintro r s ⟨k, hk, rfl, hall, rfl⟩
    refine W_cs (.a 1 rfl <| .k [0, 1, 12, 13, 14] rfl) ?_
    refine W_seq ?_
    refine W_cond rfl (fun hc => ?_) (fun hc => ?_)
    · have hlt : k < L.length := by have := tt hc; omega
      refine W_skip ?_
      refine W_seq ?_
      refine W_block ?_
      refine W_cs (.a 2 rfl <| .k [0, 1, 5, 12, 13] rfl) ?_
      refine W_drs mixed (by kernel_rfl) (.a 2 rfl <| .v [16, 17] (y_ix (k) rfl) rfl rfl <| .v [18] (y_ld rfl (ints_get L k hlt)) rfl rfl <| .a 2 rfl <| .v [20, 21] (y_ix (k) rfl) rfl rfl <| .v [22] (y_ld rfl (ints_get M k (by omega))) rfl rfl <| .a 1 rfl <| .k [0, 1, 12, 13, 24] rfl) ?_
      refine W_cond rfl (fun hx => ?_) (fun hx => ?_)
      · rw [← same_at L M k (tt hx)]
        refine W_cs (.a 1 rfl <| .k [4] rfl) ?_
        refine W_ret ?_
        exact ⟨_, _, ResL.of rfl, Pur.pure, rfl⟩
      · have hx' : L.getD k 0 = M.getD k 0 := by have := ff hx; omega
        refine W_skip ?_
        refine W_chain (.v (y_ar rfl) rfl <| .a 1 rfl <| .k [0, 1, 12, 13] rfl) ?_
        refine ⟨L.length - (k + 1), by omega, k + 1, by omega, rfl, fun i hi => ?_, rfl⟩
        by_cases h : i = k
        · rw [h]; exact hx'
        · exact hall i (by omega)
    · have hke : k = L.length := by have := ff hc; omega
      rw [← same_all L M hlen (fun i hi => hall i (by omega))]
      refine W_exit ?_
      refine W_cs (.a 1 rfl <| .k [4] rfl) ?_
      refine W_ret ?_
      exact ⟨_, _, ResL.of rfl, Pur.pure, rfl⟩
set_option maxRecDepth 10000 in
set_option maxHeartbeats 1000000 in
theorem eqSegs_can (L M : List Seg) : Can Tryd.prog 47 [segsV L, segsV M] (· = flag (decide (L = M))) := by
  refine can_rep fun ⟨E, w, vs, hR⟩ => ?_
  obtain ⟨v, _, hv⟩ := hR.get (i := 0) rfl
  have hm := rep_len hv
  unfold maxLen at hm
  refine can_of Tryd.func47 rfl Tryd.ntmps47 rfl ?_
  refine W_cs (.a 1 rfl <| .k [0, 1] rfl) ?_
  refine W_seq ?_
  refine W_cs (.a 5 rfl <| .k [0, 1, 10] rfl) ?_
  refine W_cond rfl (fun hc => ?_) (fun hc => ?_)
  · have hne : L ≠ M := fun e => by have := tt hc; rw [e] at this; exact this rfl
    rw [decide_eq_false hne]
    refine W_cs (.a 1 rfl <| .k [4] rfl) ?_
    refine W_ret ?_
    exact ⟨_, _, ResL.of rfl, Pur.pure, rfl⟩
  · have hlen : L.length = M.length := by have := ff hc; omega
    refine W_skip ?_
    refine W_seq ?_
    refine W_cs (.a 3 rfl <| .k [0, 1, 12, 13] rfl) ?_
    refine W_block ?_
    refine W_k [0, 1, 12, 13] rfl ?_
    refine W_loop (fun r s => ∃ k, k ≤ L.length ∧ r = L.length - k ∧ (∀ j, j < k → L[j]? = M[j]?) ∧ s = ⟨[(0, segsV L), (1, segsV M), (12, num L.length), (13, num k)], []⟩) L.length ⟨0, by omega, by omega, fun i hi => by omega, rfl⟩ ?_
    rintro r s ⟨i, hi, rfl, hall, rfl⟩
    refine W_cs (.a 1 rfl <| .k [0, 1, 12, 13, 14] rfl) ?_
    refine W_seq ?_
    refine W_cond rfl (fun hc => ?_) (fun hc => ?_)
    · have hlt : i < L.length := by have := tt hc; omega
      obtain ⟨a, ha⟩ : ∃ a, L[i]? = some a := ⟨L[i], by simp [hlt]⟩
      obtain ⟨b, hb⟩ : ∃ b, M[i]? = some b := ⟨M[i]'(by omega), by simp [show i < M.length by omega]⟩
      refine W_skip ?_
      refine W_seq ?_
      refine W_block ?_
      refine W_cs (.a 2 rfl <| .k [0, 1, 5, 12, 13] rfl) ?_
      refine W_drs mixed (by kernel_rfl) (.a 2 rfl <| .v [16, 17] (y_ix (i * 2) rfl) rfl rfl <| .v [18] (y_la rfl (segs_drop L i a ha) rfl) rfl rfl <| .a 2 rfl <| .v [20, 21] (y_ix (i * 2) rfl) rfl rfl <| .v [22] (y_la rfl (segs_drop M i b hb) rfl) rfl rfl <| .v [19, 23] (y_segNeq (a := a) (b := b) rfl rfl rfl rfl) rfl rfl <| .k [0, 1, 12, 13, 24] rfl) ?_
      refine W_cond rfl (fun hc => ?_) (fun hc => ?_)
      · have hne : L ≠ M := fun e => by rw [e, hb] at ha; cases ha; exact tt hc rfl
        rw [decide_eq_false hne]
        refine W_cs (.a 1 rfl <| .k [4] rfl) ?_
        refine W_ret ?_
        exact ⟨_, _, ResL.of rfl, Pur.pure, rfl⟩
      · have hab : a = b := Classical.byContradiction (ff hc)
        refine W_skip ?_
        refine W_chain (.v (y_ar rfl) rfl <| .a 1 rfl <| .k [0, 1, 12, 13] rfl) ?_
        exact ⟨L.length - (i + 1), by omega, i + 1, by omega, rfl, fun j hj => by by_cases e : j = i; (rw [e, ha, hb, hab]); exact hall j (by omega), rfl⟩
    · have hie : i = L.length := by have := ff hc; omega
      have heq : L = M := List.ext_getElem? fun j => by
        by_cases hj : j < L.length
        · exact hall j (by omega)
        · rw [List.getElem?_eq_none (by omega), List.getElem?_eq_none (by omega)]
      rw [decide_eq_true heq]
      refine W_exit ?_
      refine W_cs (.a 1 rfl <| .k [4] rfl) ?_
      refine W_ret ?_
      exact ⟨_, _, ResL.of rfl, Pur.pure, rfl⟩
set_option maxRecDepth 10000 in
set_option maxHeartbeats 1000000 in
theorem same1_can (a b : Ent) : Can Tryd.prog 45 [entV a, entV b] (· = flag (entB a b)) := by
  obtain ⟨p1, hp1⟩ : ∃ q, (a.rep == b.rep) = q := ⟨_, rfl⟩
  obtain ⟨p2, hp2⟩ : ∃ q, sameB a.arcs b.arcs = q := ⟨_, rfl⟩
  obtain ⟨p3, hp3⟩ : ∃ q, decide (a.push = b.push) = q := ⟨_, rfl⟩
  have he : entB a b = ((p1 && p2) && p3) := by unfold entB; rw [hp1, hp2, hp3]
  rw [he]
  refine can_of Tryd.func45 rfl Tryd.ntmps45 rfl ?_
  refine W_cs (.a 3 rfl <| .k [2, 3] rfl) ?_
  refine W_csK 4 (.raw (.bool ((p1 && p2) && p3))) [] rfl ?_ ?_
  · refine .a 4 rfl <| .v (y_q rfl (hp1)) rfl <| .a 1 rfl <| ?_
    cases p1
    · exact .a 14 rfl <| .k [4] rfl
    · refine .a 4 rfl <| .c rfl (hp2 ▸ eqInts_can a.arcs b.arcs) rfl <| .a 2 rfl <| ?_
      cases p2
      · exact .a 7 rfl <| .k [4] rfl
      · exact .a 4 rfl <| .c rfl (hp3 ▸ eqSegs_can a.push b.push) rfl <| .a 2 rfl <| .k [4] rfl
  refine W_ret ?_
  exact ⟨_, _, ResL.of rfl, Pur.pure, rfl⟩
set_option maxRecDepth 10000 in
set_option maxHeartbeats 1000000 in
theorem eqEnts_can (A B : List Ent) : Can Tryd.prog 48 [entsV A, entsV B, .func 45 []] (· = flag (decide (A = B))) := by
  refine can_rep fun ⟨E, w, vs, hR⟩ => ?_
  obtain ⟨v, _, hv⟩ := hR.get (i := 0) rfl
  have hm := rep_len hv
  unfold maxLen at hm
  refine can_of Tryd.func48 rfl Tryd.ntmps48 rfl ?_
  refine W_cs (.a 1 rfl <| .k [0, 1, 2] rfl) ?_
  refine W_seq ?_
  refine W_cs (.a 5 rfl <| .k [0, 1, 2, 14] rfl) ?_
  refine W_cond rfl (fun hc => ?_) (fun hc => ?_)
  · have hne : A ≠ B := fun e => by have := tt hc; rw [e] at this; exact this rfl
    rw [decide_eq_false hne]
    refine W_cs (.a 1 rfl <| .k [6] rfl) ?_
    refine W_ret ?_
    exact ⟨_, _, ResL.of rfl, Pur.pure, rfl⟩
  · have hlen : A.length = B.length := by have := ff hc; omega
    refine W_skip ?_
    refine W_seq ?_
    refine W_cs (.a 3 rfl <| .k [1, 2, 15, 16, 17] rfl) ?_
    refine W_block ?_
    refine W_k [1, 2, 15, 16, 17] rfl ?_
    refine W_loop (fun r s => ∃ k, k ≤ A.length ∧ r = A.length - k ∧ (∀ j, j < k → A[j]? = B[j]?) ∧ s = ⟨[(1, entsV B), (2, .func 45 []), (15, entsV A), (16, num A.length), (17, num k)], []⟩) A.length ⟨0, by omega, by omega, fun i hi => by omega, rfl⟩ ?_
    rintro r s ⟨i, hi, rfl, hall, rfl⟩
    refine W_cs (.a 1 rfl <| .k [1, 2, 15, 16, 17, 18] rfl) ?_
    refine W_seq ?_
    refine W_cond rfl (fun hc => ?_) (fun hc => ?_)
    · have hlt : i < A.length := by have := tt hc; omega
      obtain ⟨a, ha⟩ : ∃ a, A[i]? = some a := ⟨A[i], by simp [hlt]⟩
      obtain ⟨b, hb⟩ : ∃ b, B[i]? = some b := ⟨B[i]'(by omega), by simp [show i < B.length by omega]⟩
      refine W_skip ?_
      refine W_seq ?_
      refine W_block ?_
      refine W_rs ?_
      refine WR_a 1 rfl <| WR_v (y_ix (i * 3) rfl) rfl <| WR_v (y_la rfl (ents_drop A i a ha) rfl) rfl <| WR_a 3 rfl <| WR_k [1, 2, 7, 8, 15, 16, 17] rfl ?_
      refine W_rs ?_
      refine WR_a 2 rfl <| WR_v (y_ix (i * 3) rfl) rfl <| WR_v (y_la rfl (ents_drop B i b hb) rfl) rfl <| WR_a 2 rfl <| WR_k [1, 2, 8, 9, 15, 16, 17] rfl ?_
      refine W_cs (.a 3 rfl <| .c rfl (same1_can a b) rfl <| .a 1 rfl <| .k [1, 2, 15, 16, 17, 30] rfl) ?_
      refine W_ren [] (.c 1 <| .c 2 <| .c 15 <| .c 16 <| .c 17 <| .c 30 .nil) .nil rfl rfl ?_
      refine W_cond rfl (fun hc => ?_) (fun hc => ?_)
      · have hne : A ≠ B := fun e => by
          rw [e, hb] at ha
          cases ha
          rw [entB_eq] at hc
          simp at hc
        rw [decide_eq_false hne]
        refine W_cs (.a 1 rfl <| .k [6] rfl) ?_
        refine W_ret ?_
        exact ⟨_, _, ResL.of rfl, Pur.pure, rfl⟩
      · have hab : a = b := by
          rw [entB_eq] at hc
          simpa using hc
        refine W_skip ?_
        refine W_chain (.v (y_ar rfl) rfl <| .a 1 rfl <| .k [1, 2, 15, 16, 17] rfl) ?_
        exact ⟨A.length - (i + 1), by omega, i + 1, by omega, rfl, fun j hj => by by_cases e : j = i; (rw [e, ha, hb, hab]); exact hall j (by omega), rfl⟩
    · have hie : i = A.length := by have := ff hc; omega
      have heq : A = B := List.ext_getElem? fun j => by
        by_cases hj : j < A.length
        · exact hall j (by omega)
        · rw [List.getElem?_eq_none (by omega), List.getElem?_eq_none (by omega)]
      rw [decide_eq_true heq]
      refine W_exit ?_
      refine W_cs (.a 1 rfl <| .k [6] rfl) ?_
      refine W_ret ?_
      exact ⟨_, _, ResL.of rfl, Pur.pure, rfl⟩
theorem tab_ext (x y : Tab) : decide (x = y) = ((decide (x.node = y.node) && sameB x.down y.down) && decide (x.ents = y.ents)) := by
  obtain ⟨x1, x2, x3⟩ := x
  obtain ⟨y1, y2, y3⟩ := y
  unfold sameB
  by_cases e1 : x1 = y1 <;> by_cases e2 : x2 = y2 <;> by_cases e3 : x3 = y3 <;> simp [e1, e2, e3]
set_option maxRecDepth 10000 in
set_option maxHeartbeats 1000000 in
theorem tsame_can (x y : Tab) : Can Tryd.prog 18 [tabV x, tabV y] (· = flag (decide (x = y))) := by
  obtain ⟨p1, hp1⟩ : ∃ q, decide (x.node = y.node) = q := ⟨_, rfl⟩
  obtain ⟨p2, hp2⟩ : ∃ q, sameB x.down y.down = q := ⟨_, rfl⟩
  obtain ⟨p3, hp3⟩ : ∃ q, decide (x.ents = y.ents) = q := ⟨_, rfl⟩
  rw [tab_ext, hp1, hp2, hp3]
  refine can_of Tryd.func18 rfl Tryd.ntmps18 rfl ?_
  refine W_cs (.a 3 rfl <| .k [2, 3] rfl) ?_
  refine W_cs (.a 1 rfl <| .k [2, 3, 5] rfl) ?_
  refine W_csK 4 (.raw (.bool ((p1 && p2) && p3))) [] rfl ?_ ?_
  · refine .a 4 rfl <| .v (y_q rfl (hp1)) rfl <| .a 1 rfl <| ?_
    cases p1
    · exact .a 15 rfl <| .k [4] rfl
    · refine .a 4 rfl <| .c rfl (hp2 ▸ eqInts_can x.down y.down) rfl <| .a 2 rfl <| ?_
      cases p2
      · exact .a 8 rfl <| .k [4] rfl
      · exact .a 5 rfl <| .c rfl (hp3 ▸ eqEnts_can x.ents y.ents) rfl <| .a 2 rfl <| .k [4] rfl
  refine W_ret ?_
  exact ⟨_, _, ResL.of rfl, Pur.pure, rfl⟩
/-- Sums that may run over. -/
theorem y_addW {P : Program} {σ : Sto} {t : Tms} {o : Oper} {x y : Operand} {ty tz : TypeId} {a b : Int} (ho : o.op = .binOp .add ty x y tz) (hx : evalO t x = some (num a)) (hy : evalO t y = some (num b)) : Yield P σ t o (num (IntKind.i64.wrap (a + b))) :=
  y_int ho hx hy fun w => by simp [binOp, Op.intArith]
def wideN (n : Int) (l : List Ent) : Int := l.foldl (fun n e => IntKind.i64.wrap (n + IntKind.i64.wrap ((e.arcs.length : Int) + (e.push.length : Int)))) n
def wideB (x : Tab) : Bool := decide (300 < wideN x.down.length x.ents) || decide (70 < (x.ents.length : Int))
theorem wideN_step (n : Int) (l : List Ent) (k : Nat) (e : Ent) (h : l[k]? = some e) : wideN n (l.take (k + 1)) = IntKind.i64.wrap (wideN n (l.take k) + IntKind.i64.wrap ((e.arcs.length : Int) + (e.push.length : Int))) := by
  unfold wideN
  rw [List.take_add_one, h, List.foldl_append]
  rfl
set_option maxRecDepth 10000 in
set_option maxHeartbeats 1000000 in
theorem wide_can (x : Tab) : Can Tryd.prog 14 [tabV x] (· = flag (wideB x)) := by
  refine can_rep fun ⟨E, w, vs, hR⟩ => ?_
  obtain ⟨v, _, hv⟩ := hR.get (i := 0) rfl
  have hm := (rep_tab hv).1
  unfold maxLen at hm
  obtain ⟨p1, hp1⟩ : ∃ q, decide (300 < wideN x.down.length x.ents) = q := ⟨_, rfl⟩
  obtain ⟨p2, hp2⟩ : ∃ q, decide (70 < (x.ents.length : Int)) = q := ⟨_, rfl⟩
  unfold wideB
  rw [hp1, hp2]
  refine can_of Tryd.func14 rfl Tryd.ntmps14 rfl ?_
  refine W_cs (.a 2 rfl <| .k [1] rfl) ?_
  refine W_cs (.a 4 rfl <| .k [1, 3] rfl) ?_
  refine W_seq ?_
  refine W_cs (.a 4 rfl <| .k [1, 3, 10, 11, 12] rfl) ?_
  refine W_block ?_
  refine W_k [1, 3, 10, 11, 12] rfl ?_
  refine W_loop (fun r s => ∃ k, k ≤ x.ents.length ∧ r = x.ents.length - k ∧ s = ⟨[(1, .pin (tabP x) 0), (3, num (wideN x.down.length (x.ents.take k))), (10, entsV x.ents), (11, num x.ents.length), (12, num k)], []⟩) x.ents.length ⟨0, by omega, by omega, rfl⟩ ?_
  rintro r s ⟨k, hk, rfl, rfl⟩
  refine W_cs (.a 1 rfl <| .k [1, 3, 10, 11, 12, 13] rfl) ?_
  refine W_seq ?_
  refine W_cond rfl (fun hc => ?_) (fun hc => ?_)
  · have hlt : k < x.ents.length := by have := tt hc; omega
    obtain ⟨e, he⟩ : ∃ a, x.ents[k]? = some a := ⟨x.ents[k], by simp [hlt]⟩
    refine W_skip ?_
    refine W_seq ?_
    refine W_block ?_
    refine W_rs ?_
    refine WR_v (y_ix (k * 3) rfl) rfl <| WR_v (y_la rfl (ents_drop x.ents k e he) rfl) rfl <| WR_a 2 rfl <| WR_k [1, 3, 5, 10, 11, 12] rfl ?_
    refine W_chain (.a 7 rfl <| .v (y_addW rfl rfl rfl) rfl <| .v (y_addW rfl rfl rfl) rfl <| .a 1 rfl <| .k [1, 3, 10, 11, 12] rfl) ?_
    refine W_ren [] (.c 1 <| .c 3 <| .c 10 <| .c 11 <| .c 12 .nil) .nil rfl rfl ?_
    refine W_chain (.v (y_ar rfl) rfl <| .a 1 rfl <| .k [1, 3, 10, 11, 12] rfl) ?_
    exact ⟨x.ents.length - (k + 1), by omega, k + 1, by omega, rfl, by rw [wideN_step _ _ k e he]; rfl⟩
  · have hke : k = x.ents.length := by have := ff hc; omega
    subst hke
    rw [List.take_length]
    refine W_exit ?_
    refine W_csK 2 (.raw (.bool (p1 || p2))) [] rfl ?_ ?_
    · refine .a 1 rfl <| .v (y_q rfl (hp1)) rfl <| .a 1 rfl <| ?_
      cases p1
      · exact .a 3 rfl <| .v (y_q rfl (hp2)) rfl <| .a 2 rfl <| .k [2] rfl
      · exact .a 6 rfl <| .k [2] rfl
    refine W_ret ?_
    exact ⟨_, _, ResL.of rfl, Pur.pure, rfl⟩
end PW
end Go.Proofs.YtkaalpdfppbdeaaDoor

/- Valid segments and tables: graph.Segment, package table's leaving, proper, Valid; the reference's of layers 18 and 22. -/
namespace Go.Proofs.YtkaalpdfppbdeaaDoor
set_option linter.unusedVariables false
set_option linter.unusedSimpArgs false
namespace PW
open Go.RowKit Reg Mem Net

def segB (T : Topo) (s : Seg) : Bool := if s.kind = 1 then nodeB T s.num else if s.kind = 2 then arcB T s.num else if s.kind = 3 then withinB s.num 1 64 else if s.kind = 4 then withinB s.num 0 65535 else false
def leaveB (T : Topo) (n : Int) (L : List Int) : Bool := decide (∀ i, i < L.length → arcB T (L.getD i 0) = true ∧ tailN T (L.getD i 0).toNat = n ∧ (0 < i → L.getD (i - 1) 0 < L.getD i 0))
def entOK (T : Topo) (n d : Int) (e : Ent) : Bool := leaveB T n e.arcs && (!(decide (d = n) && decide (0 < (e.arcs.length : Int)))) && (if e.rep then decide ((e.arcs.length : Int) = 1) && decide ((e.push.length : Int) ≤ 32) && e.push.all (segB T) else decide ((e.push.length : Int) = 0))
def entD : Ent := ⟨[], false, []⟩
def entsOK (T : Topo) (n : Int) (l : List Ent) : Bool := decide (∀ d, d < l.length → entOK T n d (l.getD d entD) = true)
def tabOK (T : Topo) (x : Tab) : Bool := validB T && nodeB T x.node && decide ((x.ents.length : Int) = T.nodes) && leaveB T x.node x.down && entsOK T x.node x.ents
theorem arcB_iff {T : Topo} {a : Int} : arcB T a = true ↔ 0 ≤ a ∧ a < 2 * (T.links.length : Int) := by simp [arcB]
theorem tailI_can (T : Topo) (a : Int) (h : arcB T a = true) : Can Tryd.prog 61 [topoV T, num a] (· = num (tailN T a.toNat)) := by
  obtain ⟨h0, h1⟩ := arcB_iff.1 h
  obtain ⟨a, rfl⟩ := Int.eq_ofNat_of_zero_le h0
  exact tail_can T a (by omega)

set_option maxRecDepth 10000 in
set_option maxHeartbeats 1000000 in
theorem segm_can (T : Topo) (hl : T.links.length ≤ 4611686018427387903) (s : Seg) : Can Tryd.prog 71 [topoV T, segV s] (· = flag (segB T s)) := by
  unfold segB
  refine can_of Tryd.func71 rfl Tryd.ntmps71 rfl ?_
  refine W_cs (.a 3 rfl <| .k [2, 3] rfl) ?_
  refine W_seq ?_
  refine W_cs (.a 2 rfl <| .k [2, 3, 6] rfl) ?_
  refine W_block ?_
  refine W_cs (.a 2 rfl <| .k [2, 3, 6, 7] rfl) ?_
  refine W_cond rfl (fun hc => ?_) (fun hc => ?_)
  · rw [if_pos (tt hc)]
    refine W_cs (.a 3 rfl <| .c rfl (node_can T s.num) rfl <| .a 1 rfl <| .k [4] rfl) ?_
    refine W_ret ?_
    exact ⟨_, _, ResL.of rfl, Pur.pure, rfl⟩
  · rw [if_neg (ff hc)]
    refine W_cs (.a 2 rfl <| .k [2, 3, 6, 13] rfl) ?_
    refine W_cond rfl (fun hc => ?_) (fun hc => ?_)
    · rw [if_pos (tt hc)]
      refine W_cs (.a 3 rfl <| .c rfl (arc_can T hl s.num) rfl <| .a 1 rfl <| .k [4] rfl) ?_
      refine W_ret ?_
      exact ⟨_, _, ResL.of rfl, Pur.pure, rfl⟩
    · rw [if_neg (ff hc)]
      refine W_cs (.a 2 rfl <| .k [3, 6, 19] rfl) ?_
      refine W_cond rfl (fun hc => ?_) (fun hc => ?_)
      · rw [if_pos (tt hc)]
        obtain ⟨p1, hp1⟩ : ∃ q, decide (1 ≤ s.num) = q := ⟨_, rfl⟩
        obtain ⟨p2, hp2⟩ : ∃ q, decide (s.num ≤ 64) = q := ⟨_, rfl⟩
        have he : withinB s.num 1 64 = (p1 && p2) := by rw [← hp1, ← hp2]; unfold withinB; exact Bool.decide_and _ _
        rw [he]
        refine W_csK 4 (.raw (.bool (p1 && p2))) [] rfl ?_ ?_
        · refine .a 2 rfl <| .v (y_q rfl (hp1)) rfl <| .a 1 rfl <| ?_
          cases p1
          · exact .a 5 rfl <| .k [4] rfl
          · exact .a 2 rfl <| .v (y_q rfl (hp2)) rfl <| .a 2 rfl <| .k [4] rfl
        refine W_ret ?_
        exact ⟨_, _, ResL.of rfl, Pur.pure, rfl⟩
      · rw [if_neg (ff hc)]
        refine W_cs (.a 2 rfl <| .k [3, 29] rfl) ?_
        refine W_cond rfl (fun hc => ?_) (fun hc => ?_)
        · rw [if_pos (tt hc)]
          obtain ⟨p1, hp1⟩ : ∃ q, decide (0 ≤ s.num) = q := ⟨_, rfl⟩
          obtain ⟨p2, hp2⟩ : ∃ q, decide (s.num ≤ 65535) = q := ⟨_, rfl⟩
          have he : withinB s.num 0 65535 = (p1 && p2) := by rw [← hp1, ← hp2]; unfold withinB; exact Bool.decide_and _ _
          rw [he]
          refine W_csK 4 (.raw (.bool (p1 && p2))) [] rfl ?_ ?_
          · refine .a 2 rfl <| .v (y_q rfl (hp1)) rfl <| .a 1 rfl <| ?_
            cases p1
            · exact .a 5 rfl <| .k [4] rfl
            · exact .a 2 rfl <| .v (y_q rfl (hp2)) rfl <| .a 2 rfl <| .k [4] rfl
          refine W_ret ?_
          exact ⟨_, _, ResL.of rfl, Pur.pure, rfl⟩
        · rw [if_neg (ff hc)]
          refine W_skip ?_
          refine W_cs (.a 1 rfl <| .k [4] rfl) ?_
          refine W_ret ?_
          exact ⟨_, _, ResL.of rfl, Pur.pure, rfl⟩
theorem segB_neg {T : Topo} {s : Seg} (h : s.num < 0) : segB T s = false := by
  unfold segB
  have h1 : nodeB T s.num = false := by unfold nodeB; exact decide_eq_false (by omega)
  have h2 : arcB T s.num = false := by unfold arcB; exact decide_eq_false (by omega)
  have h3 : withinB s.num 1 64 = false := by unfold withinB; exact decide_eq_false (by omega)
  have h4 : withinB s.num 0 65535 = false := by unfold withinB; exact decide_eq_false (by omega)
  rw [h1, h2, h3, h4]
  simp
set_option maxRecDepth 10000 in
set_option maxHeartbeats 1000000 in
theorem rseg_can (T : Topo) (hv : validB T = true) (s : Seg) : Can Tryd.prog 53 [topoV T, segV s] (· = flag (segB T s)) := by
  have h := rvalid_can T
  rw [hv] at h
  obtain ⟨p0, hp0⟩ : ∃ q, decide (s.num < 0) = q := ⟨_, rfl⟩
  refine can_of Tryd.func53 rfl Tryd.ntmps53 rfl ?_
  refine W_cs (.a 3 rfl <| .k [2, 3] rfl) ?_
  refine W_seq ?_
  refine W_csK 12 (.raw (.bool (p0))) [2, 3] rfl ?_ ?_
  · exact .a 1 rfl <| .c rfl (h) rfl <| .a 4 rfl <| .v (y_q rfl (hp0)) rfl <| .a 1 rfl <| .k [12, 2, 3] rfl
  refine W_cond rfl (fun hc => ?_) (fun hc => ?_)
  · rw [hc] at hp0
    rw [segB_neg (tt hp0)]
    refine W_cs (.a 1 rfl <| .k [4] rfl) ?_
    refine W_ret ?_
    exact ⟨_, _, ResL.of rfl, Pur.pure, rfl⟩
  · rw [hc] at hp0
    have h0 : 0 ≤ s.num := by have := ff hp0; omega
    unfold segB
    refine W_skip ?_
    refine W_seq ?_
    refine W_cs (.a 2 rfl <| .k [2, 3, 14] rfl) ?_
    refine W_block ?_
    refine W_cs (.a 2 rfl <| .k [2, 3, 14, 15] rfl) ?_
    refine W_cond rfl (fun hc => ?_) (fun hc => ?_)
    · rw [if_pos (tt hc), show nodeB T s.num = decide (s.num < T.nodes) by unfold nodeB; exact decide_eq_decide.2 (by omega)]
      refine W_cs (.a 6 rfl <| .k [4] rfl) ?_
      refine W_ret ?_
      exact ⟨_, _, ResL.of rfl, Pur.pure, rfl⟩
    · rw [if_neg (ff hc)]
      refine W_cs (.a 2 rfl <| .k [2, 3, 14, 22] rfl) ?_
      refine W_cond rfl (fun hc => ?_) (fun hc => ?_)
      · rw [if_pos (tt hc), show arcB T s.num = decide (s.num < 2 * (T.links.length : Int)) by unfold arcB; exact decide_eq_decide.2 (by omega)]
        refine W_drs mixed (by kernel_rfl) (.a 3 rfl <| .v [26] (y_c rfl (rarcs_can T hv)) rfl rfl <| .a 2 rfl <| .k [4] rfl) ?_
        refine W_ret ?_
        exact ⟨_, _, ResL.of rfl, Pur.pure, rfl⟩
      · rw [if_neg (ff hc)]
        refine W_cs (.a 2 rfl <| .k [3, 14, 29] rfl) ?_
        refine W_cond rfl (fun hc => ?_) (fun hc => ?_)
        · rw [if_pos (tt hc)]
          obtain ⟨p1, hp1⟩ : ∃ q, decide (1 ≤ s.num) = q := ⟨_, rfl⟩
          obtain ⟨p2, hp2⟩ : ∃ q, decide (s.num ≤ 64) = q := ⟨_, rfl⟩
          have he : withinB s.num 1 64 = (p1 && p2) := by rw [← hp1, ← hp2]; unfold withinB; exact Bool.decide_and _ _
          rw [he]
          refine W_csK 4 (.raw (.bool (p1 && p2))) [] rfl ?_ ?_
          · refine .a 2 rfl <| .v (y_q rfl (hp1)) rfl <| .a 1 rfl <| ?_
            cases p1
            · exact .a 5 rfl <| .k [4] rfl
            · exact .a 2 rfl <| .v (y_q rfl (hp2)) rfl <| .a 2 rfl <| .k [4] rfl
          refine W_ret ?_
          exact ⟨_, _, ResL.of rfl, Pur.pure, rfl⟩
        · rw [if_neg (ff hc)]
          refine W_cs (.a 2 rfl <| .k [3, 39] rfl) ?_
          refine W_cond rfl (fun hc => ?_) (fun hc => ?_)
          · rw [if_pos (tt hc), show withinB s.num 0 65535 = decide (s.num ≤ 65535) by unfold withinB; exact decide_eq_decide.2 (by omega)]
            refine W_cs (.a 4 rfl <| .k [4] rfl) ?_
            refine W_ret ?_
            exact ⟨_, _, ResL.of rfl, Pur.pure, rfl⟩
          · rw [if_neg (ff hc)]
            refine W_skip ?_
            refine W_cs (.a 1 rfl <| .k [4] rfl) ?_
            refine W_ret ?_
            exact ⟨_, _, ResL.of rfl, Pur.pure, rfl⟩
/-- One step of the check of a list of arcs. -/
def stepB (T : Topo) (n : Int) (L : List Int) (i : Nat) : Bool := decide (arcB T (L.getD i 0) = true ∧ tailN T (L.getD i 0).toNat = n ∧ (0 < i → L.getD (i - 1) 0 < L.getD i 0))
theorem leave_all {T : Topo} {n : Int} {L : List Int} (h : ∀ i, i < L.length → stepB T n L i = true) : leaveB T n L = true := decide_eq_true fun i hi => tt (h i hi)
theorem leave_fail {T : Topo} {n : Int} {L : List Int} {i : Nat} (hi : i < L.length) (h : stepB T n L i = false) : leaveB T n L = false := decide_eq_false fun ha => ff h (ha i hi)
set_option maxRecDepth 10000 in
set_option maxHeartbeats 1000000 in
theorem leaving_can (T : Topo) (hv : validB T = true) (n : Int) (L : List Int) : Can Tryd.prog 49 [topoV T, num n, intsV L] (· = flag (leaveB T n L)) := by
  have hll := links_le hv
  refine can_rep fun ⟨E, w, vs, hR⟩ => ?_
  obtain ⟨v, _, hv⟩ := hR.get (i := 2) rfl
  have hm := rep_len hv
  unfold maxLen at hm
  refine can_of Tryd.func49 rfl Tryd.ntmps49 rfl ?_
  refine W_cs (.a 2 rfl <| .k [1, 2, 3] rfl) ?_
  refine W_seq ?_
  refine W_cs (.a 3 rfl <| .k [1, 2, 3, 9, 10, 11] rfl) ?_
  refine W_block ?_
  refine W_k [1, 2, 3, 9, 10, 11] rfl ?_
  refine W_loop (fun r s => ∃ k, k ≤ L.length ∧ r = L.length - k ∧ (∀ i, i < k → stepB T n L i = true) ∧ s = ⟨[(1, num n), (2, intsV L), (3, .pin (topoP T) 0), (9, intsV L), (10, num L.length), (11, num k)], []⟩) L.length ⟨0, by omega, by omega, fun i hi => by omega, rfl⟩ ?_
  rintro r s ⟨k, hk, rfl, hall, rfl⟩
  refine W_cs (.a 1 rfl <| .k [1, 2, 3, 9, 10, 11, 12] rfl) ?_
  refine W_seq ?_
  refine W_cond rfl (fun hc => ?_) (fun hc => ?_)
  · have hlt : k < L.length := by have := tt hc; omega
    obtain ⟨p1, hp1⟩ : ∃ q, arcB T (L.getD k 0) = q := ⟨_, rfl⟩
    obtain ⟨p2, hp2⟩ : ∃ q, decide (tailN T (L.getD k 0).toNat ≠ n) = q := ⟨_, rfl⟩
    obtain ⟨p3, hp3⟩ : ∃ q, decide (0 < (k : Int)) = q := ⟨_, rfl⟩
    obtain ⟨p4, hp4⟩ : ∃ q, decide (L.getD k 0 ≤ L.getD (k - 1) 0) = q := ⟨_, rfl⟩
    refine W_skip ?_
    refine W_seq ?_
    refine W_block ?_
    refine W_cs (.a 1 rfl <| .v (y_ix (k) rfl) rfl <| .v (y_ld rfl (ints_get L k hlt)) rfl <| .a 2 rfl <| .k [1, 2, 3, 7, 8, 9, 10, 11] rfl) ?_
    refine W_csK 39 (.raw (.bool (((!p1) || p2) || (p3 && p4)))) [1, 2, 3, 9, 10, 11] rfl ?_ ?_
    · refine .a 2 rfl <| .c rfl (hp1 ▸ arc_can T (by omega) (L.getD k 0)) rfl <| .a 2 rfl <| ?_
      cases p1
      · exact .a 19 rfl <| .k [39, 1, 2, 3, 9, 10, 11] rfl
      · refine .a 2 rfl <| .c rfl (tailI_can T _ hp1) rfl <| .a 1 rfl <| .v (y_q rfl (hp2)) rfl <| .a 2 rfl <| ?_
        cases p2
        · refine .a 1 rfl <| .v (y_q rfl (hp3)) rfl <| .a 1 rfl <| ?_
          cases p3
          · exact .a 9 rfl <| .k [39, 1, 2, 3, 9, 10, 11] rfl
          · exact .a 2 rfl <| .v (y_ar rfl) rfl <| .v (y_ix (k - 1) rfl (by have := tt hp3; omega) (by omega)) rfl <| .v (y_ld rfl (ints_get L (k - 1) (by omega))) rfl <| .a 1 rfl <| .v (y_q rfl (hp4)) rfl <| .a 2 rfl <| .k [39, 1, 2, 3, 9, 10, 11] rfl
        · exact .a 12 rfl <| .k [39, 1, 2, 3, 9, 10, 11] rfl
    refine W_cond rfl (fun hx => ?_) (fun hx => ?_)
    · have hno : stepB T n L k = false := by
        refine decide_eq_false fun ⟨h1, h2, h3⟩ => ?_
        rw [h1] at hp1
        rw [decide_eq_false (by simpa using h2)] at hp2
        subst hp1 hp2
        simp only [Bool.not_true, Bool.false_or, Bool.and_eq_true] at hx
        rw [hx.1] at hp3
        rw [hx.2] at hp4
        have := h3 (by have := tt hp3; omega)
        have := tt hp4
        omega
      rw [leave_fail hlt hno]
      refine W_cs (.a 1 rfl <| .k [6] rfl) ?_
      refine W_ret ?_
      exact ⟨_, _, ResL.of rfl, Pur.pure, rfl⟩
    · have hyes : stepB T n L k = true := by
        obtain ⟨c1, c3⟩ := Bool.or_eq_false_iff.1 hx
        obtain ⟨c1, c2⟩ := Bool.or_eq_false_iff.1 c1
        refine decide_eq_true ⟨?_, ?_, fun h0 => ?_⟩
        · rw [hp1]; simpa using c1
        · rw [c2] at hp2; exact Classical.byContradiction (ff hp2)
        · rw [decide_eq_true (by omega)] at hp3
          subst hp3
          rw [Bool.true_and] at c3
          rw [c3] at hp4
          have := ff hp4
          omega
      refine W_skip ?_
      refine W_chain (.v (y_ar rfl) rfl <| .a 1 rfl <| .k [1, 2, 3, 9, 10, 11] rfl) ?_
      refine ⟨L.length - (k + 1), by omega, k + 1, by omega, rfl, fun i hi => ?_, rfl⟩
      by_cases h : i = k
      · rw [h]; exact hyes
      · exact hall i (by omega)
  · have hke : k = L.length := by have := ff hc; omega
    subst hke
    rw [leave_all hall]
    refine W_exit ?_
    refine W_cs (.a 1 rfl <| .k [6] rfl) ?_
    refine W_ret ?_
    exact ⟨_, _, ResL.of rfl, Pur.pure, rfl⟩
theorem rtail_step {T : Topo} (a n : Int) (hn : 0 ≤ n) : (rtail T a = n) ↔ (arcB T a = true ∧ tailN T a.toNat = n) := by
  unfold rtail
  rw [arcB_iff]
  split
  · rename_i h; exact ⟨fun e => ⟨h, e⟩, fun e => e.2⟩
  · rename_i h; exact ⟨fun e => by omega, fun e => absurd e.1 h⟩
set_option maxRecDepth 10000 in
set_option maxHeartbeats 1000000 in
theorem outgoing_can (T : Topo) (hv : validB T = true) (n : Int) (hn : 0 ≤ n) (L : List Int) : Can Tryd.prog 52 [topoV T, num n, intsV L] (· = flag (leaveB T n L)) := by
  have hll := links_le hv
  refine can_rep fun ⟨E, w, vs, hR⟩ => ?_
  obtain ⟨v, _, hvv⟩ := hR.get (i := 2) rfl
  have hm := rep_len hvv
  unfold maxLen at hm
  refine can_of Tryd.func52 rfl Tryd.ntmps52 rfl ?_
  refine W_cs (.a 2 rfl <| .k [1, 2, 3] rfl) ?_
  refine W_seq ?_
  refine W_cs (.a 1 rfl <| .k [1, 2, 3, 7] rfl) ?_
  refine W_block ?_
  refine W_k [1, 2, 3, 7] rfl ?_
  refine W_loop (fun r s => ∃ k, k ≤ L.length ∧ r = L.length - k ∧ (∀ i, i < k → stepB T n L i = true) ∧ s = ⟨[(1, num n), (2, intsV L), (3, .pin (topoP T) 0), (7, num k)], []⟩) L.length ⟨0, by omega, by omega, fun i hi => by omega, rfl⟩ ?_
  rintro r s ⟨k, hk, rfl, hall, rfl⟩
  refine W_seq ?_
  refine W_cs (.a 4 rfl <| .k [1, 2, 3, 7, 11] rfl) ?_
  refine W_cond rfl (fun hc => ?_) (fun hc => ?_)
  · have hlt : k < L.length := by have := tt hc; omega
    obtain ⟨p1, hp1⟩ : ∃ q, decide (rtail T (L.getD k 0) ≠ n) = q := ⟨_, rfl⟩
    obtain ⟨p3, hp3⟩ : ∃ q, decide (0 < (k : Int)) = q := ⟨_, rfl⟩
    obtain ⟨p4, hp4⟩ : ∃ q, decide (L.getD k 0 ≤ L.getD (k - 1) 0) = q := ⟨_, rfl⟩
    refine W_skip ?_
    refine W_seq ?_
    refine W_block ?_
    refine W_drsK mixed (by kernel_rfl) 37 (.raw (.bool (p1 || (p3 && p4)))) [1, 2, 3, 7] rfl ?_ ?_
    · refine .a 3 rfl <| .v [15, 16] (y_ix (k) rfl) rfl rfl <| .v [17] (y_ld rfl (ints_get L k hlt)) rfl rfl <| .v [14, 18] (y_c rfl (rtail_can T hv (L.getD k 0))) rfl rfl <| .a 1 rfl <| .v [19, 20] (y_q rfl (hp1)) rfl rfl <| .a 1 rfl <| ?_
      cases p1
      · refine .a 1 rfl <| .v [23] (y_q rfl (hp3)) rfl rfl <| .a 1 rfl <| ?_
        cases p3
        · exact .a 12 rfl <| .k [37, 1, 2, 3, 7] rfl
        · exact .a 2 rfl <| .v [26, 27] (y_ix (k) rfl) rfl rfl <| .v [28] (y_ld rfl (ints_get L k hlt)) rfl rfl <| .a 2 rfl <| .v [31] (y_ar rfl) rfl rfl <| .v [30, 32] (y_ix (k - 1) rfl (by have := tt hp3; omega) (by omega)) rfl rfl <| .v [33] (y_ld rfl (ints_get L (k - 1) (by omega))) rfl rfl <| .v [29, 34] (y_q rfl (hp4)) rfl rfl <| .a 2 rfl <| .k [37, 1, 2, 3, 7] rfl
      · exact .a 15 rfl <| .k [37, 1, 2, 3, 7] rfl
    refine W_cond rfl (fun hx => ?_) (fun hx => ?_)
    · have hno : stepB T n L k = false := by
        refine decide_eq_false fun ⟨h1, h2, h3⟩ => ?_
        rw [decide_eq_false (by have := (rtail_step _ n hn).2 ⟨h1, h2⟩; simpa using this)] at hp1
        subst hp1
        simp only [Bool.false_or, Bool.and_eq_true] at hx
        rw [hx.1] at hp3
        rw [hx.2] at hp4
        have := h3 (by have := tt hp3; omega)
        have := tt hp4
        omega
      rw [leave_fail hlt hno]
      refine W_cs (.a 1 rfl <| .k [6] rfl) ?_
      refine W_ret ?_
      exact ⟨_, _, ResL.of rfl, Pur.pure, rfl⟩
    · have hyes : stepB T n L k = true := by
        obtain ⟨c1, c3⟩ := Bool.or_eq_false_iff.1 hx
        rw [c1] at hp1
        obtain ⟨h1, h2⟩ := (rtail_step _ n hn).1 (Classical.byContradiction (ff hp1))
        refine decide_eq_true ⟨h1, h2, fun h0 => ?_⟩
        rw [decide_eq_true (by omega)] at hp3
        subst hp3
        rw [Bool.true_and] at c3
        rw [c3] at hp4
        have := ff hp4
        omega
      refine W_skip ?_
      refine W_chain (.a 1 rfl <| .v (y_ar rfl) rfl <| .a 1 rfl <| .k [1, 2, 3, 7] rfl) ?_
      refine ⟨L.length - (k + 1), by omega, k + 1, by omega, rfl, fun i hi => ?_, rfl⟩
      by_cases h : i = k
      · rw [h]; exact hyes
      · exact hall i (by omega)
  · have hke : k = L.length := by have := ff hc; omega
    subst hke
    rw [leave_all hall]
    refine W_exit ?_
    refine W_cs (.a 1 rfl <| .k [6] rfl) ?_
    refine W_ret ?_
    exact ⟨_, _, ResL.of rfl, Pur.pure, rfl⟩
theorem allT {α : Type} (p : α → Bool) (L : List α) (k : Nat) (a : α) (h : L[k]? = some a) : (L.take (k + 1)).all p = ((L.take k).all p && p a) := by
  rw [List.take_add_one, h, List.all_append]; simp
theorem allF {α : Type} (p : α → Bool) (L : List α) (k : Nat) (a : α) (h : L[k]? = some a) (hp : p a = false) : L.all p = false := by
  rw [Bool.eq_false_iff]
  intro ha
  have := List.all_eq_true.1 ha a (List.mem_of_getElem? h)
  rw [hp] at this
  cases this
set_option maxRecDepth 10000 in
set_option maxHeartbeats 1000000 in
theorem proper_can (T : Topo) (hv : validB T = true) (e : Ent) (n d : Int) : Can Tryd.prog 50 [topoV T, entV e, num n, num d] (· = flag (entOK T n d e)) := by
  have hll := links_le hv
  obtain ⟨p1, hp1⟩ : ∃ q, leaveB T n e.arcs = q := ⟨_, rfl⟩
  obtain ⟨p2, hp2⟩ : ∃ q, decide (d = n) = q := ⟨_, rfl⟩
  obtain ⟨p3, hp3⟩ : ∃ q, decide (0 < (e.arcs.length : Int)) = q := ⟨_, rfl⟩
  unfold entOK
  rw [hp1, hp2, hp3]
  refine can_of Tryd.func50 rfl Tryd.ntmps50 rfl ?_
  refine W_cs (.a 3 rfl <| .k [2, 3, 4, 5] rfl) ?_
  refine W_seq ?_
  refine W_csK 27 (.raw (.bool ((!p1) || (p2 && p3)))) [4, 5] rfl ?_ ?_
  · refine .a 4 rfl <| .c rfl (hp1 ▸ leaving_can T hv n e.arcs) rfl <| .a 2 rfl <| ?_
    cases p1
    · exact .a 10 rfl <| .k [27, 4, 5] rfl
    · refine .a 2 rfl <| .v (y_q rfl (hp2)) rfl <| .a 1 rfl <| ?_
      cases p2
      · exact .a 6 rfl <| .k [27, 4, 5] rfl
      · exact .a 3 rfl <| .v (y_q rfl (hp3)) rfl <| .a 2 rfl <| .k [27, 4, 5] rfl
  refine W_cond rfl (fun hc => ?_) (fun hc => ?_)
  · have he : (p1 && !(p2 && p3)) = false := by cases p1 <;> cases p2 <;> cases p3 <;> first | rfl | cases hc
    rw [he, Bool.false_and]
    refine W_cs (.a 1 rfl <| .k [8] rfl) ?_
    refine W_ret ?_
    exact ⟨_, _, ResL.of rfl, Pur.pure, rfl⟩
  · have he : (p1 && !(p2 && p3)) = true := by cases p1 <;> cases p2 <;> cases p3 <;> first | rfl | cases hc
    rw [he, Bool.true_and]
    refine W_skip ?_
    refine W_seq ?_
    refine W_cs (.a 3 rfl <| .k [4, 5, 30] rfl) ?_
    refine W_cond rfl (fun hc => ?_) (fun hc => ?_)
    · have hr : e.rep = false := by simpa using hc
      rw [hr, if_neg (by simp)]
      refine W_cs (.a 5 rfl <| .k [8] rfl) ?_
      refine W_ret ?_
      exact ⟨_, _, ResL.of rfl, Pur.pure, rfl⟩
    · have hr : e.rep = true := by simpa using hc
      rw [hr, if_pos rfl]
      refine W_skip ?_
      refine W_seq ?_
      obtain ⟨p4, hp4⟩ : ∃ q, decide ((e.arcs.length : Int) ≠ 1) = q := ⟨_, rfl⟩
      obtain ⟨p5, hp5⟩ : ∃ q, decide (32 < (e.push.length : Int)) = q := ⟨_, rfl⟩
      refine W_csK 44 (.raw (.bool (p4 || p5))) [4, 5] rfl ?_ ?_
      · refine .a 3 rfl <| .v (y_q rfl (hp4)) rfl <| .a 1 rfl <| ?_
        cases p4
        · exact .a 3 rfl <| .v (y_q rfl (hp5)) rfl <| .a 1 rfl <| .k [44, 4, 5] rfl
        · exact .a 5 rfl <| .k [44, 4, 5] rfl
      refine W_cond rfl (fun hx => ?_) (fun hx => ?_)
      · have hf : (decide ((e.arcs.length : Int) = 1) && decide ((e.push.length : Int) ≤ 32)) = false := by
          rcases Bool.or_eq_true_iff.1 hx with h | h
          · rw [h] at hp4; rw [decide_eq_false (tt hp4)]; rfl
          · rw [h] at hp5; rw [decide_eq_false (by have := tt hp5; omega : ¬ ((e.push.length : Int) ≤ 32)), Bool.and_false]
        rw [hf, Bool.false_and]
        refine W_cs (.a 1 rfl <| .k [8] rfl) ?_
        refine W_ret ?_
        exact ⟨_, _, ResL.of rfl, Pur.pure, rfl⟩
      · obtain ⟨c1, c2⟩ := Bool.or_eq_false_iff.1 hx
        rw [c1] at hp4
        rw [c2] at hp5
        have hlen : e.push.length ≤ 32 := by have := ff hp5; omega
        rw [decide_eq_true (Classical.byContradiction (ff hp4)), decide_eq_true (by omega : (e.push.length : Int) ≤ 32), Bool.true_and, Bool.true_and]
        refine W_skip ?_
        refine W_seq ?_
        refine W_cs (.a 4 rfl <| .k [4, 46, 47, 48] rfl) ?_
        refine W_block ?_
        refine W_k [4, 46, 47, 48] rfl ?_
        refine W_loop (fun r s => ∃ k, k ≤ e.push.length ∧ r = e.push.length - k ∧ (e.push.take k).all (segB T) = true ∧ s = ⟨[(4, .pin (topoP T) 0), (46, segsV e.push), (47, num e.push.length), (48, num k)], []⟩) e.push.length ⟨0, by omega, by omega, by simp, rfl⟩ ?_
        rintro r s ⟨k, hk, rfl, hall, rfl⟩
        refine W_cs (.a 1 rfl <| .k [4, 46, 47, 48, 49] rfl) ?_
        refine W_seq ?_
        refine W_cond rfl (fun hy => ?_) (fun hy => ?_)
        · have hlt : k < e.push.length := by have := tt hy; omega
          obtain ⟨a, ha⟩ : ∃ a, e.push[k]? = some a := ⟨e.push[k], by simp [hlt]⟩
          refine W_skip ?_
          refine W_seq ?_
          refine W_block ?_
          refine W_rs ?_
          refine WR_v (y_ix (k * 2) rfl) rfl <| WR_v (y_la rfl (segs_drop e.push k a ha) rfl) rfl <| WR_a 2 rfl <| WR_k [4, 10, 46, 47, 48] rfl ?_
          refine W_cs (.a 2 rfl <| .c rfl (segm_can T (by omega) a) rfl <| .a 1 rfl <| .k [4, 46, 47, 48, 55] rfl) ?_
          refine W_ren [] (.c 4 <| .c 46 <| .c 47 <| .c 48 <| .c 55 .nil) .nil rfl rfl ?_
          refine W_cond rfl (fun hz => ?_) (fun hz => ?_)
          · rw [allF _ _ k a ha (by simpa using hz)]
            refine W_cs (.a 1 rfl <| .k [8] rfl) ?_
            refine W_ret ?_
            exact ⟨_, _, ResL.of rfl, Pur.pure, rfl⟩
          · have hz' : segB T a = true := by simpa using hz
            refine W_skip ?_
            refine W_chain (.v (y_ar rfl) rfl <| .a 1 rfl <| .k [4, 46, 47, 48] rfl) ?_
            exact ⟨e.push.length - (k + 1), by omega, k + 1, by omega, rfl, by rw [allT _ _ k a ha, hall, hz']; rfl, rfl⟩
        · have hke : k = e.push.length := by have := ff hy; omega
          subst hke
          rw [List.take_length] at hall
          rw [hall]
          refine W_exit ?_
          refine W_cs (.a 1 rfl <| .k [8] rfl) ?_
          refine W_ret ?_
          exact ⟨_, _, ResL.of rfl, Pur.pure, rfl⟩
theorem ents_getD (l : List Ent) (k : Nat) (e : Ent) (h : l[k]? = some e) : l.getD k entD = e := by rw [List.getD_eq_getElem?_getD, h]; rfl
theorem entsOK_fail {T : Topo} {n : Int} {l : List Ent} {k : Nat} {e : Ent} (h : l[k]? = some e) (hf : entOK T n k e = false) : entsOK T n l = false := decide_eq_false fun ha => by
  have := ha k (List.getElem?_eq_some_iff.1 h).1
  rw [ents_getD l k e h, hf] at this
  cases this
theorem entsOK_all {T : Topo} {n : Int} {l : List Ent} (h : ∀ (k : Nat) e, l[k]? = some e → entOK T n k e = true) : entsOK T n l = true := decide_eq_true fun d hd => by
  have he : l[d]? = some l[d] := by simp [hd]
  rw [ents_getD l d _ he]
  exact h d _ he
set_option maxRecDepth 10000 in
set_option maxHeartbeats 1000000 in
theorem tvalid_can (T : Topo) (x : Tab) : Can Tryd.prog 19 [topoV T, tabV x] (· = flag (tabOK T x)) := by
  refine can_rep fun ⟨E, w, vs, hR⟩ => ?_
  obtain ⟨v, _, hvv⟩ := hR.get (i := 1) rfl
  have hm := (rep_tab hvv).1
  unfold maxLen at hm
  obtain ⟨p1, hp1⟩ : ∃ q, validB T = q := ⟨_, rfl⟩
  obtain ⟨p2, hp2⟩ : ∃ q, nodeB T x.node = q := ⟨_, rfl⟩
  obtain ⟨p3, hp3⟩ : ∃ q, decide ((x.ents.length : Int) ≠ T.nodes) = q := ⟨_, rfl⟩
  obtain ⟨p4, hp4⟩ : ∃ q, leaveB T x.node x.down = q := ⟨_, rfl⟩
  have he : decide ((x.ents.length : Int) = T.nodes) = !p3 := by rw [← hp3]; simp
  unfold tabOK
  rw [hp1, hp2, he, hp4]
  refine can_of Tryd.func19 rfl Tryd.ntmps19 rfl ?_
  refine W_cs (.a 3 rfl <| .k [2, 3] rfl) ?_
  refine W_seq ?_
  refine W_csK 33 (.raw (.bool ((((!p1) || !p2) || p3) || !p4))) [2, 3] rfl ?_ ?_
  · refine .a 1 rfl <| .c rfl (hp1 ▸ valid_can T) rfl <| .a 2 rfl <| ?_
    cases p1
    · exact .a 23 rfl <| .k [33, 2, 3] rfl
    · refine .a 3 rfl <| .c rfl (hp2 ▸ node_can T x.node) rfl <| .a 3 rfl <| ?_
      cases p2
      · exact .a 16 rfl <| .k [33, 2, 3] rfl
      · refine .a 5 rfl <| .v (y_q rfl (hp3)) rfl <| .a 2 rfl <| ?_
        cases p3
        · exact .a 5 rfl <| .c rfl (hp4 ▸ leaving_can T hp1 x.node x.down) rfl <| .a 2 rfl <| .k [33, 2, 3] rfl
        · exact .a 8 rfl <| .k [33, 2, 3] rfl
  refine W_cond rfl (fun hc => ?_) (fun hc => ?_)
  · have hf : (p1 && p2 && !p3 && p4) = false := by cases p1 <;> cases p2 <;> cases p3 <;> cases p4 <;> first | rfl | cases hc
    rw [hf, Bool.false_and]
    refine W_cs (.a 1 rfl <| .k [4] rfl) ?_
    refine W_ret ?_
    exact ⟨_, _, ResL.of rfl, Pur.pure, rfl⟩
  · have hf : (p1 && p2 && !p3 && p4) = true := by cases p1 <;> cases p2 <;> cases p3 <;> cases p4 <;> first | rfl | cases hc
    rw [hf, Bool.true_and]
    have e1 : p1 = true := by cases p1 <;> simp_all
    rw [e1] at hp1
    refine W_skip ?_
    refine W_seq ?_
    refine W_cs (.a 4 rfl <| .k [2, 3, 35, 36, 37] rfl) ?_
    refine W_block ?_
    refine W_k [2, 3, 35, 36, 37] rfl ?_
    refine W_loop (fun r s => ∃ k, k ≤ x.ents.length ∧ r = x.ents.length - k ∧ (∀ (i : Nat) e, i < k → x.ents[i]? = some e → entOK T x.node i e = true) ∧ s = ⟨[(2, .pin (topoP T) 0), (3, .pin (tabP x) 0), (35, entsV x.ents), (36, num x.ents.length), (37, num k)], []⟩) x.ents.length ⟨0, by omega, by omega, fun i e hi => by omega, rfl⟩ ?_
    rintro r s ⟨k, hk, rfl, hall, rfl⟩
    refine W_cs (.a 1 rfl <| .k [2, 3, 35, 36, 37, 38] rfl) ?_
    refine W_seq ?_
    refine W_cond rfl (fun hy => ?_) (fun hy => ?_)
    · have hlt : k < x.ents.length := by have := tt hy; omega
      obtain ⟨e, hek⟩ : ∃ a, x.ents[k]? = some a := ⟨x.ents[k], by simp [hlt]⟩
      refine W_skip ?_
      refine W_seq ?_
      refine W_block ?_
      refine W_rs ?_
      refine WR_a 1 rfl <| WR_v (y_ix (k * 3) rfl) rfl <| WR_v (y_la rfl (ents_drop x.ents k e hek) rfl) rfl <| WR_a 3 rfl <| WR_k [2, 3, 5, 6, 35, 36, 37] rfl ?_
      refine W_cs (.a 5 rfl <| .c rfl (proper_can T hp1 e x.node k) rfl <| .a 1 rfl <| .k [2, 3, 35, 36, 37, 48] rfl) ?_
      refine W_ren [] (.c 2 <| .c 3 <| .c 35 <| .c 36 <| .c 37 <| .c 48 .nil) .nil rfl rfl ?_
      refine W_cond rfl (fun hz => ?_) (fun hz => ?_)
      · rw [entsOK_fail hek (by simpa using hz)]
        refine W_cs (.a 1 rfl <| .k [4] rfl) ?_
        refine W_ret ?_
        exact ⟨_, _, ResL.of rfl, Pur.pure, rfl⟩
      · have hz' : entOK T x.node k e = true := by simpa using hz
        refine W_skip ?_
        refine W_chain (.v (y_ar rfl) rfl <| .a 1 rfl <| .k [2, 3, 35, 36, 37] rfl) ?_
        refine ⟨x.ents.length - (k + 1), by omega, k + 1, by omega, rfl, fun i e' hi he' => ?_, rfl⟩
        by_cases h : i = k
        · subst h; rw [hek] at he'; cases he'; exact hz'
        · exact hall i e' (by omega) he'
    · have hke : k = x.ents.length := by have := ff hy; omega
      rw [entsOK_all fun i e hi => hall i e (by have := (List.getElem?_eq_some_iff.1 hi).1; omega) hi]
      refine W_exit ?_
      refine W_cs (.a 1 rfl <| .k [4] rfl) ?_
      refine W_ret ?_
      exact ⟨_, _, ResL.of rfl, Pur.pure, rfl⟩
set_option maxRecDepth 10000 in
set_option maxHeartbeats 2000000 in
theorem rtvalid_can (T : Topo) (x : Tab) : Can Tryd.prog 20 [topoV T, tabV x] (· = flag (tabOK T x)) := by
  refine can_rep fun ⟨E, w, vs, hR⟩ => ?_
  obtain ⟨v, _, hvv⟩ := hR.get (i := 1) rfl
  have hm := (rep_tab hvv).1
  unfold maxLen at hm
  obtain ⟨p1, hp1⟩ : ∃ q, validB T = q := ⟨_, rfl⟩
  obtain ⟨p2, hp2⟩ : ∃ q, decide (x.node < 0) = q := ⟨_, rfl⟩
  obtain ⟨p5, hp5⟩ : ∃ q, decide (T.nodes ≤ x.node) = q := ⟨_, rfl⟩
  obtain ⟨p3, hp3⟩ : ∃ q, decide ((x.ents.length : Int) ≠ T.nodes) = q := ⟨_, rfl⟩
  obtain ⟨p4, hp4⟩ : ∃ q, leaveB T x.node x.down = q := ⟨_, rfl⟩
  have he : decide ((x.ents.length : Int) = T.nodes) = !p3 := by rw [← hp3]; simp
  have hn : nodeB T x.node = ((!p2) && !p5) := by rw [← hp2, ← hp5, ← decide_not, ← decide_not, ← Bool.decide_and]; unfold nodeB; exact decide_eq_decide.2 (by omega)
  unfold tabOK
  rw [hp1, hn, he, hp4]
  refine can_of Tryd.func20 rfl Tryd.ntmps20 rfl ?_
  refine W_cs (.a 3 rfl <| .k [2, 3] rfl) ?_
  refine W_seq ?_
  refine W_csK 39 (.raw (.bool (((((!p1) || p2) || p5) || p3) || !p4))) [2, 3] rfl ?_ ?_
  · refine .a 1 rfl <| .c rfl (hp1 ▸ rvalid_can T) rfl <| .a 2 rfl <| ?_
    cases p1
    · exact .a 28 rfl <| .k [39, 2, 3] rfl
    · refine .a 2 rfl <| .v (y_q rfl (hp2)) rfl <| .a 2 rfl <| ?_
      cases p2
      · refine .a 4 rfl <| .v (y_q rfl (hp5)) rfl <| .a 2 rfl <| ?_
        cases p5
        · refine .a 5 rfl <| .v (y_q rfl (hp3)) rfl <| .a 2 rfl <| ?_
          cases p3
          · exact .a 5 rfl <| .c rfl (hp4 ▸ outgoing_can T hp1 x.node (by have := ff hp2; omega) x.down) rfl <| .a 2 rfl <| .k [39, 2, 3] rfl
          · exact .a 8 rfl <| .k [39, 2, 3] rfl
        · exact .a 16 rfl <| .k [39, 2, 3] rfl
      · exact .a 23 rfl <| .k [39, 2, 3] rfl
  refine W_cond rfl (fun hc => ?_) (fun hc => ?_)
  · have hf : (p1 && ((!p2) && !p5) && !p3 && p4) = false := by cases p1 <;> cases p2 <;> cases p5 <;> cases p3 <;> cases p4 <;> first | rfl | cases hc
    rw [hf, Bool.false_and]
    refine W_cs (.a 1 rfl <| .k [4] rfl) ?_
    refine W_ret ?_
    exact ⟨_, _, ResL.of rfl, Pur.pure, rfl⟩
  · have hf : (p1 && ((!p2) && !p5) && !p3 && p4) = true := by cases p1 <;> cases p2 <;> cases p5 <;> cases p3 <;> cases p4 <;> first | rfl | cases hc
    rw [hf, Bool.true_and]
    have e1 : p1 = true := by cases p1 <;> simp_all
    have e2 : p2 = false := by cases p2 <;> simp_all
    rw [e1] at hp1
    rw [e2] at hp2
    have hn0 : 0 ≤ x.node := by have := ff hp2; omega
    refine W_skip ?_
    refine W_seq ?_
    refine W_cs (.a 1 rfl <| .k [2, 3, 5] rfl) ?_
    refine W_block ?_
    refine W_k [2, 3, 5] rfl ?_
    refine W_loop (fun r s => ∃ k, k ≤ x.ents.length ∧ r = x.ents.length - k ∧ (∀ (i : Nat) e, i < k → x.ents[i]? = some e → entOK T x.node i e = true) ∧ s = ⟨[(2, .pin (topoP T) 0), (3, .pin (tabP x) 0), (5, num k)], []⟩) x.ents.length ⟨0, by omega, by omega, fun i e hi => by omega, rfl⟩ ?_
    rintro r s ⟨k, hk, rfl, hall, rfl⟩
    refine W_seq ?_
    refine W_cs (.a 5 rfl <| .k [2, 3, 5, 44] rfl) ?_
    refine W_cond rfl (fun hy => ?_) (fun hy => ?_)
    · have hlt : k < x.ents.length := by have := tt hy; omega
      obtain ⟨e, hek⟩ : ∃ a, x.ents[k]? = some a := ⟨x.ents[k], by simp [hlt]⟩
      obtain ⟨q1, g1⟩ : ∃ q, leaveB T x.node e.arcs = q := ⟨_, rfl⟩
      obtain ⟨q2, g2⟩ : ∃ q, decide ((k : Int) = x.node) = q := ⟨_, rfl⟩
      obtain ⟨q3, g3⟩ : ∃ q, decide (0 < (e.arcs.length : Int)) = q := ⟨_, rfl⟩
      obtain ⟨q4, g4⟩ : ∃ q, e.rep = q := ⟨_, rfl⟩
      obtain ⟨q5, g5⟩ : ∃ q, decide (0 < (e.push.length : Int)) = q := ⟨_, rfl⟩
      obtain ⟨q6, g6⟩ : ∃ q, decide ((e.arcs.length : Int) ≠ 1) = q := ⟨_, rfl⟩
      obtain ⟨q7, g7⟩ : ∃ q, decide (32 < (e.push.length : Int)) = q := ⟨_, rfl⟩
      have hOK : entOK T x.node k e = ((q1 && !(q2 && q3)) && (if q4 then (!q6 && !q7) && e.push.all (segB T) else !q5)) := by
        unfold entOK
        rw [g1, g2, g3, g4, ← g5, ← g6, ← g7, ← decide_not, ← decide_not, ← decide_not]
        congr 2
        · congr 2
          · exact decide_eq_decide.2 (by omega)
          · exact decide_eq_decide.2 (by omega)
        · exact decide_eq_decide.2 (by omega)
      refine W_skip ?_
      refine W_seq ?_
      refine W_block ?_
      refine W_rs ?_
      refine WR_a 3 rfl <| WR_v (y_ix (k * 3) rfl) rfl <| WR_v (y_la rfl (ents_drop x.ents k e hek) rfl) rfl <| WR_a 2 rfl <| WR_k [2, 3, 5, 6] rfl ?_
      refine W_sealPtr 6 0 0 rfl rfl ?_
      refine W_ren [] (.c 2 <| .c 3 <| .c 5 <| .c 6 .nil) .nil rfl rfl ?_
      refine W_seq ?_
      refine W_csK 81 (.raw (.bool (((!q1) || (q2 && q3)) || ((!q4) && q5)))) [2, 3, 5, 6] rfl ?_ ?_
      · refine .a 5 rfl <| .c rfl (g1 ▸ outgoing_can T hp1 x.node hn0 e.arcs) rfl <| .a 2 rfl <| ?_
        cases q1
        · exact .a 22 rfl <| .k [81, 2, 3, 5, 6] rfl
        · refine .a 3 rfl <| .v (y_q rfl (g2)) rfl <| .a 1 rfl <| ?_
          cases q2
          · refine .a 8 rfl <| .v (y_ld rfl (show some (flag e.rep) = some (flag q4) by rw [g4])) rfl <| .a 2 rfl <| ?_
            cases q4
            · exact .a 3 rfl <| .v (y_q rfl (g5)) rfl <| .a 2 rfl <| .k [81, 2, 3, 5, 6] rfl
            · exact .a 6 rfl <| .k [81, 2, 3, 5, 6] rfl
          · refine .a 3 rfl <| .v (y_q rfl (g3)) rfl <| .a 3 rfl <| ?_
            cases q3
            · refine .a 1 rfl <| .v (y_ld rfl (show some (flag e.rep) = some (flag q4) by rw [g4])) rfl <| .a 2 rfl <| ?_
              cases q4
              · exact .a 3 rfl <| .v (y_q rfl (g5)) rfl <| .a 2 rfl <| .k [81, 2, 3, 5, 6] rfl
              · exact .a 6 rfl <| .k [81, 2, 3, 5, 6] rfl
            · exact .a 10 rfl <| .k [81, 2, 3, 5, 6] rfl
      refine W_cond rfl (fun hz => ?_) (fun hz => ?_)
      · rw [entsOK_fail hek (by rw [hOK]; revert hz; cases q1 <;> cases q2 <;> cases q3 <;> cases q4 <;> cases q5 <;> intro hz <;> first | rfl | (simp; done) | cases hz)]
        refine W_cs (.a 1 rfl <| .k [4] rfl) ?_
        refine W_ret ?_
        exact ⟨_, _, ResL.of rfl, Pur.pure, rfl⟩
      · skip
        refine W_skip ?_
        refine W_seq ?_
        refine W_csK 95 (.raw (.bool (q4 && (q6 || q7)))) [2, 3, 5, 6] rfl ?_ ?_
        · refine .a 1 rfl <| .v (y_ld rfl (show some (flag e.rep) = some (flag q4) by rw [g4])) rfl <| .a 1 rfl <| ?_
          cases q4
          · exact .a 11 rfl <| .k [95, 2, 3, 5, 6] rfl
          · refine .a 3 rfl <| .v (y_q rfl (g6)) rfl <| .a 1 rfl <| ?_
            cases q6
            · exact .a 3 rfl <| .v (y_q rfl (g7)) rfl <| .a 2 rfl <| .k [95, 2, 3, 5, 6] rfl
            · exact .a 6 rfl <| .k [95, 2, 3, 5, 6] rfl
        refine W_cond rfl (fun hz2 => ?_) (fun hz2 => ?_)
        · rw [entsOK_fail hek (by rw [hOK]; revert hz2; cases q4 <;> cases q6 <;> cases q7 <;> intro hz2 <;> first | rfl | (simp; done) | cases hz2)]
          refine W_cs (.a 1 rfl <| .k [4] rfl) ?_
          refine W_ret ?_
          exact ⟨_, _, ResL.of rfl, Pur.pure, rfl⟩
        · have hpl : e.push.length ≤ 32 ∨ e.push = [] := by
            cases q4
            · right
              have : q5 = false := by cases q5 <;> simp_all
              subst this
              have := ff g5
              exact List.eq_nil_of_length_eq_zero (by omega)
            · left
              have : q7 = false := by cases q7 <;> simp_all
              subst this
              have := ff g7
              omega
          have hpl' : e.push.length ≤ 32 := by rcases hpl with h | h; exact h; rw [h]; simp
          have hfin : e.push.all (segB T) = true → entOK T x.node k e = true := fun ha => by
            rw [hOK, ha]
            clear hOK g1 g2 g3 g4 g5 g6 g7 hpl hpl' hall
            revert hz hz2
            cases q1 <;> cases q2 <;> cases q3 <;> cases q4 <;> cases q5 <;> cases q6 <;> cases q7 <;> intro hz hz2 <;> first | rfl | (cases hz; done) | (cases hz2; done)
          have hfail : e.push.all (segB T) = false → entOK T x.node k e = false := fun ha => by
            rcases hpl with h | h
            · rw [hOK, ha]
              cases q4
              · have : q5 = true := by
                  cases q5
                  · have := ff g5
                    have h0 := List.eq_nil_of_length_eq_zero (by omega : e.push.length = 0)
                    rw [h0] at ha; cases ha
                  · rfl
                subst this
                simp
              · simp
            · rw [h] at ha; cases ha
          refine W_skip ?_
          refine W_cs (.a 1 rfl <| .k [2, 3, 5, 6, 7] rfl) ?_
          refine W_block ?_
          refine W_k [2, 3, 5, 6, 7] rfl ?_
          refine W_loop (fun r s => ∃ j, j ≤ e.push.length ∧ r = e.push.length - j ∧ (e.push.take j).all (segB T) = true ∧ s = ⟨[(2, .pin (topoP T) 0), (3, .pin (tabP x) 0), (5, num k), (6, .pin (entP e) 0), (7, num j)], []⟩) e.push.length ⟨0, by omega, by omega, by simp, rfl⟩ ?_
          rintro r s ⟨j, hj, rfl, hpall, rfl⟩
          refine W_seq ?_
          refine W_cs (.a 5 rfl <| .k [2, 3, 5, 6, 7, 100] rfl) ?_
          refine W_cond rfl (fun hw => ?_) (fun hw => ?_)
          · have hlt2 : j < e.push.length := by have := tt hw; omega
            obtain ⟨a, ha⟩ : ∃ a, e.push[j]? = some a := ⟨e.push[j], by simp [hlt2]⟩
            refine W_skip ?_
            refine W_seq ?_
            refine W_block ?_
            refine W_drs mixed (by kernel_rfl) (.a 4 rfl <| .v [105, 106] (y_ix (j * 2) rfl) rfl rfl <| .v [107] (y_la rfl (segs_drop e.push j a ha) rfl) rfl rfl <| .v [103, 108] (y_c rfl (rseg_can T hp1 a)) rfl rfl <| .a 1 rfl <| .k [2, 3, 5, 6, 7, 110] rfl) ?_
            refine W_cond rfl (fun hs => ?_) (fun hs => ?_)
            · rw [entsOK_fail hek (hfail (allF _ _ j a ha (by simpa using hs)))]
              refine W_cs (.a 1 rfl <| .k [4] rfl) ?_
              refine W_ret ?_
              exact ⟨_, _, ResL.of rfl, Pur.pure, rfl⟩
            · have hs' : segB T a = true := by simpa using hs
              refine W_skip ?_
              refine W_chain (.a 1 rfl <| .v (y_ar rfl) rfl <| .a 1 rfl <| .k [2, 3, 5, 6, 7] rfl) ?_
              exact ⟨e.push.length - (j + 1), by omega, j + 1, by omega, rfl, by rw [allT _ _ j a ha, hpall, hs']; rfl, rfl⟩
          · have hje : j = e.push.length := by have := ff hw; omega
            subst hje
            rw [List.take_length] at hpall
            have hyes := hfin hpall
            refine W_exit ?_
            refine W_chain (.a 1 rfl <| .v (y_ar rfl) rfl <| .a 1 rfl <| .k [2, 3, 5] rfl) ?_
            refine ⟨x.ents.length - (k + 1), by omega, k + 1, by omega, rfl, fun i e' hi he' => ?_, rfl⟩
            by_cases h : i = k
            · subst h; rw [hek] at he'; cases he'; exact hyes
            · exact hall i e' (by omega) he'
    · have hke : k = x.ents.length := by have := ff hy; omega
      rw [entsOK_all fun i e hi => hall i e (by have := (List.getElem?_eq_some_iff.1 hi).1; omega) hi]
      refine W_exit ?_
      refine W_cs (.a 1 rfl <| .k [4] rfl) ?_
      refine W_ret ?_
      exact ⟨_, _, ResL.of rfl, Pur.pure, rfl⟩
end PW
end Go.Proofs.YtkaalpdfppbdeaaDoor

/- The law TableValid, walked. -/
namespace Go.Proofs.YtkaalpdfppbdeaaDoor
set_option linter.unusedVariables false
set_option linter.unusedSimpArgs false
namespace PW
open Go.RowKit Reg Mem Net

set_option maxRecDepth 10000 in
set_option maxHeartbeats 1000000 in
theorem lawValid_can (T : Topo) (x : Tab) : Can Tryd.prog 6 [topoV T, tabV x] (· = flag true) := by
  obtain ⟨p1, hp1⟩ : ∃ q, largeB T [] = q := ⟨_, rfl⟩
  obtain ⟨p2, hp2⟩ : ∃ q, wideB x = q := ⟨_, rfl⟩
  have h1 : (tabOK T x == tabOK T x) = true := by simp
  refine can_of Tryd.func6 rfl Tryd.ntmps6 rfl ?_
  refine W_cs (.a 3 rfl <| .k [2, 3] rfl) ?_
  refine W_seq ?_
  refine W_cs (.c rfl (awake_can) rfl <| .a 1 rfl <| .k [2, 3, 6] rfl) ?_
  refine W_cond rfl (fun hc => ?_) (fun hc => ?_)
  · cases hc
  · refine W_skip ?_
    refine W_seq ?_
    refine W_csK 12 (.raw (.bool (p1 || p2))) [2, 3] rfl ?_ ?_
    · refine .a 1 rfl <| .v (y_cP rfl (PurL.cons Pur.pure (PurL.cons Pur.nils PurL.nil)) (hp1 ▸ large_can T [])) rfl <| .a 1 rfl <| ?_
      cases p1
      · exact .a 1 rfl <| .c rfl (hp2 ▸ wide_can x) rfl <| .a 1 rfl <| .k [12, 2, 3] rfl
      · exact .a 3 rfl <| .k [12, 2, 3] rfl
    refine W_cond rfl (fun hc => ?_) (fun hc => ?_)
    · refine W_cs (.a 1 rfl <| .k [4] rfl) ?_
      refine W_ret ?_
      exact ⟨_, _, ResL.of rfl, Pur.pure, rfl⟩
    · refine W_skip ?_
      refine W_drs mixed (by kernel_rfl) (.a 2 rfl <| .v [13, 14] (y_c rfl (tvalid_can T x)) rfl rfl <| .a 2 rfl <| .v [16, 17] (y_c rfl (rtvalid_can T x)) rfl rfl <| .v [15, 18] (y_q rfl h1) rfl rfl <| .a 1 rfl <| .k [4] rfl) ?_
      refine W_ret ?_
      exact ⟨_, _, ResL.of rfl, Pur.pure, rfl⟩
end PW
end Go.Proofs.YtkaalpdfppbdeaaDoor
