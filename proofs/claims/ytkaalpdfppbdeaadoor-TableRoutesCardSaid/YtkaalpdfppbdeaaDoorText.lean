/- Package table: line, numbers, for small numbers. -/
import Derived.Test.YtkaalpdfppbdeaaDoorBld
import Derived.Test.YtkaalpdfppbdeaaDoorRefE
namespace Go.Proofs.YtkaalpdfppbdeaaDoor
namespace PW
open Go.RowKit Reg Mem

def lineL (L : List (List UInt8)) : List UInt8 := Lib.join L [32] ++ [10]
set_option maxRecDepth 10000 in
set_option maxHeartbeats 1000000 in
theorem line_can (u : Bool) (l : List UInt8) (L : List (List UInt8)) (hL : L.length ≤ 1000000) (hn : l.length + (lineL L).length ≤ 1000000000) : CanS Tryd.prog 39 [.ptr 0 0, strsV L] (bst 1 u l) (fun _ σ' => σ' = bst 2 true (l ++ lineL L)) := by
  have hj : (lineL L).length = (Lib.join L [32]).length + 1 := by simp [lineL]
  refine canS_of Tryd.func39 rfl Tryd.ntmps39 rfl ?_
  refine W_rs ?_
  refine WR_val (y_move rfl rfl) rfl rfl rfl ?_
  refine WR_val (y_move rfl rfl) rfl rfl rfl ?_
  refine WR_val (y_call rfl en_66 rfl rfl (join_can L [32] hL (by omega))) rfl rfl rfl ?_
  refine WR_callS rfl en_65 rfl rfl rfl rfl rfl (CanS.mono (wstr1 u l ⟨(Lib.join L [32]).toArray⟩ (show l.length + (Lib.join L [32]).toArray.size ≤ 1000000000 by simp; omega)) (fun _ σ' h => ?_))
  subst h
  refine WR_sub (.cons (k := 0) rfl <| Sub.nil _) (WR_nil ?_)
  refine W_region ?_
  refine WR_val (y_move rfl rfl) rfl rfl rfl ?_
  refine WR_callS rfl en_67 rfl rfl rfl rfl rfl (CanS.mono (wbyte2 true (l ++ Lib.join L [32]) 10 (by simp; omega)) (fun _ σ' h => ?_))
  subst h
  refine WR_ren [0, 1, 3] (.nil) (.kept rfl (.cells (RenL.cons (by first | exact Ren.pure | exact Ren.own (i := 0) rfl | exact Ren.ptr (i := 0) rfl | exact Ren.own (i := 1) rfl | exact Ren.ptr (i := 1) rfl | exact Ren.own (i := 2) rfl | exact Ren.ptr (i := 2) rfl) <| RenL.cons (by first | exact Ren.pure | exact Ren.own (i := 0) rfl | exact Ren.ptr (i := 0) rfl | exact Ren.own (i := 1) rfl | exact Ren.ptr (i := 1) rfl | exact Ren.own (i := 2) rfl | exact Ren.ptr (i := 2) rfl) <| RenL.nil)) <| .gone <| .kept rfl (.row RenL.pure) <| .nil) rfl rfl (WR_nil ?_)
  refine ⟨_, .nil, ?_⟩
  unfold lineL
  rw [← List.append_assoc]
  rfl

def numsT (l : List Int) : List (List UInt8) := l.map fun n => Lib.decDigits n.toNat
theorem strsP_snoc (L : List (List UInt8)) (x : List UInt8) : strsP L ++ [strV x] = strsP (L ++ [x]) := by simp [strsP]
set_option maxRecDepth 10000 in
set_option maxHeartbeats 1000000 in
theorem numbers_small (l : List Int) (hl : l.length ≤ 1000) (hs : ∀ n ∈ l, 0 ≤ n ∧ n < 100) : Can Tryd.prog 41 [intsV l] (· = strsV (numsT l)) := by
  refine can_of Tryd.func41 rfl Tryd.ntmps41 rfl ?_
  refine W_cs (
    .val (y_assign rfl rfl) rfl rfl rfl <|
    .nil (.cons (k := 0) rfl <| Sub.nil _)) ?_
  refine W_cs (
    .val (y_assign rfl rfl) rfl rfl rfl <|
    .nil (.cons (k := 0) rfl <| .cons (k := 3) rfl <| Sub.nil _)) ?_
  refine W_adopt 3 9 1 rfl ?_
  refine W_seq ?_
  refine W_cs (
    .val (y_move rfl rfl) rfl rfl rfl <|
    .val ((by first | exact y_lenSlice rfl el_29 rfl | exact y_lenOwn rfl el_29 rfl rfl | exact y_lenNil rfl el_29 rfl)) rfl rfl rfl <|
    .val (y_move rfl rfl) rfl rfl rfl <|
    .nil (.cons (k := 3) rfl <| .cons (k := 6) rfl <| .cons (k := 7) rfl <| .cons (k := 8) rfl <| Sub.nil _)) ?_
  refine W_block ?_
  refine W_sub (.cons (k := 3) rfl <| .cons (k := 6) rfl <| .cons (k := 7) rfl <| .cons (k := 8) rfl <| Sub.nil _) ?_
  refine W_loop (fun r s => ∃ i, i ≤ l.length ∧ r = l.length - i ∧ s = ⟨[(3, .own 0), (6, intsV l), (7, num l.length), (8, num i)], [some (.row 9 1 i (strsP (numsT (l.take i))))]⟩) l.length ⟨0, by omega, by omega, rfl⟩ ?_
  rintro r s ⟨i, hi, rfl, rfl⟩
  refine W_cs (
    .val (y_lss rfl rfl rfl rfl) rfl rfl rfl <|
    .nil (.cons (k := 3) rfl <| .cons (k := 6) rfl <| .cons (k := 7) rfl <| .cons (k := 8) rfl <| .cons (k := 9) rfl <| Sub.nil _)) ?_
  refine W_seq ?_
  refine W_cond rfl (fun hc => ?_) (fun hc => ?_)
  · have hlt : i < l.length := by have := of_decide_eq_true hc; omega
    obtain ⟨h0, h1⟩ := hs _ (getD_mem (d := 0) hlt)
    obtain ⟨a, ha⟩ := Int.eq_ofNat_of_zero_le h0
    have hst : numsT (l.take (i + 1)) = numsT (l.take i) ++ [Lib.decDigits a] := by
      unfold numsT
      rw [take_step l i 0 hlt, List.map_append, ha]
      rfl
    refine W_skip ?_
    refine W_seq ?_
    refine W_block ?_
    refine W_cs (
      .val ((by first | exact y_indexSlice (j := i) rfl el_29 rfl rfl (by omega) (by omega) (by omega) | exact y_indexOwn (j := i) rfl el_29 rfl rfl rfl (by omega) (by omega) (by omega))) rfl rfl rfl <|
      .val ((by first | exact y_loadPin rfl tk_3 rfl ((ints_get l i hlt).trans (by rw [ha])) | exact y_loadPtr rfl tk_3 rfl rfl ((ints_get l i hlt).trans (by rw [ha])))) rfl rfl rfl <|
      .val (y_assign rfl rfl) rfl rfl rfl <|
      .nil (.cons (k := 3) rfl <| .cons (k := 5) rfl <| .cons (k := 6) rfl <| .cons (k := 7) rfl <| .cons (k := 8) rfl <| Sub.nil _)) ?_
    refine W_region ?_
    refine WR_val (y_move rfl rfl) rfl rfl rfl ?_
    refine WR_val (y_move rfl rfl) rfl rfl rfl ?_
    refine WR_val (y_call rfl en_40 rfl rfl (itoa_small a (by omega))) rfl rfl rfl ?_
    refine WR_val (y_buildSlice (xs := [_]) rfl sl_70 ⟨Nat.le_of_ble_eq_true rfl, Nat.le_of_ble_eq_true rfl⟩ rfl rfl) rfl rfl rfl ?_
    refine WR_loud (l_append rfl rk_70 rfl rfl rfl rfl (by unfold maxLen; omega)) rfl rfl rfl ?_
    refine WR_val (y_assign rfl rfl) rfl rfl rfl ?_
    refine WR_ren [1] (.cons 3 rfl (by first | exact Ren.pure | exact Ren.own (i := 0) rfl | exact Ren.ptr (i := 0) rfl) <| .cons 6 rfl (by first | exact Ren.pure | exact Ren.own (i := 0) rfl | exact Ren.ptr (i := 0) rfl) <| .cons 7 rfl (by first | exact Ren.pure | exact Ren.own (i := 0) rfl | exact Ren.ptr (i := 0) rfl) <| .cons 8 rfl (by first | exact Ren.pure | exact Ren.own (i := 0) rfl | exact Ren.ptr (i := 0) rfl) <| .nil) (.kept rfl (.rowP rfl (strsP_snoc _ _)) <| .nil) rfl rfl (WR_nil ?_)
    refine W_chain (
      .val (y_add rfl rfl rfl rfl (by unfold In64; omega)) rfl rfl rfl <|
      .val (y_move rfl rfl) rfl rfl rfl <|
      .nil (.cons (k := 3) rfl <| .cons (k := 6) rfl <| .cons (k := 7) rfl <| .cons (k := 8) rfl <| Sub.nil _)) ?_
    refine ⟨l.length - (i + 1), by omega, i + 1, by omega, rfl, ?_⟩
    rw [hst]
    rfl
  · have hie : i = l.length := by have := of_decide_eq_false hc; omega
    subst hie
    refine W_exit ?_
    refine W_cs (
      .val (y_move rfl rfl) rfl rfl rfl <|
      .val (y_assign rfl rfl) rfl rfl rfl <|
      .nil (.cons (k := 2) rfl <| Sub.nil _)) ?_
    refine W_ret ?_
    refine ⟨_, _, .cons (.tmp rfl) <| .nil, Pur.ownL rfl PurL.pure, ?_⟩
    rw [List.take_length]
    unfold strsV
    rw [show (numsT l).length = l.length by simp [numsT]]
end PW
end Go.Proofs.YtkaalpdfppbdeaaDoor
