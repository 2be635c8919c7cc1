/- heap.New. -/
import Derived.Test.YtkaalpdfppbdeaaDoorPWw
import Derived.Test.YtkaalpdfppbdeaaDoorHeapP
namespace Go.Proofs.YtkaalpdfppbdeaaDoor
namespace PW
open Go.RowKit Reg Mem Net Heap

set_option maxRecDepth 10000 in
set_option maxHeartbeats 1000000 in
theorem new_can (N : Nat) (d : Option Blk) (hd : PureD d) (hN : N ≤ 65536) :
    CanS Tryd.prog 94 [num N] [d] (fun r σ' => r = .tuple [.ptr 1 0, num 0] ∧ σ' = hsto false d N 0 (List.replicate N 0) (List.replicate N 0) []) := by
  refine canS_of Tryd.func94 rfl Tryd.ntmps94 rfl ?_
  refine W_cs (
    .val (y_assign rfl rfl) rfl rfl rfl <|
    .val (y_assign rfl rfl) rfl rfl rfl <|
    .nil (.cons (k := 0) rfl <| Sub.nil _)) ?_
  obtain ⟨q1, hq1⟩ : ∃ q, decide ((N : Int) < 0) = q := ⟨_, rfl⟩
  obtain ⟨q2, hq2⟩ : ∃ q, decide ((65536 : Int) < (N : Int)) = q := ⟨_, rfl⟩
  refine W_seq ?_
  refine W_csB 9 (.raw (.bool (q1 || q2))) ?_ ?_
  · refine .val (y_move rfl rfl) rfl rfl rfl <| .val (y_lss rfl rfl rfl (hq1)) rfl rfl rfl <| .val (y_move rfl rfl) rfl rfl rfl <| ?_
    cases q1
    · exact .val (y_move rfl rfl) rfl rfl rfl <| .val (y_gtr rfl rfl rfl (hq2)) rfl rfl rfl <| .val (y_pickF rfl rfl rfl) rfl rfl rfl <| .nil (.cons (k := 9) rfl (.skip rfl <| .skip rfl <| .skip rfl <| .skip rfl <| .skip rfl <| .skip rfl <| Sub.refl _))
    · exact .skip rfl rfl rfl <| .skip rfl rfl rfl <| .val (y_pickT rfl rfl rfl) rfl rfl rfl <| .nil (.cons (k := 9) rfl (.skip rfl <| .skip rfl <| .skip rfl <| .skip rfl <| .skip rfl <| .skip rfl <| Sub.refl _))
  have h1 : q1 = false := by rw [← hq1]; simp
  have h2 : q2 = false := by rw [← hq2]; simp; omega
  refine W_cond (b := q1 || q2) rfl (fun hc => ?_) (fun hc => ?_)
  · rw [h1, h2] at hc
    cases hc
  · clear hc hq1 hq2 h1 h2
    refine W_skip ?_
    refine W_orders1 mixed ?_
    have hfin : W Tryd.prog 16 1 .ret ⟨[(2, .ptr 1 0), (3, num 0)], hsto false d N 0 (List.replicate N 0) (List.replicate N 0) []⟩ (RetS Tryd.prog Tryd.f94 (fun r σ' => r = .tuple [.ptr 1 0, num 0] ∧ σ' = hsto false d N 0 (List.replicate N 0) (List.replicate N 0) [])) :=
      W_ret ⟨_, .cons (.tmp rfl) (.cons (.tmp rfl) .nil), rfl, rfl⟩
    refine WA_step 0 [2] (by kernel_rfl) ?_
    refine WAs_cons rfl rfl (WR_val (y_move rfl rfl) rfl rfl rfl (WR_nil ?_)) ?_
    · refine WA_step 1 [2] (by kernel_rfl) ?_
      refine WAs_cons rfl rfl (WR_loud (l_make rfl rk_29 rfl rfl rfl rfl ⟨by unfold maxLen; omega, by omega⟩) rfl rfl rfl (WR_nil ?_)) ?_
      · refine WA_step 2 [] (by kernel_rfl) ?_
        refine WAs_cons rfl rfl (WR_val (y_move rfl rfl) rfl rfl rfl (WR_nil ?_)) WAs_nil
        refine WA_step 3 [] (by kernel_rfl) ?_
        refine WAs_cons rfl rfl (WR_loud (l_make rfl rk_29 rfl rfl rfl rfl ⟨by unfold maxLen; omega, by omega⟩) rfl rfl rfl (WR_nil ?_)) WAs_nil
        refine WA_step 4 [] (by kernel_rfl) ?_
        refine WAs_cons rfl rfl (WR_val (y_build (xs := [_, _, _]) rfl st_131 rfl rfl) rfl rfl rfl (WR_nil ?_)) WAs_nil
        refine WA_step 5 [] (by kernel_rfl) ?_
        refine WAs_cons rfl rfl (WR_loud (l_box rfl rfl rfl) rfl rfl rfl (WR_nil ?_)) WAs_nil
        refine WA_step 6 [] (by kernel_rfl) ?_
        refine WAs_cons rfl rfl (WR_val (y_assign rfl rfl) rfl rfl rfl (WR_nil ?_)) WAs_nil
        refine WA_step 7 [] (by kernel_rfl) ?_
        refine WAs_cons rfl rfl (WR_val (y_assign rfl rfl) rfl rfl rfl (WR_nil ?_)) WAs_nil
        refine WA_nil (by kernel_rfl) ?_
        refine W_adoptCell 3 2 3 1 rfl rfl ?_
        exact W_ren [0, 3, 1, 2, 4] (.cons 2 rfl (Ren.ptr (i := 1) rfl) <| .cons 3 rfl Ren.pure <| .nil) (.same hd rfl <| .kept rfl (.cells (RenL.cons (Ren.own (i := 2) rfl) <| RenL.cons (Ren.own (i := 3) rfl) <| RenL.cons (Ren.own (i := 4) rfl) RenL.nil)) <| .kept rfl (.rowP rfl (zeros_ints N)) <| .kept rfl (.rowP rfl (zeros_ints N)) <| .kept rfl (.row RenL.pure) <| .nil) rfl rfl hfin
      refine WAs_cons rfl rfl (WR_val (y_move rfl rfl) rfl rfl rfl (WR_nil ?_)) WAs_nil
      refine WA_step 1 [3] (by kernel_rfl) ?_
      refine WAs_cons rfl rfl (WR_loud (l_make rfl rk_29 rfl rfl rfl rfl ⟨by unfold maxLen; omega, by omega⟩) rfl rfl rfl (WR_nil ?_)) ?_
      · refine WA_step 3 [] (by kernel_rfl) ?_
        refine WAs_cons rfl rfl (WR_loud (l_make rfl rk_29 rfl rfl rfl rfl ⟨by unfold maxLen; omega, by omega⟩) rfl rfl rfl (WR_nil ?_)) WAs_nil
        refine WA_step 4 [] (by kernel_rfl) ?_
        refine WAs_cons rfl rfl (WR_val (y_build (xs := [_, _, _]) rfl st_131 rfl rfl) rfl rfl rfl (WR_nil ?_)) WAs_nil
        refine WA_step 5 [] (by kernel_rfl) ?_
        refine WAs_cons rfl rfl (WR_loud (l_box rfl rfl rfl) rfl rfl rfl (WR_nil ?_)) WAs_nil
        refine WA_step 6 [] (by kernel_rfl) ?_
        refine WAs_cons rfl rfl (WR_val (y_assign rfl rfl) rfl rfl rfl (WR_nil ?_)) WAs_nil
        refine WA_step 7 [] (by kernel_rfl) ?_
        refine WAs_cons rfl rfl (WR_val (y_assign rfl rfl) rfl rfl rfl (WR_nil ?_)) WAs_nil
        refine WA_nil (by kernel_rfl) ?_
        refine W_adoptCell 3 2 3 1 rfl rfl ?_
        exact W_ren [0, 3, 1, 2, 4] (.cons 2 rfl (Ren.ptr (i := 1) rfl) <| .cons 3 rfl Ren.pure <| .nil) (.same hd rfl <| .kept rfl (.cells (RenL.cons (Ren.own (i := 2) rfl) <| RenL.cons (Ren.own (i := 3) rfl) <| RenL.cons (Ren.own (i := 4) rfl) RenL.nil)) <| .kept rfl (.rowP rfl (zeros_ints N)) <| .kept rfl (.rowP rfl (zeros_ints N)) <| .kept rfl (.row RenL.pure) <| .nil) rfl rfl hfin
      refine WAs_cons rfl rfl (WR_loud (l_make rfl rk_29 rfl rfl rfl rfl ⟨by unfold maxLen; omega, by omega⟩) rfl rfl rfl (WR_nil ?_)) WAs_nil
      refine WA_step 1 [] (by kernel_rfl) ?_
      refine WAs_cons rfl rfl (WR_loud (l_make rfl rk_29 rfl rfl rfl rfl ⟨by unfold maxLen; omega, by omega⟩) rfl rfl rfl (WR_nil ?_)) WAs_nil
      refine WA_step 4 [] (by kernel_rfl) ?_
      refine WAs_cons rfl rfl (WR_val (y_build (xs := [_, _, _]) rfl st_131 rfl rfl) rfl rfl rfl (WR_nil ?_)) WAs_nil
      refine WA_step 5 [] (by kernel_rfl) ?_
      refine WAs_cons rfl rfl (WR_loud (l_box rfl rfl rfl) rfl rfl rfl (WR_nil ?_)) WAs_nil
      refine WA_step 6 [] (by kernel_rfl) ?_
      refine WAs_cons rfl rfl (WR_val (y_assign rfl rfl) rfl rfl rfl (WR_nil ?_)) WAs_nil
      refine WA_step 7 [] (by kernel_rfl) ?_
      refine WAs_cons rfl rfl (WR_val (y_assign rfl rfl) rfl rfl rfl (WR_nil ?_)) WAs_nil
      refine WA_nil (by kernel_rfl) ?_
      refine W_adoptCell 3 2 3 1 rfl rfl ?_
      exact W_ren [0, 3, 2, 1, 4] (.cons 2 rfl (Ren.ptr (i := 1) rfl) <| .cons 3 rfl Ren.pure <| .nil) (.same hd rfl <| .kept rfl (.cells (RenL.cons (Ren.own (i := 2) rfl) <| RenL.cons (Ren.own (i := 3) rfl) <| RenL.cons (Ren.own (i := 4) rfl) RenL.nil)) <| .kept rfl (.rowP rfl (zeros_ints N)) <| .kept rfl (.rowP rfl (zeros_ints N)) <| .kept rfl (.row RenL.pure) <| .nil) rfl rfl hfin
    refine WAs_cons rfl rfl (WR_val (y_move rfl rfl) rfl rfl rfl (WR_nil ?_)) WAs_nil
    refine WA_step 0 [3] (by kernel_rfl) ?_
    refine WAs_cons rfl rfl (WR_val (y_move rfl rfl) rfl rfl rfl (WR_nil ?_)) ?_
    · refine WA_step 1 [3] (by kernel_rfl) ?_
      refine WAs_cons rfl rfl (WR_loud (l_make rfl rk_29 rfl rfl rfl rfl ⟨by unfold maxLen; omega, by omega⟩) rfl rfl rfl (WR_nil ?_)) ?_
      · refine WA_step 3 [] (by kernel_rfl) ?_
        refine WAs_cons rfl rfl (WR_loud (l_make rfl rk_29 rfl rfl rfl rfl ⟨by unfold maxLen; omega, by omega⟩) rfl rfl rfl (WR_nil ?_)) WAs_nil
        refine WA_step 4 [] (by kernel_rfl) ?_
        refine WAs_cons rfl rfl (WR_val (y_build (xs := [_, _, _]) rfl st_131 rfl rfl) rfl rfl rfl (WR_nil ?_)) WAs_nil
        refine WA_step 5 [] (by kernel_rfl) ?_
        refine WAs_cons rfl rfl (WR_loud (l_box rfl rfl rfl) rfl rfl rfl (WR_nil ?_)) WAs_nil
        refine WA_step 6 [] (by kernel_rfl) ?_
        refine WAs_cons rfl rfl (WR_val (y_assign rfl rfl) rfl rfl rfl (WR_nil ?_)) WAs_nil
        refine WA_step 7 [] (by kernel_rfl) ?_
        refine WAs_cons rfl rfl (WR_val (y_assign rfl rfl) rfl rfl rfl (WR_nil ?_)) WAs_nil
        refine WA_nil (by kernel_rfl) ?_
        refine W_adoptCell 3 2 3 1 rfl rfl ?_
        exact W_ren [0, 3, 1, 2, 4] (.cons 2 rfl (Ren.ptr (i := 1) rfl) <| .cons 3 rfl Ren.pure <| .nil) (.same hd rfl <| .kept rfl (.cells (RenL.cons (Ren.own (i := 2) rfl) <| RenL.cons (Ren.own (i := 3) rfl) <| RenL.cons (Ren.own (i := 4) rfl) RenL.nil)) <| .kept rfl (.rowP rfl (zeros_ints N)) <| .kept rfl (.rowP rfl (zeros_ints N)) <| .kept rfl (.row RenL.pure) <| .nil) rfl rfl hfin
      refine WAs_cons rfl rfl (WR_loud (l_make rfl rk_29 rfl rfl rfl rfl ⟨by unfold maxLen; omega, by omega⟩) rfl rfl rfl (WR_nil ?_)) WAs_nil
      refine WA_step 1 [] (by kernel_rfl) ?_
      refine WAs_cons rfl rfl (WR_loud (l_make rfl rk_29 rfl rfl rfl rfl ⟨by unfold maxLen; omega, by omega⟩) rfl rfl rfl (WR_nil ?_)) WAs_nil
      refine WA_step 4 [] (by kernel_rfl) ?_
      refine WAs_cons rfl rfl (WR_val (y_build (xs := [_, _, _]) rfl st_131 rfl rfl) rfl rfl rfl (WR_nil ?_)) WAs_nil
      refine WA_step 5 [] (by kernel_rfl) ?_
      refine WAs_cons rfl rfl (WR_loud (l_box rfl rfl rfl) rfl rfl rfl (WR_nil ?_)) WAs_nil
      refine WA_step 6 [] (by kernel_rfl) ?_
      refine WAs_cons rfl rfl (WR_val (y_assign rfl rfl) rfl rfl rfl (WR_nil ?_)) WAs_nil
      refine WA_step 7 [] (by kernel_rfl) ?_
      refine WAs_cons rfl rfl (WR_val (y_assign rfl rfl) rfl rfl rfl (WR_nil ?_)) WAs_nil
      refine WA_nil (by kernel_rfl) ?_
      refine W_adoptCell 3 2 3 1 rfl rfl ?_
      exact W_ren [0, 3, 2, 1, 4] (.cons 2 rfl (Ren.ptr (i := 1) rfl) <| .cons 3 rfl Ren.pure <| .nil) (.same hd rfl <| .kept rfl (.cells (RenL.cons (Ren.own (i := 2) rfl) <| RenL.cons (Ren.own (i := 3) rfl) <| RenL.cons (Ren.own (i := 4) rfl) RenL.nil)) <| .kept rfl (.rowP rfl (zeros_ints N)) <| .kept rfl (.rowP rfl (zeros_ints N)) <| .kept rfl (.row RenL.pure) <| .nil) rfl rfl hfin
    refine WAs_cons rfl rfl (WR_loud (l_make rfl rk_29 rfl rfl rfl rfl ⟨by unfold maxLen; omega, by omega⟩) rfl rfl rfl (WR_nil ?_)) WAs_nil
    refine WA_step 0 [] (by kernel_rfl) ?_
    refine WAs_cons rfl rfl (WR_val (y_move rfl rfl) rfl rfl rfl (WR_nil ?_)) WAs_nil
    refine WA_step 1 [] (by kernel_rfl) ?_
    refine WAs_cons rfl rfl (WR_loud (l_make rfl rk_29 rfl rfl rfl rfl ⟨by unfold maxLen; omega, by omega⟩) rfl rfl rfl (WR_nil ?_)) WAs_nil
    refine WA_step 4 [] (by kernel_rfl) ?_
    refine WAs_cons rfl rfl (WR_val (y_build (xs := [_, _, _]) rfl st_131 rfl rfl) rfl rfl rfl (WR_nil ?_)) WAs_nil
    refine WA_step 5 [] (by kernel_rfl) ?_
    refine WAs_cons rfl rfl (WR_loud (l_box rfl rfl rfl) rfl rfl rfl (WR_nil ?_)) WAs_nil
    refine WA_step 6 [] (by kernel_rfl) ?_
    refine WAs_cons rfl rfl (WR_val (y_assign rfl rfl) rfl rfl rfl (WR_nil ?_)) WAs_nil
    refine WA_step 7 [] (by kernel_rfl) ?_
    refine WAs_cons rfl rfl (WR_val (y_assign rfl rfl) rfl rfl rfl (WR_nil ?_)) WAs_nil
    refine WA_nil (by kernel_rfl) ?_
    refine W_adoptCell 3 2 3 1 rfl rfl ?_
    exact W_ren [0, 3, 2, 1, 4] (.cons 2 rfl (Ren.ptr (i := 1) rfl) <| .cons 3 rfl Ren.pure <| .nil) (.same hd rfl <| .kept rfl (.cells (RenL.cons (Ren.own (i := 2) rfl) <| RenL.cons (Ren.own (i := 3) rfl) <| RenL.cons (Ren.own (i := 4) rfl) RenL.nil)) <| .kept rfl (.rowP rfl (zeros_ints N)) <| .kept rfl (.rowP rfl (zeros_ints N)) <| .kept rfl (.row RenL.pure) <| .nil) rfl rfl hfin
end PW
end Go.Proofs.YtkaalpdfppbdeaaDoor
