/- The laws on tables: awake, large. -/
import Derived.Test.YtkaalpdfppbdeaaDoorRing
import Derived.Test.YtkaalpdfppbdeaaDoorRoutes
namespace Go.Proofs.YtkaalpdfppbdeaaDoor
namespace PW
open Go.RowKit Reg Mem Net

theorem lnksP_snoc (l : List Lnk) (e : Lnk) : lnksP l ++ lnkP e = lnksP (l ++ [e]) := by simp [lnksP]
theorem ringL_step (k : Nat) : ringL (k + 1) = ringL k ++ [⟨(k : Int), (((k + 1) % 4 : Nat) : Int), 1, 1, 0, 1, 0⟩] := by simp [ringL, List.range_succ]
/-- A pair of constants. -/
theorem y_build2 {P : Program} {σ : Sto} {t : Tms} {o : Oper} {ty : TypeId} {v0 v1 c0 c1 : Value} (ho : o.op = .build ty #[(0, .const v0), (1, .const v1)]) (hb : P.built ty [(0, v0), (1, v1)] = some #[c0, c1]) : Yield P σ t o (.agg [.raw c0, .raw c1]) := by
  intro F base E ρ w hρ hS hT
  have hrun := run_build (P := P) w ty #[(0, v0), (1, v1)] #[c0, c1] hb
  have h0 : ρ (.const v0) = v0 := hρ.const v0
  have h1 : ρ (.const v1) = v1 := hρ.const v1
  have hr : (execOp ρ o).run P w = .ok (.value (.agg #[c0, c1])) w := by
    simp only [execOp, ho, Sem.run_bind, List.map_toArray, List.map_cons, List.map_nil, h0, h1, hrun, Result.andThen_ok, Sem.run_pure]
  rw [hr]
  refine upon_val (.agg #[c0, c1] _ rfl (fun i x u k1 k2 => ?_))
  match i, k1, k2 with
  | 0, k1, k2 => simp at k1 k2; subst k1; subst k2; exact .raw _
  | 1, k1, k2 => simp at k1 k2; subst k1; subst k2; exact .raw _
  | _ + 2, k1, k2 => simp at k2
theorem ring_small : Small ringTab := by
  refine ⟨by decide, by decide, fun e he => ?_, by decide, fun a ha => by cases ha⟩
  simp [ringTab] at he
  rcases he with rfl | rfl | rfl | rfl <;> simp
theorem ring_len1 : (List.range 5).all (fun k => Nat.ble ((lineL [[116, 97, 98, 108, 101], Lib.decDigits ringTab.node.toNat]).length + (entsT ringTab.ents k).length) 100000000) = true := by kernel_rfl
theorem ring_len2 : (List.range 4).all (fun d => Nat.ble (lineL ([[116, 111], Lib.decDigits d, [111, 118, 101, 114]] ++ numsT (ringTab.ents.getD d ⟨[], false, []⟩).arcs)).length 100000000) = true := by kernel_rfl
theorem ring_len3 : Nat.ble (lineL ([100, 111, 119, 110] :: numsT ringTab.down)).length 100000000 = true := by kernel_rfl
theorem ring_text_can : Can Tryd.prog 16 [tabV ringTab] (· = strV ringBytes) := by
  rw [← ring_text]
  refine text_small ringTab ring_small (fun k hk => ?_) (fun d e he => ?_) (Nat.le_of_ble_eq_true ring_len3)
  · have h4 : k ≤ 4 := hk
    exact Nat.le_of_ble_eq_true (List.all_eq_true.1 ring_len1 k (List.mem_range.2 (by omega)))
  · have hd : d < ringTab.ents.length := (List.getElem?_eq_some_iff.1 he).1
    have h4 : d < 4 := hd
    have h := Nat.le_of_ble_eq_true (List.all_eq_true.1 ring_len2 d (List.mem_range.2 h4))
    rw [show ringTab.ents.getD d ⟨[], false, []⟩ = e by rw [List.getD_eq_getElem?_getD, he]; rfl] at h
    exact h

set_option maxRecDepth 10000 in
set_option maxHeartbeats 1000000 in
theorem awake_can : Can Tryd.prog 9 [] (· = flag true) := by
  have hro := routes_can ringT [] 0
  rw [ring_routes, show chkE ringT [] [0] = 0 by kernel_rfl] at hro
  refine can_of Tryd.func9 rfl Tryd.ntmps9 rfl ?_
  refine W_cs (
    .val (y_assign rfl rfl) rfl rfl rfl <|
    .nil (Sub.nil _)) ?_
  refine W_cs (
    .val (y_assign rfl rfl) rfl rfl rfl <|
    .nil (.cons (k := 1) rfl <| Sub.nil _)) ?_
  refine W_adopt 1 56 7 rfl ?_
  refine W_seq ?_
  refine W_cs (
    .val (y_move rfl rfl) rfl rfl rfl <|
    .nil (.cons (k := 1) rfl <| .cons (k := 5) rfl <| Sub.nil _)) ?_
  refine W_block ?_
  refine W_sub (.cons (k := 1) rfl <| .cons (k := 5) rfl <| Sub.nil _) ?_
  refine W_loop (fun r s => ∃ k, k ≤ 4 ∧ r = 4 - k ∧ s = ⟨[(1, .own 0), (5, num k)], [some (.row 56 7 k (lnksP (ringL k)))]⟩) 4 ⟨0, by omega, by omega, rfl⟩ ?_
  rintro r s ⟨k, hk, rfl, rfl⟩
  refine W_cs (
    .val (y_lss rfl rfl rfl rfl) rfl rfl rfl <|
    .nil (.cons (k := 1) rfl <| .cons (k := 5) rfl <| .cons (k := 6) rfl <| Sub.nil _)) ?_
  refine W_seq ?_
  refine W_cond rfl (fun hc => ?_) (fun hc => ?_)
  · have hlt : k < 4 := by have := of_decide_eq_true hc; omega
    refine W_skip ?_
    refine W_seq ?_
    refine W_block ?_
    refine W_cs (
      .val (y_move rfl rfl) rfl rfl rfl <|
      .val (y_assign rfl rfl) rfl rfl rfl <|
      .nil (.cons (k := 1) rfl <| .cons (k := 2) rfl <| .cons (k := 5) rfl <| Sub.nil _)) ?_
    refine W_region ?_
    refine WR_val (y_move rfl rfl) rfl rfl rfl ?_
    refine WR_val (y_move rfl rfl) rfl rfl rfl ?_
    refine WR_val (y_move rfl rfl) rfl rfl rfl ?_
    refine WR_val (y_add rfl rfl rfl rfl (by unfold In64; omega)) rfl rfl rfl ?_
    refine WR_val (y_rem rfl rfl rfl (by decide) ((show ((k : Int) + 1).tmod 4 = (((k + 1) % 4 : Nat) : Int) by rw [Int.tmod_eq_emod_of_nonneg (by omega)]; omega))) rfl rfl rfl ?_
    refine WR_val (y_build2 rfl (show Tryd.prog.built 54 [(0, .int .i64 1), (1, .int .i64 1)] = some #[.int .i64 1, .int .i64 1] by kernel_rfl)) rfl rfl rfl ?_
    refine WR_val (y_build (xs := [_, _, _, _, _, _, _]) rfl st_56 rfl rfl) rfl rfl rfl ?_
    refine WR_val (y_buildSlice (xs := [_, _, _, _, _, _, _]) rfl sl_23 ⟨Nat.le_of_ble_eq_true rfl, Nat.le_of_ble_eq_true rfl⟩ rfl rfl) rfl rfl rfl ?_
    refine WR_loud (l_append rfl rk_23 rfl rfl rfl rfl (by unfold maxLen; omega)) rfl rfl rfl ?_
    refine WR_val (y_assign rfl rfl) rfl rfl rfl ?_
    refine WR_ren [1] (.cons 1 rfl (by first | exact Ren.pure | exact Ren.own (i := 0) rfl | exact Ren.ptr (i := 0) rfl) <| .cons 5 rfl (by first | exact Ren.pure | exact Ren.own (i := 0) rfl | exact Ren.ptr (i := 0) rfl) <| .nil) (.kept rfl (.rowP rfl (show _ = lnksP (ringL (k + 1)) by rw [ringL_step]; exact lnksP_snoc _ ⟨(k : Int), (((k + 1) % 4 : Nat) : Int), 1, 1, 0, 1, 0⟩)) <| .nil) rfl rfl (WR_nil ?_)
    refine W_chain (
      .val (y_add rfl rfl rfl rfl (by unfold In64; omega)) rfl rfl rfl <|
      .val (y_move rfl rfl) rfl rfl rfl <|
      .nil (.cons (k := 1) rfl <| .cons (k := 5) rfl <| Sub.nil _)) ?_
    exact ⟨4 - (k + 1), by omega, k + 1, by omega, rfl, rfl⟩
  · have hke : k = 4 := by have := of_decide_eq_false hc; omega
    subst hke
    refine W_seal 1 0 rfl rfl ?_
    refine W_ren [] (.cons 1 rfl (Ren.pure (p := .slice 4 (lnksP (ringL 4)))) .nil) .nil rfl rfl ?_
    refine W_exit ?_
    refine W_rs ?_
    refine WR_val (y_move rfl rfl) rfl rfl rfl ?_
    refine WR_val (y_build (xs := [_, _, _]) rfl st_25 rfl rfl) rfl rfl rfl ?_
    refine WR_val (y_callP rfl en_11 rfl rfl (PurL.cons (Pur.aggL (PurL.cons Pur.pure <| PurL.cons Pur.nils <| PurL.cons Pur.pure PurL.nil)) <| PurL.cons Pur.nils <| PurL.cons Pur.pure PurL.nil) (hro)) rfl rfl rfl ?_
    refine WR_val (y_move rfl rfl) rfl rfl rfl ?_
    refine WR_val (y_extract rfl rfl rfl) rfl rfl rfl ?_
    refine WR_val (y_extract rfl rfl rfl) rfl rfl rfl ?_
    refine WR_loud (l_alloc rfl zk_31) rfl rfl rfl ?_
    refine WR_loud0 (l_store rfl tk_31 rfl rfl rfl rfl rfl (Nat.le_of_ble_eq_true rfl)) rfl rfl ?_
    refine WR_val (y_assign rfl rfl) rfl rfl rfl ?_
    refine WR_sub (.cons (k := 3) rfl <| .cons (k := 4) rfl <| Sub.nil _) (WR_nil ?_)
    refine W_sto (σ' := [some (.cells 31 (tabP ringTab))]) rfl ?_
    refine W_sealPtr 3 0 0 rfl rfl ?_
    refine W_ren [] (.cons 3 rfl (Ren.pure (p := .pin (tabP ringTab) 0)) <| .cons 4 rfl Ren.pure .nil) .nil rfl rfl ?_
    refine W_csB 0 (.raw (.bool (true))) ?_ ?_
    · exact .val (y_move rfl rfl) rfl rfl rfl <| .val (y_eql rfl rfl rfl rfl) rfl rfl rfl <| .val (y_move rfl rfl) rfl rfl rfl <| .val ((by first | exact y_loadPinAll rfl tk_31 rfl rfl | exact y_loadPtrAll rfl tk_31 rfl rfl rfl | exact y_loadPinAgg rfl tk_31 rfl rfl rfl | exact y_loadPtrAgg rfl tk_31 rfl rfl rfl rfl)) rfl rfl rfl <| .val (y_call rfl en_16 rfl rfl (ring_text_can)) rfl rfl rfl <| .val (y_strEql rfl rfl rfl (beq_self_eq_true (ByteArray.toList ⟨ringBytes.toArray⟩))) rfl rfl rfl <| .val (y_pickT rfl rfl rfl) rfl rfl rfl <| .val (y_assign rfl rfl) rfl rfl rfl <| .nil (.cons (k := 0) rfl (.skip rfl <| .skip rfl <| .skip rfl <| .skip rfl <| .skip rfl <| .skip rfl <| .skip rfl <| .skip rfl <| Sub.refl _))
    refine W_ret ?_
    exact ⟨_, _, .cons (.tmp rfl) <| .nil, Pur.pure, rfl⟩
end PW
end Go.Proofs.YtkaalpdfppbdeaaDoor
