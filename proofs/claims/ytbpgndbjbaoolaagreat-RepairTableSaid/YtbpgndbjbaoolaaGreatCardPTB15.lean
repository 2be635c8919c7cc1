/- RepairTable returns true for every input: Table returns the table in the state Repair of any node for any component, or the specified error. No conditions. -/
import Derived.Test.YtbpgndbjbaoolaaGreatCardPTB14
/- The laws of layer 30, walked: awake, large, Tables. -/
namespace Go.Proofs.YtbpgndbjbaoolaaGreat
set_option linter.unusedVariables false
set_option linter.unusedSimpArgs false
namespace PW
open Go.RowKit Reg Mem Net Rng

def tooBig (T : Topo) : Bool := decide ((10 : Int) < T.nodes) || decide ((16 : Int) < T.links.length)
theorem not_big {T : Topo} (h : tooBig T = false) : T.nodes ≤ 12 ∧ T.links.length ≤ 16 := by
  unfold tooBig at h
  simp only [Bool.or_eq_false_iff, decide_eq_false_iff_not] at h
  omega
theorem rsame_yes (L : List Int) : Can Tryz.prog 25 [intsV L, intsV L] (· = flag true) := by
  have h := rsame_can L L
  rw [show sameB L L = true from decide_eq_true rfl] at h
  exact h
theorem rtab_yes (x : Tab) : Can Tryz.prog 22 [tabV x, tabV x] (· = flag true) := by
  have h := rtab_can x x
  rw [decide_eq_true rfl] at h
  exact h
end PW
end Go.Proofs.YtbpgndbjbaoolaaGreat

/- The law TransitionValid, walked. -/
namespace Go.Proofs.YtbpgndbjbaoolaaGreat
set_option linter.unusedVariables false
set_option linter.unusedSimpArgs false
namespace PW
open Go.RowKit Reg Mem Net Rng

end PW
end Go.Proofs.YtbpgndbjbaoolaaGreat

/- The laws TransitionStable and TransitionLists, walked. -/
namespace Go.Proofs.YtbpgndbjbaoolaaGreat
set_option linter.unusedVariables false
set_option linter.unusedSimpArgs false
namespace PW
open Go.RowKit Reg Mem Net Rng

end PW
end Go.Proofs.YtbpgndbjbaoolaaGreat

/- The laws of layer 29, walked: awake, large, Entry, Table. -/
namespace Go.Proofs.YtbpgndbjbaoolaaGreat
set_option linter.unusedVariables false
set_option linter.unusedSimpArgs false
namespace PW
open Go.RowKit Reg Mem Net Rng

set_option maxRecDepth 10000 in
set_option maxHeartbeats 1000000 in
theorem large29_can (T : Topo) : Can Tryz.prog 34 [topoV T] (· = flag (tooBig T)) := by
  obtain ⟨q1, h1⟩ : ∃ q, decide ((10 : Int) < T.nodes) = q := ⟨_, rfl⟩
  obtain ⟨q2, h2⟩ : ∃ q, decide ((16 : Int) < T.links.length) = q := ⟨_, rfl⟩
  have he : tooBig T = (q1 || q2) := by unfold tooBig; rw [h1, h2]
  rw [he]
  refine can_of Tryz.func34 rfl Tryz.ntmps34 rfl ?_
  refine W_cs (.a 2 rfl <| .k [1] rfl) ?_
  refine W_csK 2 (.raw (.bool (q1 || q2))) [] rfl ?_ ?_
  · refine .a 2 rfl <| .v (y_q rfl (h1)) rfl <| .a 1 rfl <| ?_
    cases q1
    · exact .a 3 rfl <| .v (y_q rfl (h2)) rfl <| .a 2 rfl <| .k [2] rfl
    · exact .a 6 rfl <| .k [2] rfl
  refine W_ret ?_
  exact ⟨_, _, ResL.of rfl, Pur.pure, rfl⟩
set_option maxRecDepth 10000 in
set_option maxHeartbeats 1000000 in
theorem square29_can : Can Tryz.prog 69 [] (· = topoV ringT) := by
  refine can_of Tryz.func69 rfl Tryz.ntmps69 rfl ?_
  refine W_rs ?_
  refine WR_a 1 rfl <| WR_k [0] rfl ?_
  refine W_rs ?_
  refine WR_a 3 rfl <| WR_k [0, 1] rfl ?_
  refine W_adoptCell 1 2 72 7 rfl rfl ?_
  refine W_seq ?_
  refine W_cs (.a 1 rfl <| .k [0, 1, 4] rfl) ?_
  refine W_block ?_
  refine W_k [0, 1, 4] rfl ?_
  refine W_loop (fun r s => ∃ k, k ≤ 4 ∧ r = 4 - k ∧ s = ⟨[(0, .ptr 0 0), (1, .ptr 1 0), (4, num k)], [some (.cells 25 [num 0, .raw (.slice none 0 0), .raw (.slice none 0 0)]), some (.cells 25 [num 4, .raw (.slice none 0 0), .own 2]), some (.row 72 7 k (lnksP (ringL k)))]⟩) 4 ⟨0, by omega, by omega, rfl⟩ ?_
  rintro r s ⟨k, hk, rfl, rfl⟩
  refine W_cs (.a 1 rfl <| .k [0, 1, 4, 5] rfl) ?_
  refine W_seq ?_
  refine W_cond rfl (fun hc => ?_) (fun hc => ?_)
  · have hlt : k < 4 := by have := of_decide_eq_true hc; omega
    refine W_skip ?_
    refine W_seq ?_
    refine W_block ?_
    refine W_cs (.a 2 rfl <| .k [0, 1, 2, 4] rfl) ?_
    refine W_region ?_
    refine WR_a 4 rfl <| WR_v (y_ar rfl) rfl <| WR_v (y_rem rfl rfl rfl (by decide) ((show ((k : Int) + 1).tmod 4 = (((k + 1) % 4 : Nat) : Int) by rw [Int.tmod_eq_emod_of_nonneg (by omega)]; omega))) rfl <| WR_v (y_build2 rfl (show Tryz.prog.built 70 [(0, .int .i64 1), (1, .int .i64 1)] = some #[.int .i64 1, .int .i64 1] by kernel_rfl)) rfl <| WR_a 2 rfl <| WR_l (l_append rfl (fok.rk.get rfl) rfl rfl rfl rfl (by unfold maxLen; omega)) rfl <| WR_a 2 rfl ?_
    refine WR_ren [0, 1, 3] (.c 0 <| .c 1 <| .c 4 <| .nil) (.kept rfl (.cells (RenL.c <| RenL.c <| RenL.c <| RenL.nil)) <| .kept rfl (.cells (RenL.c <| RenL.c <| RenL.c <| RenL.nil)) <| .kept rfl (.rowP rfl (show _ = lnksP (ringL (k + 1)) by rw [ringL_step]; exact lnksP_snoc _ ⟨(k : Int), (((k + 1) % 4 : Nat) : Int), 1, 1, 0, 1, 0⟩)) <| .nil) rfl rfl (WR_nil ?_)
    refine W_chain (.v (y_ar rfl) rfl <| .a 1 rfl <| .k [0, 1, 4] rfl) ?_
    exact ⟨4 - (k + 1), by omega, k + 1, by omega, rfl, rfl⟩
  · have hke : k = 4 := by have := of_decide_eq_false hc; omega
    subst hke
    refine W_exit ?_
    refine W_rs ?_
    refine WR_a 2 rfl <| WR_k [0] rfl ?_
    refine W_ret ?_
    exact ⟨_, _, ResL.of rfl, Pur.aggL (PurL.cons Pur.pure <| PurL.cons Pur.nils <| PurL.cons (Pur.ownL rfl PurL.pure) PurL.nil), rfl⟩
theorem run_eqCmp (a b c d : Int) (w : World) : (Op.equalIn 10000 27 (.agg #[.int .i64 a, .int .i64 b]) (.agg #[.int .i64 c, .int .i64 d])).run Tryz.prog w = .ok (a == c && b == d) w := by
  have u3 := Tryz.underlying3
  have a3 := Tryz.isAgg3
  have z3 := Tryz.sizeOf3
  have hS : Tryz.prog.underlying 27 = some (.struct (Tryz.prog.fieldsOf 27)) := by kernel_rfl
  rw [show (10000 : Nat) = 9999 + 1 from rfl, run_equalIn_agg w 9999 27 _ _ hS (by kernel_rfl)]
  simp only [Program.fieldsOf, Tryz.underlying27]
  go_simp
  by_cases h1 : a = c <;> by_cases h2 : b = d <;> simp [h1, h2]
theorem rep_cmp {E : Env} {w : World} {v : Value} {k x : Int} (h : Rep E w v (compV k x)) : v = .agg #[.int .i64 k, .int .i64 x] := by
  unfold compV compP at h
  cases h with
  | agg cs _ hl hr =>
    obtain ⟨l⟩ := cs
    match l, hl, hr with
    | [x, y], _, hr =>
      have h0 := rep_raw (hr 0 x _ rfl rfl)
      have h1 := rep_raw (hr 1 y _ rfl rfl)
      subst h0; subst h1; rfl
    | [], hl, _ => simp at hl
    | [_], hl, _ => simp at hl
    | _ :: _ :: _ :: _, hl, _ => simp at hl
theorem y_cmpNeq {σ : Sto} {t : Tms} {o : Oper} {x y : Operand} {tz : TypeId} {a b c d : Int} {q : Bool} (ho : o.op = .binOp .neq 27 x y tz) (hx : evalO t x = some (compV a b)) (hy : evalO t y = some (compV c d)) (hq : (!(a == c && b == d)) = q) : Yield Tryz.prog σ t o (.raw (.bool q)) := by
  intro F base E ρ w hρ _ hT
  have h1 := rep_cmp (evalO_rep hρ hT hx)
  have h2 := rep_cmp (evalO_rep hρ hT hy)
  simp only [execOp, ho, h1, h2, Sem.run_bind, run_eqGuard_agg w _ _ _ _ _ _ (show Tryz.prog.eqGuardType Tryz.prog.depth 27 = false by kernel_rfl), Result.andThen_ok, run_neq_struct, run_eqCmp, Sem.run_pure, hq]
  exact upon_val (.raw _)
set_option maxRecDepth 10000 in
set_option maxHeartbeats 1000000 in
theorem awake29_can : Can Tryz.prog 33 [] (· = flag true) := by
  have hA := prtab_can ringT 1 0 0 (by decide)
  rw [show maskE ringT 1 0 = 0 by kernel_rfl, show nodeB ringT 0 = true by kernel_rfl, if_pos rfl, if_pos rfl, ring_mask, show ((0 : Int).toNat) = 0 from rfl, ring_rep] at hA
  have hB := pcomp_can ringT 0 2 ring_valid (by decide) (by decide)
  rw [show (((2 : Nat) : Int)) = 2 from rfl, ring_asm] at hB
  have ht1 := tlist_can [3, 2, 1] (by decide) (by decide)
  have ht2 := tlist_can [3, 2] (by decide) (by decide)
  refine can_of Tryz.func33 rfl Tryz.ntmps33 rfl ?_
  refine W_cs (.a 1 rfl <| .k [] rfl) ?_
  refine W_rs ?_
  refine WR_c rfl (square29_can) rfl <| WR_v (y_le (y_build (xs := [_, _]) rfl (fok.st.get rfl) rfl rfl) (PLe.refl _)) rfl <| WR_c rfl (hA) rfl <| WR_a 6 rfl <| WR_k [1, 2] rfl ?_
  refine W_rs ?_
  refine WR_c rfl (square29_can) rfl <| WR_c rfl (hB) rfl <| WR_a 6 rfl <| WR_k [1, 2, 3, 4] rfl ?_
  refine W_seq ?_
  refine W_csK 45 (.raw (.bool (false))) [1] rfl ?_ ?_
  · exact .a 21 rfl <| .v (y_ix (0) rfl (by omega) (by decide)) rfl <| .v (y_ld rfl ((show _ = some (num 0) from rfl))) rfl <| .a 5 rfl <| .v (y_cmpNeq (a := 2) (b := 1) (c := 2) (d := 1) rfl rfl rfl (q := false) rfl) rfl <| .a 1 rfl <| .k [45, 1] rfl
  refine W_cond rfl (fun h => ?_) (fun h => ?_)
  · exact absurd h (by decide)
  · clear h
    refine W_skip ?_
    refine W_csK 0 (.raw (.bool (true))) [] rfl ?_ ?_
    · exact .a 2 rfl <| .v (y_ix (3) rfl (by omega) (by decide)) rfl <| .a 1 rfl <| .v (y_ld rfl ((show _ = some (intsV [7]) from rfl))) rfl <| .a 1 rfl <| .c rfl (rsame_yes [7]) rfl <| .a 3 rfl <| .v (y_ix (3) rfl (by omega) (by decide)) rfl <| .a 1 rfl <| .v (y_ld rfl ((show _ = some (segsV (nodeS [3, 2, 1])) from rfl))) rfl <| .c rfl (ht1) rfl <| .v (y_strEql rfl rfl rfl (beq_self_eq_true (ByteArray.toList ⟨[110, 51, 32, 110, 50, 32, 110, 49].toArray⟩))) rfl <| .a 4 rfl <| .v (y_ix (6) rfl (by omega) (by decide)) rfl <| .a 1 rfl <| .v (y_ld rfl ((show _ = some (segsV (nodeS [3, 2])) from rfl))) rfl <| .c rfl (ht2) rfl <| .v (y_strEql rfl rfl rfl (beq_self_eq_true (ByteArray.toList ⟨[110, 51, 32, 110, 50].toArray⟩))) rfl <| .a 4 rfl <| .v (y_ix (9) rfl (by omega) (by decide)) rfl <| .a 1 rfl <| .v (y_ld rfl ((show _ = some (flag false) from rfl))) rfl <| .a 3 rfl <| .k [0] rfl
    refine W_ret ?_
    exact ⟨_, _, ResL.of rfl, Pur.pure, rfl⟩
set_option maxRecDepth 10000 in
set_option maxHeartbeats 1000000 in
theorem lawRTable_can (c : Q29) : Can Tryz.prog 8 [q29V c] (· = flag true) := by
  obtain ⟨w1, hw1⟩ : ∃ q, q = true := ⟨_, rfl⟩
  have haw : Can Tryz.prog 33 [] (· = flag w1) := hw1 ▸ awake29_can
  obtain ⟨w2, hw2⟩ : ∃ q, tooBig c.T = q := ⟨_, rfl⟩
  refine can_of Tryz.func8 rfl Tryz.ntmps8 rfl ?_
  refine W_cs (.a 2 rfl <| .k [1] rfl) ?_
  refine W_seq ?_
  refine W_csK 13 (.raw (.bool ((!w1) || w2))) [1] rfl ?_ ?_
  · refine .c rfl (haw) rfl <| .a 2 rfl <| ?_
    cases w1
    · exact .a 4 rfl <| .k [13, 1] rfl
    · exact .a 2 rfl <| .c rfl (hw2 ▸ large29_can c.T) rfl <| .a 1 rfl <| .k [13, 1] rfl
  refine W_cond rfl (fun hc => ?_) (fun hc => ?_)
  · skip
    refine W_cs (.c rfl (awake29_can) rfl <| .a 1 rfl <| .k [2] rfl) ?_
    refine W_ret ?_
    exact ⟨_, _, ResL.of rfl, Pur.pure, rfl⟩
  · have hy : tooBig c.T = false := by rw [hw2]; exact (Bool.or_eq_false_iff.1 hc).2
    obtain ⟨s1, s2⟩ := not_big hy
    have hA := prtab_can c.T c.k c.x c.n s1
    have hB := rrtab_can c.T c.k c.x c.n s1
    unfold tabE at hA hB
    generalize (if maskE c.T c.k c.x = 0 then (if nodeB c.T c.n = true then (0 : Int) else 2) else 1) = e at hA hB
    obtain ⟨x, hx⟩ : ∃ x, (if e = 0 then repT c.T (maskL c.T c.k c.x) c.n.toNat else ⟨0, [], []⟩) = x := ⟨_, rfl⟩
    rw [hx] at hA hB
    obtain ⟨q1, h1⟩ : ∃ q, decide (e = e) = q := ⟨_, rfl⟩
    have q1t : q1 = true := by rw [← h1]; exact decide_eq_true rfl
    obtain ⟨q3, h3⟩ : ∃ q, q = true := ⟨_, rfl⟩
    have hs := rtab_yes x
    rw [← h3] at hs
    refine W_skip ?_
    refine W_rs ?_
    refine WR_a 6 rfl <| WR_c rfl (hA) rfl <| WR_a 6 rfl <| WR_k [1, 3, 4] rfl ?_
    refine W_rs ?_
    refine WR_a 6 rfl <| WR_c rfl (hB) rfl <| WR_a 6 rfl <| WR_k [3, 4, 5, 6] rfl ?_
    refine W_csK 2 (.raw (.bool (q1 && q3))) [] rfl ?_ ?_
    · refine .a 2 rfl <| .v (y_q rfl (h1)) rfl <| .a 1 rfl <| ?_
      cases q1
      · exact .a 5 rfl <| .k [2] rfl
      · exact .a 2 rfl <| .c rfl (hs) rfl <| .a 2 rfl <| .k [2] rfl
    refine W_ret ?_
    exact ⟨_, _, ResL.of rfl, Pur.pure, by rw [q1t, h3]; rfl⟩
end PW
end Go.Proofs.YtbpgndbjbaoolaaGreat

namespace Go.Proofs.YtbpgndbjbaoolaaGreat.repairTable
set_option linter.unusedVariables false
set_option linter.unusedSimpArgs false
open Go.ChangeShapes Go.WideShapes Go.ChangeAt Go.RowKit
open Reg Mem PW

set_option maxRecDepth 100000 in
theorem lifted (os : Os) (started : os.Started) (H : Type) (enc : TypeId × Value → H) :
    ReturnsInHanded {} Tryz.checked os 8 .any (Rows.repairTableSpec.pre6 enc Tryz.prog Tryz.f8 Rows.repairTableRow.domain false) (Rows.repairTableSpec.post enc Tryz.prog Tryz.f8 false true false false) := by
  refine returnsInHanded_of_change (C := Tryz.checked) own started (by kernel_rfl) Tryz.func8
    (ChangeSpec.witness6 (enc := enc) (C := Tryz.checked) false ⟨#[], #[.agg #[.int .i64 0, .slice none 0 0, .slice none 0 0, .int .i64 0, .int .i64 0, .int .i64 0, .int .i64 0]], []⟩ 8 (by kernel_rfl) (by kernel_rfl) (by kernel_rfl) (by kernel_rfl)) ?_
  intro W base args ds gs before hval0 hW hcnd _
  have hval : ∀ (j : Nat) t v, Tryz.f8.params[j]? = some t → args[j]? = some v → Value.okWide Tryz.prog W .any base t v := hval0
  have hW' := hW
  obtain ⟨p, q, hA0, hV, rfl, hfz, hnd⟩ := hW
  have hA : DataW.TrodAll enc Tryz.prog W 0 (fun _ => true) true Tryz.f8.params.toList args.toList ds p := hA0
  rw [Tryz.params8] at hA hval
  obtain ⟨v0, vs0, d0, ds0, p0, q0, hargs, rfl, rfl, h0, r0⟩ := trodAll_cons hA
  obtain ⟨rfl, rfl, rfl⟩ := trodAll_nil r0
  obtain rfl : args = #[v0] := by cases args; simp_all
  obtain ⟨rfl, rfl⟩ := trodVars_none hV
  have lt0 := lt_of h0
  obtain ⟨c, R0⟩ := rd_q29 (hval 0 58 v0 rfl rfl) h0
  clear hA0 hval0
  refine ((lawRTable_can c) (fun _ => False) W #[v0] (fun _ h => h.elim) (noGlob _ W) (RepL.cons R0 (RepL.nil _ _))).mono fun e W' ⟨x, he, bel, r, hr, hx⟩ => ?_
  subst hr
  cases hx
  subst he
  exact ⟨_, rfl, _, _, _, [], _, [], hW', trodAll_mk1 (shut_bool Tryz.underlying4 _), (trodAll_cons_mk (Below.trod laidOut (by kernel_rfl) (of_decide_eq_true (by kernel_rfl)) h0 bel lt0) trodAll_mk0), rfl, bel.frame _, fun h => by cases h⟩

theorem over : Rows.repairTableRow.holds Tryz.pinned (OpenSpec.ofChange Rows.repairTableSpec) :=
  OpenClaim.holds_of_wide 8 Tryz.f8 rfl rfl rfl rfl rfl rfl rfl ⟨rfl, rfl, rfl, rfl, rfl⟩ rfl rfl rfl rfl rfl (by kernel_rfl) Tryz.func8 (by kernel_rfl)
    (of_decide_eq_true (by kernel_rfl)) (by unfold Func.isWrapper; first | (rw [if_pos (by decide +kernel)]; kernel_rfl) | (rw [if_neg (by decide +kernel)]; exact ⟨rfl, rfl⟩))
    (fun os started H enc _ => lifted os started H enc)

theorem proved : Rows.RepairTableSaid := over
end Go.Proofs.YtbpgndbjbaoolaaGreat.repairTable
