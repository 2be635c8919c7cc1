/- RepairPath returns true for every input: the arc and the list of a listed entry stand for the path of the node after the failure; there are arcs exactly if the destination is another node that can be reached. No conditions. -/
import Derived.Test.YtbpgndbjbaoolaaGreatCardPPB14
/- The laws of layer 30, walked: awake, large, Tables. -/
namespace Go.Proofs.YtbpgndbjbaoolaaGreat
set_option linter.unusedVariables false
set_option linter.unusedSimpArgs false
namespace PW
open Go.RowKit Reg Mem Net Rng

def tooBig (T : Topo) : Bool := decide ((10 : Int) < T.nodes) || decide ((16 : Int) < T.links.length)
theorem not_big {T : Topo} (h : tooBig T = false) : T.nodes ≤ 12 ∧ T.links.length ≤ 16 := by
  unfold tooBig at h
  simp only [Bool.or_eq_false_iff, decide_eq_false_iff_not] at h
  omega
theorem rsame_yes (L : List Int) : Can Tryz.prog 25 [intsV L, intsV L] (· = flag true) := by
  have h := rsame_can L L
  rw [show sameB L L = true from decide_eq_true rfl] at h
  exact h
end PW
end Go.Proofs.YtbpgndbjbaoolaaGreat

/- The law TransitionValid, walked. -/
namespace Go.Proofs.YtbpgndbjbaoolaaGreat
set_option linter.unusedVariables false
set_option linter.unusedSimpArgs false
namespace PW
open Go.RowKit Reg Mem Net Rng

end PW
end Go.Proofs.YtbpgndbjbaoolaaGreat

/- The laws TransitionStable and TransitionLists, walked. -/
namespace Go.Proofs.YtbpgndbjbaoolaaGreat
set_option linter.unusedVariables false
set_option linter.unusedSimpArgs false
namespace PW
open Go.RowKit Reg Mem Net Rng

theorem Pur.ownE {σ : Sto} {i e s n m : Nat} {xs ys : List PV} [IsPureL ys] (h : σ[i]? = some (some (.row e s n xs))) (hx : xs = ys) (hn : n = m) : Pur σ (.own i) (.slice m ys) := by subst hx; subst hn; exact Pur.ownL h PurL.pure
end PW
end Go.Proofs.YtbpgndbjbaoolaaGreat

/- The laws of layer 29, walked: awake, large, Entry, Table. -/
namespace Go.Proofs.YtbpgndbjbaoolaaGreat
set_option linter.unusedVariables false
set_option linter.unusedSimpArgs false
namespace PW
open Go.RowKit Reg Mem Net Rng

set_option maxRecDepth 10000 in
set_option maxHeartbeats 1000000 in
theorem large29_can (T : Topo) : Can Tryz.prog 34 [topoV T] (· = flag (tooBig T)) := by
  obtain ⟨q1, h1⟩ : ∃ q, decide ((10 : Int) < T.nodes) = q := ⟨_, rfl⟩
  obtain ⟨q2, h2⟩ : ∃ q, decide ((16 : Int) < T.links.length) = q := ⟨_, rfl⟩
  have he : tooBig T = (q1 || q2) := by unfold tooBig; rw [h1, h2]
  rw [he]
  refine can_of Tryz.func34 rfl Tryz.ntmps34 rfl ?_
  refine W_cs (.a 2 rfl <| .k [1] rfl) ?_
  refine W_csK 2 (.raw (.bool (q1 || q2))) [] rfl ?_ ?_
  · refine .a 2 rfl <| .v (y_q rfl (h1)) rfl <| .a 1 rfl <| ?_
    cases q1
    · exact .a 3 rfl <| .v (y_q rfl (h2)) rfl <| .a 2 rfl <| .k [2] rfl
    · exact .a 6 rfl <| .k [2] rfl
  refine W_ret ?_
  exact ⟨_, _, ResL.of rfl, Pur.pure, rfl⟩
set_option maxRecDepth 10000 in
set_option maxHeartbeats 1000000 in
theorem square29_can : Can Tryz.prog 69 [] (· = topoV ringT) := by
  refine can_of Tryz.func69 rfl Tryz.ntmps69 rfl ?_
  refine W_rs ?_
  refine WR_a 1 rfl <| WR_k [0] rfl ?_
  refine W_rs ?_
  refine WR_a 3 rfl <| WR_k [0, 1] rfl ?_
  refine W_adoptCell 1 2 72 7 rfl rfl ?_
  refine W_seq ?_
  refine W_cs (.a 1 rfl <| .k [0, 1, 4] rfl) ?_
  refine W_block ?_
  refine W_k [0, 1, 4] rfl ?_
  refine W_loop (fun r s => ∃ k, k ≤ 4 ∧ r = 4 - k ∧ s = ⟨[(0, .ptr 0 0), (1, .ptr 1 0), (4, num k)], [some (.cells 25 [num 0, .raw (.slice none 0 0), .raw (.slice none 0 0)]), some (.cells 25 [num 4, .raw (.slice none 0 0), .own 2]), some (.row 72 7 k (lnksP (ringL k)))]⟩) 4 ⟨0, by omega, by omega, rfl⟩ ?_
  rintro r s ⟨k, hk, rfl, rfl⟩
  refine W_cs (.a 1 rfl <| .k [0, 1, 4, 5] rfl) ?_
  refine W_seq ?_
  refine W_cond rfl (fun hc => ?_) (fun hc => ?_)
  · have hlt : k < 4 := by have := of_decide_eq_true hc; omega
    refine W_skip ?_
    refine W_seq ?_
    refine W_block ?_
    refine W_cs (.a 2 rfl <| .k [0, 1, 2, 4] rfl) ?_
    refine W_region ?_
    refine WR_a 4 rfl <| WR_v (y_ar rfl) rfl <| WR_v (y_rem rfl rfl rfl (by decide) ((show ((k : Int) + 1).tmod 4 = (((k + 1) % 4 : Nat) : Int) by rw [Int.tmod_eq_emod_of_nonneg (by omega)]; omega))) rfl <| WR_v (y_build2 rfl (show Tryz.prog.built 70 [(0, .int .i64 1), (1, .int .i64 1)] = some #[.int .i64 1, .int .i64 1] by kernel_rfl)) rfl <| WR_a 2 rfl <| WR_l (l_append rfl (fok.rk.get rfl) rfl rfl rfl rfl (by unfold maxLen; omega)) rfl <| WR_a 2 rfl ?_
    refine WR_ren [0, 1, 3] (.c 0 <| .c 1 <| .c 4 <| .nil) (.kept rfl (.cells (RenL.c <| RenL.c <| RenL.c <| RenL.nil)) <| .kept rfl (.cells (RenL.c <| RenL.c <| RenL.c <| RenL.nil)) <| .kept rfl (.rowP rfl (show _ = lnksP (ringL (k + 1)) by rw [ringL_step]; exact lnksP_snoc _ ⟨(k : Int), (((k + 1) % 4 : Nat) : Int), 1, 1, 0, 1, 0⟩)) <| .nil) rfl rfl (WR_nil ?_)
    refine W_chain (.v (y_ar rfl) rfl <| .a 1 rfl <| .k [0, 1, 4] rfl) ?_
    exact ⟨4 - (k + 1), by omega, k + 1, by omega, rfl, rfl⟩
  · have hke : k = 4 := by have := of_decide_eq_false hc; omega
    subst hke
    refine W_exit ?_
    refine W_rs ?_
    refine WR_a 2 rfl <| WR_k [0] rfl ?_
    refine W_ret ?_
    exact ⟨_, _, ResL.of rfl, Pur.aggL (PurL.cons Pur.pure <| PurL.cons Pur.nils <| PurL.cons (Pur.ownL rfl PurL.pure) PurL.nil), rfl⟩
theorem run_eqCmp (a b c d : Int) (w : World) : (Op.equalIn 10000 27 (.agg #[.int .i64 a, .int .i64 b]) (.agg #[.int .i64 c, .int .i64 d])).run Tryz.prog w = .ok (a == c && b == d) w := by
  have u3 := Tryz.underlying3
  have a3 := Tryz.isAgg3
  have z3 := Tryz.sizeOf3
  have hS : Tryz.prog.underlying 27 = some (.struct (Tryz.prog.fieldsOf 27)) := by kernel_rfl
  rw [show (10000 : Nat) = 9999 + 1 from rfl, run_equalIn_agg w 9999 27 _ _ hS (by kernel_rfl)]
  simp only [Program.fieldsOf, Tryz.underlying27]
  go_simp
  by_cases h1 : a = c <;> by_cases h2 : b = d <;> simp [h1, h2]
theorem rep_cmp {E : Env} {w : World} {v : Value} {k x : Int} (h : Rep E w v (compV k x)) : v = .agg #[.int .i64 k, .int .i64 x] := by
  unfold compV compP at h
  cases h with
  | agg cs _ hl hr =>
    obtain ⟨l⟩ := cs
    match l, hl, hr with
    | [x, y], _, hr =>
      have h0 := rep_raw (hr 0 x _ rfl rfl)
      have h1 := rep_raw (hr 1 y _ rfl rfl)
      subst h0; subst h1; rfl
    | [], hl, _ => simp at hl
    | [_], hl, _ => simp at hl
    | _ :: _ :: _ :: _, hl, _ => simp at hl
theorem y_cmpNeq {σ : Sto} {t : Tms} {o : Oper} {x y : Operand} {tz : TypeId} {a b c d : Int} {q : Bool} (ho : o.op = .binOp .neq 27 x y tz) (hx : evalO t x = some (compV a b)) (hy : evalO t y = some (compV c d)) (hq : (!(a == c && b == d)) = q) : Yield Tryz.prog σ t o (.raw (.bool q)) := by
  intro F base E ρ w hρ _ hT
  have h1 := rep_cmp (evalO_rep hρ hT hx)
  have h2 := rep_cmp (evalO_rep hρ hT hy)
  simp only [execOp, ho, h1, h2, Sem.run_bind, run_eqGuard_agg w _ _ _ _ _ _ (show Tryz.prog.eqGuardType Tryz.prog.depth 27 = false by kernel_rfl), Result.andThen_ok, run_neq_struct, run_eqCmp, Sem.run_pure, hq]
  exact upon_val (.raw _)
set_option maxRecDepth 10000 in
set_option maxHeartbeats 1000000 in
theorem awake29_can : Can Tryz.prog 33 [] (· = flag true) := by
  have hA := prtab_can ringT 1 0 0 (by decide)
  rw [show maskE ringT 1 0 = 0 by kernel_rfl, show nodeB ringT 0 = true by kernel_rfl, if_pos rfl, if_pos rfl, ring_mask, show ((0 : Int).toNat) = 0 from rfl, ring_rep] at hA
  have hB := pcomp_can ringT 0 2 ring_valid (by decide) (by decide)
  rw [show (((2 : Nat) : Int)) = 2 from rfl, ring_asm] at hB
  have ht1 := tlist_can [3, 2, 1] (by decide) (by decide)
  have ht2 := tlist_can [3, 2] (by decide) (by decide)
  refine can_of Tryz.func33 rfl Tryz.ntmps33 rfl ?_
  refine W_cs (.a 1 rfl <| .k [] rfl) ?_
  refine W_rs ?_
  refine WR_c rfl (square29_can) rfl <| WR_v (y_le (y_build (xs := [_, _]) rfl (fok.st.get rfl) rfl rfl) (PLe.refl _)) rfl <| WR_c rfl (hA) rfl <| WR_a 6 rfl <| WR_k [1, 2] rfl ?_
  refine W_rs ?_
  refine WR_c rfl (square29_can) rfl <| WR_c rfl (hB) rfl <| WR_a 6 rfl <| WR_k [1, 2, 3, 4] rfl ?_
  refine W_seq ?_
  refine W_csK 45 (.raw (.bool (false))) [1] rfl ?_ ?_
  · exact .a 21 rfl <| .v (y_ix (0) rfl (by omega) (by decide)) rfl <| .v (y_ld rfl ((show _ = some (num 0) from rfl))) rfl <| .a 5 rfl <| .v (y_cmpNeq (a := 2) (b := 1) (c := 2) (d := 1) rfl rfl rfl (q := false) rfl) rfl <| .a 1 rfl <| .k [45, 1] rfl
  refine W_cond rfl (fun h => ?_) (fun h => ?_)
  · exact absurd h (by decide)
  · clear h
    refine W_skip ?_
    refine W_csK 0 (.raw (.bool (true))) [] rfl ?_ ?_
    · exact .a 2 rfl <| .v (y_ix (3) rfl (by omega) (by decide)) rfl <| .a 1 rfl <| .v (y_ld rfl ((show _ = some (intsV [7]) from rfl))) rfl <| .a 1 rfl <| .c rfl (rsame_yes [7]) rfl <| .a 3 rfl <| .v (y_ix (3) rfl (by omega) (by decide)) rfl <| .a 1 rfl <| .v (y_ld rfl ((show _ = some (segsV (nodeS [3, 2, 1])) from rfl))) rfl <| .c rfl (ht1) rfl <| .v (y_strEql rfl rfl rfl (beq_self_eq_true (ByteArray.toList ⟨[110, 51, 32, 110, 50, 32, 110, 49].toArray⟩))) rfl <| .a 4 rfl <| .v (y_ix (6) rfl (by omega) (by decide)) rfl <| .a 1 rfl <| .v (y_ld rfl ((show _ = some (segsV (nodeS [3, 2])) from rfl))) rfl <| .c rfl (ht2) rfl <| .v (y_strEql rfl rfl rfl (beq_self_eq_true (ByteArray.toList ⟨[110, 51, 32, 110, 50].toArray⟩))) rfl <| .a 4 rfl <| .v (y_ix (9) rfl (by omega) (by decide)) rfl <| .a 1 rfl <| .v (y_ld rfl ((show _ = some (flag false) from rfl))) rfl <| .a 3 rfl <| .k [0] rfl
    refine W_ret ?_
    exact ⟨_, _, ResL.of rfl, Pur.pure, rfl⟩
end PW
end Go.Proofs.YtbpgndbjbaoolaaGreat

/- The law RepairPath, walked. -/
namespace Go.Proofs.YtbpgndbjbaoolaaGreat
set_option linter.unusedVariables false
set_option linter.unusedSimpArgs false
namespace PW
open Go.RowKit Reg Mem Net Rng

set_option maxRecDepth 10000 in
set_option maxHeartbeats 1000000 in
theorem whole_can (T : Topo) (D : List Bool) (n p0 : Int) (l : List Seg) (p : List Int) (h12 : T.nodes ≤ 12) (hp : p.length ≤ 1000) (hl : l.length ≤ 32) (h : ckE T D l n p = true ∨ ckE T D (⟨2, p0⟩ :: l) n p = true) : Can Tryz.prog 42 [topoV T, boolsV D, entV ⟨[p0], true, l⟩, num n, intsV p] (· = flag true) := by
  have hc1 := rck_can T D l n p hp h12 (by omega)
  have hc2 := rck_can T D (⟨2, p0⟩ :: l) n p hp h12 (by simp only [List.length_cons]; omega)
  obtain ⟨g, hg⟩ : ∃ g, ckE T D l n p = g := ⟨_, rfl⟩
  rw [hg] at hc1 h
  refine can_of Tryz.func42 rfl Tryz.ntmps42 rfl ?_
  refine W_cs (.a 3 rfl <| .k [1, 3, 4, 5, 7] rfl) ?_
  refine W_seq ?_
  refine W_cs (.a 6 rfl <| .c rfl (hc1) rfl <| .k [1, 3, 4, 5, 7, 17] rfl) ?_
  refine W_cond rfl (fun h1 => ?_) (fun h1 => ?_)
  · skip
    refine W_cs (.a 1 rfl <| .k [10] rfl) ?_
    refine W_ret ?_
    exact ⟨_, _, ResL.of rfl, Pur.pure, rfl⟩
  · have h2 : ckE T D (⟨2, p0⟩ :: l) n p = true := h.resolve_left (by rw [h1]; simp)
    rw [h2] at hc2
    refine W_skip ?_
    refine W_grds 20 2 ([] :: [some (.row 53 2 1 (segsP [⟨2, p0⟩]))] :: [none, some (.row 53 2 (1 + l.length) (segsP [⟨2, p0⟩] ++ segsP l))] :: []) (⟨_, none, 0, 2⟩ :: ⟨_, none, 0, 2⟩ :: ⟨_, none, 0, 0⟩ :: ⟨_, none, 0, 0⟩ :: ⟨_, none, 0, 0⟩ :: ⟨_, none, 0, 0⟩ :: ⟨_, none, 0, 0⟩ :: ⟨.own 0, some 0, 0, 0⟩ :: ⟨_, none, 0, 1⟩ :: ⟨_, none, 0, 1⟩ :: ⟨.own 1, some 1, 0, 0⟩ :: ⟨_, none, 0, 2⟩ :: ⟨_, none, 0, 2⟩ :: ⟨_, none, 2, 2⟩ :: ⟨_, none, 2, 2⟩ :: []) _ mixed ?grd1 rfl rfl rfl rfl (.cons (.val [5] rfl rfl (yz (ya1 (y_a rfl) (ya1 (y_a rfl) (ya1 (y_a rfl) ya0)))) rfl rfl) <| .cons (.val [1] rfl rfl (yz (ya1 (y_a rfl) (ya1 (y_a rfl) (ya1 (y_a rfl) ya0)))) rfl rfl) <| .cons (.val [7] rfl rfl (yz (ya1 (y_a rfl) ya0)) rfl rfl) <| .cons (.val [20] rfl rfl (yz (ya1 (y_a rfl) ya0)) rfl rfl) <| .cons (.val [21] rfl rfl (yz (ya1 (y_ix (0) rfl (by omega) (by simp)) ya0)) rfl rfl) <| .cons (.val [22] rfl rfl (yz (ya1 (y_ld rfl ((show (intsP [p0])[0]? = some (num p0) from rfl))) ya0)) rfl rfl) <| .cons (.val [23] rfl rfl (yz (ya1 (y_a rfl) ya0)) rfl rfl) <| .cons (.loud [24] rfl rfl rfl rfl (l_buildSlice (xs := [_, _]) rfl (fok.sl.get rfl) ⟨Nat.le_of_ble_eq_true rfl, Nat.le_of_ble_eq_true rfl⟩ rfl rfl) rfl rfl) <| .cons (.val [7] rfl rfl (yz (ya1 (y_a rfl) (ya1 (y_a rfl) ya0))) rfl rfl) <| .cons (.val [26] rfl rfl (yz (ya1 (y_a rfl) (ya1 (y_a rfl) ya0))) rfl rfl) <| .cons (.loud [25, 27] rfl rfl rfl rfl (l_append (σ := [some (.row 53 2 1 (segsP [⟨2, p0⟩]))]) (i := 0) (n := 1) (xs := segsP [⟨2, p0⟩]) rfl (fok.rk.get rfl) rfl rfl rfl (segsP_len l) (show 1 + l.length ≤ maxLen ∧ (1 + l.length) * 16 ≤ 140737488355328 by unfold maxLen; omega)) rfl rfl) <| .cons (.val [3] rfl rfl (yz (ya1 (y_a rfl) (ya1 (y_a rfl) (ya1 (y_a rfl) ya0)))) rfl rfl) <| .cons (.val [4] rfl rfl (yz (ya1 (y_a rfl) (ya1 (y_a rfl) (ya1 (y_a rfl) ya0)))) rfl rfl) <| .cons (.val [18, 19, 28, 29, 30] rfl rfl (yz (ya1 (y_cV rfl (PurL.cons Pur.pure <| PurL.cons Pur.pure <| PurL.cons (y := segsV (List.cons ⟨2, p0⟩ l)) (Pur.ownE (xs := segsP [⟨2, p0⟩] ++ segsP l) (n := 1 + l.length) rfl (by simp [segsP]) (by simp [Nat.add_comm])) <| PurL.cons Pur.pure <| PurL.cons Pur.pure PurL.nil) (hc2)) ya0)) rfl rfl) <| .cons (.val [31] rfl rfl (yz (ya1 (y_a rfl) ya0)) rfl rfl) .nil) (keepT_sub (ks := [10]) rfl) ?_
    case grd1 => kernel_rfl
    refine W_ret ?_
    exact ⟨_, _, ResL.of rfl, Pur.pure, rfl⟩
set_option maxRecDepth 10000 in
set_option maxHeartbeats 1000000 in
theorem lawRPath_can (c : Q29) (D : List Bool) : Can Tryz.prog 10 [q29V c, boolsV D] (· = flag true) := by
  obtain ⟨w1, hw1⟩ : ∃ q, q = true := ⟨_, rfl⟩
  have haw : Can Tryz.prog 33 [] (· = flag w1) := hw1 ▸ awake29_can
  obtain ⟨w2, hw2⟩ : ∃ q, tooBig c.T = q := ⟨_, rfl⟩
  obtain ⟨w3, hw3⟩ : ∃ q, decide ((60 : Int) < D.length) = q := ⟨_, rfl⟩
  refine can_of Tryz.func10 rfl Tryz.ntmps10 rfl ?_
  refine W_cs (.a 2 rfl <| .k [1, 2] rfl) ?_
  refine W_seq ?_
  refine W_csK 20 (.raw (.bool (((!w1) || w2) || w3))) [1, 2] rfl ?_ ?_
  · refine .c rfl (haw) rfl <| .a 2 rfl <| ?_
    cases w1
    · exact .a 9 rfl <| .k [20, 1, 2] rfl
    · refine .a 2 rfl <| .c rfl (hw2 ▸ large29_can c.T) rfl <| .a 2 rfl <| ?_
      cases w2
      · exact .a 2 rfl <| .v (y_q rfl (hw3)) rfl <| .a 1 rfl <| .k [20, 1, 2] rfl
      · exact .a 4 rfl <| .k [20, 1, 2] rfl
  refine W_cond rfl (fun hc => ?_) (fun hc => ?_)
  · skip
    refine W_cs (.c rfl (awake29_can) rfl <| .a 1 rfl <| .k [4] rfl) ?_
    refine W_ret ?_
    exact ⟨_, _, ResL.of rfl, Pur.pure, rfl⟩
  · have hy : tooBig c.T = false := by rw [hw2]; exact (Bool.or_eq_false_iff.1 (Bool.or_eq_false_iff.1 hc).1).2
    obtain ⟨s1, s2⟩ := not_big hy
    have hA := pent_can c.T D c.n c.d (by omega) s1
    unfold entE at hA
    obtain ⟨x, hx⟩ : ∃ x, entX c.T D c.n c.d = x := ⟨_, rfl⟩
    rw [hx] at hA
    have hP := rpath27_can c.T D c.n c.d
    unfold intsE at hP
    obtain ⟨P, hPe⟩ : ∃ P, (if spE c.T D c.n c.d = 0 then spathL c.T D c.n.toNat c.d.toNat else []) = P := ⟨_, rfl⟩
    rw [hPe] at hP
    obtain ⟨k1, hk1⟩ : ∃ q, decide (spE c.T D c.n c.d ≠ 0) = q := ⟨_, rfl⟩
    obtain ⟨k2, hk2⟩ : ∃ q, decide (c.n = c.d) = q := ⟨_, rfl⟩
    have hno : ¬ (spE c.T D c.n c.d = 0 ∧ c.n ≠ c.d) → x = ⟨[], false, []⟩ := fun h => by rw [← hx]; exact ent_no h
    refine W_skip ?_
    refine W_rs ?_
    refine WR_a 7 rfl <| WR_c rfl (hA) rfl <| WR_a 6 rfl <| WR_k [1, 2, 5, 6] rfl ?_
    refine W_seq ?_
    refine W_cs (.a 2 rfl <| .k [1, 2, 5, 34] rfl) ?_
    refine W_cond rfl (fun h1 => ?_) (fun h1 => ?_)
    · have h1 := tt h1
      have hxe : x = ⟨[], false, []⟩ := hno fun h => by
        have := h.1
        unfold spE at this
        rw [if_neg h1] at this
        exact h1 this
      subst hxe
      refine W_cs (.a 3 rfl <| .v (y_q rfl (show decide (((([] : List Int).length : Nat) : Int) = 0) = true from rfl)) rfl <| .a 1 rfl <| .k [4] rfl) ?_
      refine W_ret ?_
      exact ⟨_, _, ResL.of rfl, Pur.pure, rfl⟩
    · clear h1
      refine W_skip ?_
      refine W_cs (.a 7 rfl <| .c rfl (hP) rfl <| .a 5 rfl <| .k [1, 2, 5, 7, 8] rfl) ?_
      refine W_seq ?_
      refine W_csK 58 (.raw (.bool (k1 || k2))) [1, 2, 5, 7] rfl ?_ ?_
      · refine .a 1 rfl <| .v (y_q rfl (hk1)) rfl <| .a 1 rfl <| ?_
        cases k1
        · exact .a 4 rfl <| .v (y_q rfl (hk2)) rfl <| .a 1 rfl <| .k [58, 1, 2, 5, 7] rfl
        · exact .a 6 rfl <| .k [58, 1, 2, 5, 7] rfl
      refine W_cond rfl (fun h2 => ?_) (fun h2 => ?_)
      · have hxe : x = ⟨[], false, []⟩ := hno fun h => by
          rcases Bool.or_eq_true_iff.1 h2 with e | e
          · rw [e] at hk1; exact tt hk1 h.1
          · rw [e] at hk2; exact h.2 (tt hk2)
        subst hxe
        refine W_csK 4 (.raw (.bool (true))) [] rfl ?_ ?_
        · exact .a 3 rfl <| .v (y_q rfl (show decide (((([] : List Int).length : Nat) : Int) = 0) = true from rfl)) rfl <| .a 9 rfl <| .v (y_q rfl (show decide (((([] : List Seg).length : Nat) : Int) = 0) = true from rfl)) rfl <| .a 2 rfl <| .k [4] rfl
        refine W_ret ?_
        exact ⟨_, _, ResL.of rfl, Pur.pure, rfl⟩
      · obtain ⟨rfl, rfl⟩ := Bool.or_eq_false_iff.1 h2
        have h3 : spE c.T D c.n c.d = 0 := Classical.byContradiction (ff hk1)
        have h4 : c.n ≠ c.d := ff hk2
        obtain ⟨a, b, ha, hb, hp⟩ := pth_of h3 h4
        rw [if_pos h3, ha, hb, Int.toNat_natCast, Int.toNat_natCast] at hPe
        rw [ha, hb, ent_yes hp, hPe] at hx
        rw [hPe] at hp
        have hlen := hp.len
        have hpos := hp.pos
        have hwh := hp.whole
        have hll := hp.lst.2
        have hcl := cut_len (lstL c.T [] a P)
        rw [← ha] at hwh hll hcl hx
        obtain ⟨l, hl⟩ : ∃ l, cutL (lstL c.T [] c.n P) = l := ⟨_, rfl⟩
        rw [hl] at hwh hx hcl
        obtain ⟨p0, P', rfl⟩ : ∃ p0 P', P = p0 :: P' := by
          cases P with
          | nil => simp at hpos
          | cons p0 q => exact ⟨_, _, rfl⟩
        rw [show (p0 :: P').getD 0 0 = p0 from rfl] at hwh hx
        subst hx
        have hwc := whole_can c.T D c.n p0 l (p0 :: P') s1 (by omega) (by omega) hwh
        clear h2 hP hk1 hk2 h3 h4 hno hp hwh hPe hA hl
        refine W_skip ?_
        refine W_grds 20 0 ([some (.cells 47 (entP ⟨[p0], true, l⟩))] :: []) (⟨_, none, 0, 0⟩ :: ⟨_, none, 0, 0⟩ :: ⟨_, none, 0, 0⟩ :: ⟨_, none, 0, 0⟩ :: ⟨_, none, 0, 0⟩ :: ⟨_, none, 0, 0⟩ :: ⟨_, none, 0, 0⟩ :: ⟨_, none, 0, 0⟩ :: ⟨_, none, 0, 0⟩ :: ⟨_, none, 0, 0⟩ :: ⟨_, none, 0, 0⟩ :: ⟨_, none, 0, 0⟩ :: ⟨_, none, 0, 0⟩ :: ⟨_, none, 0, 0⟩ :: ⟨_, none, 0, 0⟩ :: ⟨_, none, 0, 0⟩ :: ⟨_, none, 0, 0⟩ :: ⟨_, none, 0, 0⟩ :: ⟨_, none, 0, 0⟩ :: ⟨_, none, 0, 0⟩ :: ⟨_, none, 0, 0⟩ :: ⟨_, none, 0, 0⟩ :: ⟨_, none, 0, 0⟩ :: ⟨_, none, 0, 0⟩ :: ⟨_, none, 0, 0⟩ :: ⟨_, none, 0, 0⟩ :: ⟨_, none, 0, 0⟩ :: ⟨_, none, 0, 0⟩ :: ⟨_, none, 0, 0⟩ :: []) _ mixed ?grd2 rfl rfl rfl rfl (.cons (.val [5] rfl rfl (yz (ya1 (y_a rfl) ya0)) rfl rfl) <| .cons (.val [74] rfl rfl (yz (ya1 (y_a rfl) ya0)) rfl rfl) <| .cons (.val [75] rfl rfl (yz (ya1 (y_a rfl) ya0)) rfl rfl) <| .cons (.val [5] rfl rfl (yz (ya1 (y_a rfl) ya0)) rfl rfl) <| .cons (.val [77] rfl rfl (yz (ya1 (y_a rfl) ya0)) rfl rfl) <| .cons (.val [78] rfl rfl (yz (ya1 (y_a rfl) ya0)) rfl rfl) <| .cons (.val [79] rfl rfl (yz (ya1 (y_a rfl) ya0)) rfl rfl) <| .cons (.val [76, 80] rfl rfl (yz (ya1 (y_a rfl) ya0)) rfl rfl) <| .cons (.val [81] rfl rfl (yz (ya1 (y_a rfl) ya0)) rfl rfl) <| .cons (.val [5] rfl rfl (yz (ya1 (y_a rfl) ya0)) rfl rfl) <| .cons (.val [83] rfl rfl (yz (ya1 (y_a rfl) ya0)) rfl rfl) <| .cons (.val [84] rfl rfl (yz (ya1 (y_ix (0) rfl (by omega) (by simp)) ya0)) rfl rfl) <| .cons (.val [85] rfl rfl (yz (ya1 (y_ld rfl ((show (intsP [p0])[0]? = some (num p0) from rfl))) ya0)) rfl rfl) <| .cons (.val [7] rfl rfl (yz (ya1 (y_a rfl) ya0)) rfl rfl) <| .cons (.val [87] rfl rfl (yz (ya1 (y_ix (0) rfl (by omega) (by simp)) ya0)) rfl rfl) <| .cons (.val [88] rfl rfl (yz (ya1 (y_ld rfl ((show (intsP (p0 :: P'))[0]? = some (num p0) from rfl))) ya0)) rfl rfl) <| .cons (.val [86, 89] rfl rfl (yz (ya1 (y_q rfl ((show decide (p0 = p0) = true from decide_eq_true rfl))) ya0)) rfl rfl) <| .cons (.val [82, 90] rfl rfl (yz (ya1 (y_a rfl) ya0)) rfl rfl) <| .cons (.val [91] rfl rfl (yz (ya1 (y_a rfl) ya0)) rfl rfl) <| .cons (.val [2] rfl rfl (yz (ya1 (y_a rfl) ya0)) rfl rfl) <| .cons (.val [93] rfl rfl (yz (ya1 (y_a rfl) ya0)) rfl rfl) <| .cons (.val [1] rfl rfl (yz (ya1 (y_a rfl) ya0)) rfl rfl) <| .cons (.val [5] rfl rfl (yz (ya1 (y_a rfl) ya0)) rfl rfl) <| .cons (.val [2] rfl rfl (yz (ya1 (y_a rfl) ya0)) rfl rfl) <| .cons (.val [97] rfl rfl (yz (ya1 (y_a rfl) ya0)) rfl rfl) <| .cons (.val [7] rfl rfl (yz (ya1 (y_a rfl) ya0)) rfl rfl) <| .cons (.val [94, 95, 96, 98, 99] rfl rfl (yz (ya1 (y_c rfl (hwc)) ya0)) rfl rfl) <| .cons (.val [92, 100] rfl rfl (yz (ya1 (y_a rfl) ya0)) rfl rfl) <| .cons (.val [101] rfl rfl (yz (ya1 (y_a rfl) ya0)) rfl rfl) .nil) (keepT_sub (ks := [4]) rfl) ?_
        case grd2 => kernel_rfl
        refine W_ret ?_
        exact ⟨_, _, ResL.of rfl, Pur.pure, rfl⟩
end PW
end Go.Proofs.YtbpgndbjbaoolaaGreat

namespace Go.Proofs.YtbpgndbjbaoolaaGreat.repairPath
set_option linter.unusedVariables false
set_option linter.unusedSimpArgs false
open Go.ChangeShapes Go.WideShapes Go.ChangeAt Go.RowKit
open Reg Mem PW

set_option maxRecDepth 10000 in
theorem rd_bl {H : Type} {enc : TypeId × Value → H} {W : World} {base : Nat} {v : Value} {d : DataW H} {p : List MemPlace} (hv : Value.okWide Tryz.prog W .any base 22 v) (h : DataW.Trod enc Tryz.prog W 0 (fun _ => true) true 22 v d p) : ∃ l, Rep EN W v (boolsV l) := by
  obtain ⟨a, len, cap, rfl⟩ := okWide_slice Tryz.underlying22 hv
  obtain ⟨fuel, hf⟩ := h
  exact rd_bools hf
set_option maxRecDepth 100000 in
theorem lifted (os : Os) (started : os.Started) (H : Type) (enc : TypeId × Value → H) :
    ReturnsInHanded {} Tryz.checked os 10 .any (Rows.repairPathSpec.pre6 enc Tryz.prog Tryz.f10 Rows.repairPathRow.domain false) (Rows.repairPathSpec.post enc Tryz.prog Tryz.f10 false true false false) := by
  refine returnsInHanded_of_change (C := Tryz.checked) own started (by kernel_rfl) Tryz.func10
    (ChangeSpec.witness6 (enc := enc) (C := Tryz.checked) false ⟨#[], #[.agg #[.int .i64 0, .slice none 0 0, .slice none 0 0, .int .i64 0, .int .i64 0, .int .i64 0, .int .i64 0], .slice none 0 0], []⟩ 8 (by kernel_rfl) (by kernel_rfl) (by kernel_rfl) (by kernel_rfl)) ?_
  intro W base args ds gs before hval0 hW hcnd _
  have hval : ∀ (j : Nat) t v, Tryz.f10.params[j]? = some t → args[j]? = some v → Value.okWide Tryz.prog W .any base t v := hval0
  have hW' := hW
  obtain ⟨p, q, hA0, hV, rfl, hfz, hnd⟩ := hW
  have hA : DataW.TrodAll enc Tryz.prog W 0 (fun _ => true) true Tryz.f10.params.toList args.toList ds p := hA0
  rw [Tryz.params10] at hA hval
  obtain ⟨v0, vs0, d0, ds0, p0, q0, hargs, rfl, rfl, h0, r0⟩ := trodAll_cons hA
  obtain ⟨v1, vs1, d1, ds1, p1, q1, rfl, rfl, rfl, h1, r1⟩ := trodAll_cons r0
  obtain ⟨rfl, rfl, rfl⟩ := trodAll_nil r1
  obtain rfl : args = #[v0, v1] := by cases args; simp_all
  obtain ⟨rfl, rfl⟩ := trodVars_none hV
  have lt0 := lt_of h0
  obtain ⟨c, R0⟩ := rd_q29 (hval 0 58 v0 rfl rfl) h0
  have lt1 := lt_of h1
  obtain ⟨D, R1⟩ := rd_bl (hval 1 22 v1 rfl rfl) h1
  clear hA0 hval0
  refine ((lawRPath_can c D) (fun _ => False) W #[v0, v1] (fun _ h => h.elim) (noGlob _ W) (RepL.cons R0 (RepL.cons R1 (RepL.nil _ _)))).mono fun e W' ⟨x, he, bel, r, hr, hx⟩ => ?_
  subst hr
  cases hx
  subst he
  exact ⟨_, rfl, _, _, _, [], _, [], hW', trodAll_mk1 (shut_bool Tryz.underlying4 _), (trodAll_cons_mk (Below.trod laidOut (by kernel_rfl) (of_decide_eq_true (by kernel_rfl)) h0 bel lt0) (trodAll_cons_mk (Below.trod laidOut (by kernel_rfl) (of_decide_eq_true (by kernel_rfl)) h1 bel lt1) trodAll_mk0)), rfl, bel.frame _, fun h => by cases h⟩

theorem over : Rows.repairPathRow.holds Tryz.pinned (OpenSpec.ofChange Rows.repairPathSpec) :=
  OpenClaim.holds_of_wide 10 Tryz.f10 rfl rfl rfl rfl rfl rfl rfl ⟨rfl, rfl, rfl, rfl, rfl⟩ rfl rfl rfl rfl rfl (by kernel_rfl) Tryz.func10 (by kernel_rfl)
    (of_decide_eq_true (by kernel_rfl)) (by unfold Func.isWrapper; first | (rw [if_pos (by decide +kernel)]; kernel_rfl) | (rw [if_neg (by decide +kernel)]; exact ⟨rfl, rfl⟩))
    (fun os started H enc _ => lifted os started H enc)

theorem proved : Rows.RepairPathSaid := over
end Go.Proofs.YtbpgndbjbaoolaaGreat.repairPath
