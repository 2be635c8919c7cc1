/- RepairReaches returns true for every input: in the state Repair for a covered component, a node that is not gone has an entry with arcs for every other node that it reaches without the component. No conditions. -/
import Derived.Test.YtbpgndbjbaoolaaGreatCardPRB13
/- The laws of layer 30, walked: awake, large, Tables. -/
namespace Go.Proofs.YtbpgndbjbaoolaaGreat
set_option linter.unusedVariables false
set_option linter.unusedSimpArgs false
namespace PW
open Go.RowKit Reg Mem Net Rng

def tooBig (T : Topo) : Bool := decide ((10 : Int) < T.nodes) || decide ((16 : Int) < T.links.length)
theorem not_big {T : Topo} (h : tooBig T = false) : T.nodes ≤ 12 ∧ T.links.length ≤ 16 := by
  unfold tooBig at h
  simp only [Bool.or_eq_false_iff, decide_eq_false_iff_not] at h
  omega
theorem rsame_yes (L : List Int) : Can Tryz.prog 25 [intsV L, intsV L] (· = flag true) := by
  have h := rsame_can L L
  rw [show sameB L L = true from decide_eq_true rfl] at h
  exact h
end PW
end Go.Proofs.YtbpgndbjbaoolaaGreat

/- The law TransitionValid, walked. -/
namespace Go.Proofs.YtbpgndbjbaoolaaGreat
set_option linter.unusedVariables false
set_option linter.unusedSimpArgs false
namespace PW
open Go.RowKit Reg Mem Net Rng

end PW
end Go.Proofs.YtbpgndbjbaoolaaGreat

/- The laws TransitionStable and TransitionLists, walked. -/
namespace Go.Proofs.YtbpgndbjbaoolaaGreat
set_option linter.unusedVariables false
set_option linter.unusedSimpArgs false
namespace PW
open Go.RowKit Reg Mem Net Rng

end PW
end Go.Proofs.YtbpgndbjbaoolaaGreat

/- The laws of layer 29, walked: awake, large, Entry, Table. -/
namespace Go.Proofs.YtbpgndbjbaoolaaGreat
set_option linter.unusedVariables false
set_option linter.unusedSimpArgs false
namespace PW
open Go.RowKit Reg Mem Net Rng

set_option maxRecDepth 10000 in
set_option maxHeartbeats 1000000 in
theorem large29_can (T : Topo) : Can Tryz.prog 34 [topoV T] (· = flag (tooBig T)) := by
  obtain ⟨q1, h1⟩ : ∃ q, decide ((10 : Int) < T.nodes) = q := ⟨_, rfl⟩
  obtain ⟨q2, h2⟩ : ∃ q, decide ((16 : Int) < T.links.length) = q := ⟨_, rfl⟩
  have he : tooBig T = (q1 || q2) := by unfold tooBig; rw [h1, h2]
  rw [he]
  refine can_of Tryz.func34 rfl Tryz.ntmps34 rfl ?_
  refine W_cs (.a 2 rfl <| .k [1] rfl) ?_
  refine W_csK 2 (.raw (.bool (q1 || q2))) [] rfl ?_ ?_
  · refine .a 2 rfl <| .v (y_q rfl (h1)) rfl <| .a 1 rfl <| ?_
    cases q1
    · exact .a 3 rfl <| .v (y_q rfl (h2)) rfl <| .a 2 rfl <| .k [2] rfl
    · exact .a 6 rfl <| .k [2] rfl
  refine W_ret ?_
  exact ⟨_, _, ResL.of rfl, Pur.pure, rfl⟩
set_option maxRecDepth 10000 in
set_option maxHeartbeats 1000000 in
theorem square29_can : Can Tryz.prog 69 [] (· = topoV ringT) := by
  refine can_of Tryz.func69 rfl Tryz.ntmps69 rfl ?_
  refine W_rs ?_
  refine WR_a 1 rfl <| WR_k [0] rfl ?_
  refine W_rs ?_
  refine WR_a 3 rfl <| WR_k [0, 1] rfl ?_
  refine W_adoptCell 1 2 72 7 rfl rfl ?_
  refine W_seq ?_
  refine W_cs (.a 1 rfl <| .k [0, 1, 4] rfl) ?_
  refine W_block ?_
  refine W_k [0, 1, 4] rfl ?_
  refine W_loop (fun r s => ∃ k, k ≤ 4 ∧ r = 4 - k ∧ s = ⟨[(0, .ptr 0 0), (1, .ptr 1 0), (4, num k)], [some (.cells 25 [num 0, .raw (.slice none 0 0), .raw (.slice none 0 0)]), some (.cells 25 [num 4, .raw (.slice none 0 0), .own 2]), some (.row 72 7 k (lnksP (ringL k)))]⟩) 4 ⟨0, by omega, by omega, rfl⟩ ?_
  rintro r s ⟨k, hk, rfl, rfl⟩
  refine W_cs (.a 1 rfl <| .k [0, 1, 4, 5] rfl) ?_
  refine W_seq ?_
  refine W_cond rfl (fun hc => ?_) (fun hc => ?_)
  · have hlt : k < 4 := by have := of_decide_eq_true hc; omega
    refine W_skip ?_
    refine W_seq ?_
    refine W_block ?_
    refine W_cs (.a 2 rfl <| .k [0, 1, 2, 4] rfl) ?_
    refine W_region ?_
    refine WR_a 4 rfl <| WR_v (y_ar rfl) rfl <| WR_v (y_rem rfl rfl rfl (by decide) ((show ((k : Int) + 1).tmod 4 = (((k + 1) % 4 : Nat) : Int) by rw [Int.tmod_eq_emod_of_nonneg (by omega)]; omega))) rfl <| WR_v (y_build2 rfl (show Tryz.prog.built 70 [(0, .int .i64 1), (1, .int .i64 1)] = some #[.int .i64 1, .int .i64 1] by kernel_rfl)) rfl <| WR_a 2 rfl <| WR_l (l_append rfl (fok.rk.get rfl) rfl rfl rfl rfl (by unfold maxLen; omega)) rfl <| WR_a 2 rfl ?_
    refine WR_ren [0, 1, 3] (.c 0 <| .c 1 <| .c 4 <| .nil) (.kept rfl (.cells (RenL.c <| RenL.c <| RenL.c <| RenL.nil)) <| .kept rfl (.cells (RenL.c <| RenL.c <| RenL.c <| RenL.nil)) <| .kept rfl (.rowP rfl (show _ = lnksP (ringL (k + 1)) by rw [ringL_step]; exact lnksP_snoc _ ⟨(k : Int), (((k + 1) % 4 : Nat) : Int), 1, 1, 0, 1, 0⟩)) <| .nil) rfl rfl (WR_nil ?_)
    refine W_chain (.v (y_ar rfl) rfl <| .a 1 rfl <| .k [0, 1, 4] rfl) ?_
    exact ⟨4 - (k + 1), by omega, k + 1, by omega, rfl, rfl⟩
  · have hke : k = 4 := by have := of_decide_eq_false hc; omega
    subst hke
    refine W_exit ?_
    refine W_rs ?_
    refine WR_a 2 rfl <| WR_k [0] rfl ?_
    refine W_ret ?_
    exact ⟨_, _, ResL.of rfl, Pur.aggL (PurL.cons Pur.pure <| PurL.cons Pur.nils <| PurL.cons (Pur.ownL rfl PurL.pure) PurL.nil), rfl⟩
theorem run_eqCmp (a b c d : Int) (w : World) : (Op.equalIn 10000 27 (.agg #[.int .i64 a, .int .i64 b]) (.agg #[.int .i64 c, .int .i64 d])).run Tryz.prog w = .ok (a == c && b == d) w := by
  have u3 := Tryz.underlying3
  have a3 := Tryz.isAgg3
  have z3 := Tryz.sizeOf3
  have hS : Tryz.prog.underlying 27 = some (.struct (Tryz.prog.fieldsOf 27)) := by kernel_rfl
  rw [show (10000 : Nat) = 9999 + 1 from rfl, run_equalIn_agg w 9999 27 _ _ hS (by kernel_rfl)]
  simp only [Program.fieldsOf, Tryz.underlying27]
  go_simp
  by_cases h1 : a = c <;> by_cases h2 : b = d <;> simp [h1, h2]
theorem rep_cmp {E : Env} {w : World} {v : Value} {k x : Int} (h : Rep E w v (compV k x)) : v = .agg #[.int .i64 k, .int .i64 x] := by
  unfold compV compP at h
  cases h with
  | agg cs _ hl hr =>
    obtain ⟨l⟩ := cs
    match l, hl, hr with
    | [x, y], _, hr =>
      have h0 := rep_raw (hr 0 x _ rfl rfl)
      have h1 := rep_raw (hr 1 y _ rfl rfl)
      subst h0; subst h1; rfl
    | [], hl, _ => simp at hl
    | [_], hl, _ => simp at hl
    | _ :: _ :: _ :: _, hl, _ => simp at hl
theorem y_cmpNeq {σ : Sto} {t : Tms} {o : Oper} {x y : Operand} {tz : TypeId} {a b c d : Int} {q : Bool} (ho : o.op = .binOp .neq 27 x y tz) (hx : evalO t x = some (compV a b)) (hy : evalO t y = some (compV c d)) (hq : (!(a == c && b == d)) = q) : Yield Tryz.prog σ t o (.raw (.bool q)) := by
  intro F base E ρ w hρ _ hT
  have h1 := rep_cmp (evalO_rep hρ hT hx)
  have h2 := rep_cmp (evalO_rep hρ hT hy)
  simp only [execOp, ho, h1, h2, Sem.run_bind, run_eqGuard_agg w _ _ _ _ _ _ (show Tryz.prog.eqGuardType Tryz.prog.depth 27 = false by kernel_rfl), Result.andThen_ok, run_neq_struct, run_eqCmp, Sem.run_pure, hq]
  exact upon_val (.raw _)
set_option maxRecDepth 10000 in
set_option maxHeartbeats 1000000 in
theorem awake29_can : Can Tryz.prog 33 [] (· = flag true) := by
  have hA := prtab_can ringT 1 0 0 (by decide)
  rw [show maskE ringT 1 0 = 0 by kernel_rfl, show nodeB ringT 0 = true by kernel_rfl, if_pos rfl, if_pos rfl, ring_mask, show ((0 : Int).toNat) = 0 from rfl, ring_rep] at hA
  have hB := pcomp_can ringT 0 2 ring_valid (by decide) (by decide)
  rw [show (((2 : Nat) : Int)) = 2 from rfl, ring_asm] at hB
  have ht1 := tlist_can [3, 2, 1] (by decide) (by decide)
  have ht2 := tlist_can [3, 2] (by decide) (by decide)
  refine can_of Tryz.func33 rfl Tryz.ntmps33 rfl ?_
  refine W_cs (.a 1 rfl <| .k [] rfl) ?_
  refine W_rs ?_
  refine WR_c rfl (square29_can) rfl <| WR_v (y_le (y_build (xs := [_, _]) rfl (fok.st.get rfl) rfl rfl) (PLe.refl _)) rfl <| WR_c rfl (hA) rfl <| WR_a 6 rfl <| WR_k [1, 2] rfl ?_
  refine W_rs ?_
  refine WR_c rfl (square29_can) rfl <| WR_c rfl (hB) rfl <| WR_a 6 rfl <| WR_k [1, 2, 3, 4] rfl ?_
  refine W_seq ?_
  refine W_csK 45 (.raw (.bool (false))) [1] rfl ?_ ?_
  · exact .a 21 rfl <| .v (y_ix (0) rfl (by omega) (by decide)) rfl <| .v (y_ld rfl ((show _ = some (num 0) from rfl))) rfl <| .a 5 rfl <| .v (y_cmpNeq (a := 2) (b := 1) (c := 2) (d := 1) rfl rfl rfl (q := false) rfl) rfl <| .a 1 rfl <| .k [45, 1] rfl
  refine W_cond rfl (fun h => ?_) (fun h => ?_)
  · exact absurd h (by decide)
  · clear h
    refine W_skip ?_
    refine W_csK 0 (.raw (.bool (true))) [] rfl ?_ ?_
    · exact .a 2 rfl <| .v (y_ix (3) rfl (by omega) (by decide)) rfl <| .a 1 rfl <| .v (y_ld rfl ((show _ = some (intsV [7]) from rfl))) rfl <| .a 1 rfl <| .c rfl (rsame_yes [7]) rfl <| .a 3 rfl <| .v (y_ix (3) rfl (by omega) (by decide)) rfl <| .a 1 rfl <| .v (y_ld rfl ((show _ = some (segsV (nodeS [3, 2, 1])) from rfl))) rfl <| .c rfl (ht1) rfl <| .v (y_strEql rfl rfl rfl (beq_self_eq_true (ByteArray.toList ⟨[110, 51, 32, 110, 50, 32, 110, 49].toArray⟩))) rfl <| .a 4 rfl <| .v (y_ix (6) rfl (by omega) (by decide)) rfl <| .a 1 rfl <| .v (y_ld rfl ((show _ = some (segsV (nodeS [3, 2])) from rfl))) rfl <| .c rfl (ht2) rfl <| .v (y_strEql rfl rfl rfl (beq_self_eq_true (ByteArray.toList ⟨[110, 51, 32, 110, 50].toArray⟩))) rfl <| .a 4 rfl <| .v (y_ix (9) rfl (by omega) (by decide)) rfl <| .a 1 rfl <| .v (y_ld rfl ((show _ = some (flag false) from rfl))) rfl <| .a 3 rfl <| .k [0] rfl
    refine W_ret ?_
    exact ⟨_, _, ResL.of rfl, Pur.pure, rfl⟩
end PW
end Go.Proofs.YtbpgndbjbaoolaaGreat

/- The reference of covered components; the law RepairReaches, walked. -/
namespace Go.Proofs.YtbpgndbjbaoolaaGreat
set_option linter.unusedVariables false
set_option linter.unusedSimpArgs false
namespace PW
open Go.RowKit Reg Mem Net Rng

/-- One component lies within another one, as far as the arc m. -/
def wthTo (T : Topo) (k x k' x' : Int) (m : Nat) : Bool := (List.range m).all fun a => !partB k x T.links (a / 2) || partB k' x' T.links (a / 2)
def wthB (T : Topo) (k x k' x' : Int) : Bool := wthTo T k x k' x' (2 * T.links.length)
theorem wthTo_step (T : Topo) (k x k' x' : Int) (m : Nat) : wthTo T k x k' x' (m + 1) = (wthTo T k x k' x' m && (!partB k x T.links (m / 2) || partB k' x' T.links (m / 2))) := by simp [wthTo, List.range_succ]
theorem all_of_lt {p : Nat → Bool} {m n : Nat} (h : ((List.range m).all p) = false) (hmn : m ≤ n) : ((List.range n).all p) = false := by
  rw [Bool.eq_false_iff] at h ⊢
  intro h'
  refine h (List.all_eq_true.2 fun a ha => List.all_eq_true.1 h' a (List.mem_range.2 ?_))
  have := List.mem_range.1 ha
  omega
set_option maxRecDepth 10000 in
set_option maxHeartbeats 1000000 in
theorem rwth_can (T : Topo) (k x k' x' : Int) (h1 : (validB T && compB T k x) = true) (h2 : (validB T && compB T k' x') = true) : Can Tryz.prog 85 [topoV T, compV k x, compV k' x'] (· = flag (wthB T k x k' x')) := by
  have hll := links_le (Bool.and_eq_true_iff.1 h1).1
  refine can_of Tryz.func85 rfl Tryz.ntmps85 rfl ?_
  refine W_cs (.a 4 rfl <| .k [3, 4, 5] rfl) ?_
  refine W_seq ?_
  refine W_csK 17 (.raw (.bool (false))) [3, 4, 5] rfl ?_ ?_
  · exact .a 2 rfl <| .c rfl (h1 ▸ rvalid10_can T k x) rfl <| .a 4 rfl <| .c rfl (h2 ▸ rvalid10_can T k' x') rfl <| .a 2 rfl <| .k [17, 3, 4, 5] rfl
  refine W_cond rfl (fun h => ?_) (fun h => ?_)
  · exact absurd h (by decide)
  · clear h
    refine W_skip ?_
    refine W_seq ?_
    refine W_cs (.a 1 rfl <| .k [3, 4, 5, 7] rfl) ?_
    refine W_block ?_
    refine W_k [3, 4, 5, 7] rfl ?_
    refine W_loop (fun r st => ∃ m, m ≤ 2 * T.links.length ∧ r = 2 * T.links.length - m ∧ wthTo T k x k' x' m = true ∧ st = ⟨[(3, .pin (topoP T) 0), (4, .pin (compP k x) 0), (5, .pin (compP k' x') 0), (7, num m)], []⟩) (2 * T.links.length) ⟨0, by omega, by omega, rfl, rfl⟩ ?_
    rintro r st ⟨m, hm, rfl, hw, rfl⟩
    refine W_seq ?_
    refine W_cs (.a 4 rfl <| .v (y_ar rfl (hc := rfl)) rfl <| .a 1 rfl <| .k [3, 4, 5, 7, 23] rfl) ?_
    refine W_cond rfl (fun h3 => ?_) (fun h3 => ?_)
    · have hlt : m < 2 * T.links.length := by have := tt h3; omega
      have hst := wthTo_step T k x k' x' m
      obtain ⟨q1, hq1⟩ : ∃ q, partB k x T.links (m / 2) = q := ⟨_, rfl⟩
      obtain ⟨q2, hq2⟩ : ∃ q, partB k' x' T.links (m / 2) = q := ⟨_, rfl⟩
      rw [hw, hq1, hq2] at hst
      refine W_skip ?_
      refine W_seq ?_
      refine W_block ?_
      refine W_csK 36 (.raw (.bool (q1 && !q2))) [3, 4, 5, 7] rfl ?_ ?_
      · refine .a 3 rfl <| .c rfl (hq1 ▸ rof_can T k x m hlt hll) rfl <| .a 1 rfl <| ?_
        cases q1
        · exact .a 6 rfl <| .k [36, 3, 4, 5, 7] rfl
        · exact .a 3 rfl <| .c rfl (hq2 ▸ rof_can T k' x' m hlt hll) rfl <| .a 2 rfl <| .k [36, 3, 4, 5, 7] rfl
      refine W_cond rfl (fun h4 => ?_) (fun h4 => ?_)
      · obtain ⟨e1, e2⟩ := Bool.and_eq_true_iff.1 h4
        have e2 : q2 = false := by simpa using e2
        rw [e1, e2] at hst
        have hf : wthB T k x k' x' = false := all_of_lt hst (by omega)
        rw [hf]
        refine W_cs (.a 1 rfl <| .k [6] rfl) ?_
        refine W_ret ?_
        exact ⟨_, _, ResL.of rfl, Pur.pure, rfl⟩
      · have hw2 : wthTo T k x k' x' (m + 1) = true := by rw [hst]; cases q1 <;> cases q2 <;> first | rfl | cases h4
        refine W_skip ?_
        refine W_chain (.a 1 rfl <| .v (y_ar rfl) rfl <| .a 1 rfl <| .k [3, 4, 5, 7] rfl) ?_
        exact ⟨2 * T.links.length - (m + 1), by omega, m + 1, by omega, rfl, hw2, rfl⟩
    · have hme : m = 2 * T.links.length := by have := ff h3; omega
      subst hme
      have hw : wthB T k x k' x' = true := hw
      rw [hw]
      refine W_exit ?_
      refine W_cs (.a 1 rfl <| .k [6] rfl) ?_
      refine W_ret ?_
      exact ⟨_, _, ResL.of rfl, Pur.pure, rfl⟩
/-- Whether the arc a, towards the nodes below j, assumes components that hold what failed. -/
noncomputable def cvD (T : Topo) (M : List Bool) (k x : Int) (a j : Nat) : Bool := (List.range j).all fun (d : Nat) => !rchB T M (tailN T a) d || wthB T k x (asmF T a d).1 (asmF T a d).2
noncomputable def cvA (T : Topo) (M : List Bool) (k x : Int) (a : Nat) : Bool := (!downN M a || (decide (k = 2) && decide (tailN T a = x))) || cvD T M k x a T.nodes.toNat
noncomputable def cvTo (T : Topo) (k x : Int) (m : Nat) : Bool := (List.range m).all fun a => cvA T (maskL T k x) k x a
/-- Whether a component is covered. -/
noncomputable def cvB (T : Topo) (k x : Int) : Bool := (validB T && compB T k x) && cvTo T k x (2 * T.links.length)
theorem cvD_step (T : Topo) (M : List Bool) (k x : Int) (a j : Nat) : cvD T M k x a (j + 1) = (cvD T M k x a j && (!rchB T M (tailN T a) j || wthB T k x (asmF T a j).1 (asmF T a j).2)) := by simp [cvD, List.range_succ]
theorem cvTo_step (T : Topo) (k x : Int) (m : Nat) : cvTo T k x (m + 1) = (cvTo T k x m && cvA T (maskL T k x) k x m) := by simp [cvTo, List.range_succ]
theorem cv_no {T : Topo} {k x : Int} {m : Nat} (hm : (validB T && compB T k x) = true) (h : cvTo T k x m = true) (hlt : m < 2 * T.links.length) (ha : cvA T (maskL T k x) k x m = false) : cvB T k x = false := by
  unfold cvB
  rw [hm, Bool.true_and]
  refine all_of_lt (m := m + 1) ?_ (by omega)
  have := cvTo_step T k x m
  rw [h, ha] at this
  exact this
set_option maxRecDepth 10000 in
set_option maxHeartbeats 1000000 in
theorem rcov_can (T : Topo) (k x : Int) : Can Tryz.prog 43 [topoV T, compV k x] (· = flag (cvB T k x)) := by
  obtain ⟨q0, hq0⟩ : ∃ q, (validB T && compB T k x) = q := ⟨_, rfl⟩
  have hmk := rmask_can T k x
  unfold boolsE maskE at hmk
  refine can_of Tryz.func43 rfl Tryz.ntmps43 rfl ?_
  refine W_cs (.a 3 rfl <| .k [2, 3] rfl) ?_
  refine W_seq ?_
  refine W_cs (.a 2 rfl <| .c rfl (hq0 ▸ rvalid10_can T k x) rfl <| .a 1 rfl <| .k [2, 3, 15] rfl) ?_
  refine W_cond rfl (fun h1 => ?_) (fun h1 => ?_)
  · have h1 : q0 = false := by simpa using h1
    have he : cvB T k x = false := by unfold cvB; rw [hq0, h1]; rfl
    rw [he]
    refine W_cs (.a 1 rfl <| .k [4] rfl) ?_
    refine W_ret ?_
    exact ⟨_, _, ResL.of rfl, Pur.pure, rfl⟩
  · have h1 : q0 = true := by simpa using h1
    subst h1
    obtain ⟨hv, hc⟩ := Bool.and_eq_true_iff.1 hq0
    have hll := links_le hv
    have hN := (sound_of hv).nodes
    rw [if_pos hq0, if_pos rfl] at hmk
    have hMl := maskL_len T k x
    have hstep := fun m => cvTo_step T k x m
    have hno := fun m => cv_no (m := m) hq0
    obtain ⟨M, hM⟩ : ∃ M, maskL T k x = M := ⟨_, rfl⟩
    rw [hM] at hmk hMl
    simp only [hM] at hstep hno
    obtain ⟨N, hNN⟩ : ∃ N : Nat, T.nodes = (N : Int) := ⟨T.nodes.toNat, by omega⟩
    have hNt : T.nodes.toNat = N := by omega
    refine W_skip ?_
    refine W_cs (.a 2 rfl <| .c rfl (hmk) rfl <| .a 5 rfl <| .k [2, 3, 5] rfl) ?_
    refine W_seq ?_
    refine W_cs (.a 1 rfl <| .k [2, 3, 5, 7] rfl) ?_
    refine W_block ?_
    refine W_k [2, 3, 5, 7] rfl ?_
    refine W_loop (fun r st => ∃ m, m ≤ 2 * T.links.length ∧ r = 2 * T.links.length - m ∧ cvTo T k x m = true ∧ st = ⟨[(2, .pin (topoP T) 0), (3, .pin (compP k x) 0), (5, boolsV M), (7, num m)], []⟩) (2 * T.links.length) ⟨0, by omega, by omega, rfl, rfl⟩ ?_
    rintro r st ⟨m, hm, rfl, hw, rfl⟩
    refine W_seq ?_
    refine W_cs (.a 4 rfl <| .k [2, 3, 5, 7, 25] rfl) ?_
    refine W_cond rfl (fun h3 => ?_) (fun h3 => ?_)
    · have hlt : m < 2 * T.links.length := by have := tt h3; omega
      have hst := hstep m
      rw [hw, Bool.true_and] at hst
      obtain ⟨n, hn⟩ := Int.eq_ofNat_of_zero_le ((sound_of hv).tail m hlt).1
      obtain ⟨q1, hq1⟩ : ∃ q, downN M m = q := ⟨_, rfl⟩
      obtain ⟨q2, hq2⟩ : ∃ q, decide (k = 2) = q := ⟨_, rfl⟩
      obtain ⟨q3, hq3⟩ : ∃ q, decide (tailN T m = x) = q := ⟨_, rfl⟩
      have hA : cvA T M k x m = ((!q1 || (q2 && q3)) || cvD T M k x m N) := by unfold cvA; rw [hq1, hq2, hq3, hNt]
      clear h3
      refine W_skip ?_
      refine W_seq ?_
      refine W_block ?_
      refine W_cs (.a 2 rfl <| .c rfl (rtailN_can T hv m hlt) rfl <| .a 1 rfl <| .k [2, 3, 5, 7, 8] rfl) ?_
      refine W_seq ?_
      refine W_csK 46 (.raw (.bool ((!q1) || (q2 && q3)))) [2, 3, 5, 7, 8] rfl ?_ ?_
      · refine .a 2 rfl <| .v (y_ix (m) rfl) rfl <| .v (y_ld rfl ((show (boolsP M)[m]? = some (flag q1) by rw [bools_getP _ m (by omega), downN_get, hq1]))) rfl <| .a 2 rfl <| ?_
        cases q1
        · exact .a 10 rfl <| .k [46, 2, 3, 5, 7, 8] rfl
        · refine .a 2 rfl <| .v (y_q rfl (hq2)) rfl <| .a 1 rfl <| ?_
          cases q2
          · exact .a 6 rfl <| .k [46, 2, 3, 5, 7, 8] rfl
          · exact .a 3 rfl <| .v (y_q rfl (hq3)) rfl <| .a 2 rfl <| .k [46, 2, 3, 5, 7, 8] rfl
      refine W_cond rfl (fun h4 => ?_) (fun h4 => ?_)
      · have hcv : cvTo T k x (m + 1) = true := by rw [hst, hA, h4]; rfl
        refine W_exit ?_
        refine W_chain (.a 1 rfl <| .v (y_ar rfl) rfl <| .a 1 rfl <| .k [2, 3, 5, 7] rfl) ?_
        exact ⟨2 * T.links.length - (m + 1), by omega, m + 1, by omega, rfl, hcv, rfl⟩
      · rw [h4, Bool.false_or] at hA
        refine W_skip ?_
        refine W_cs (.a 1 rfl <| .k [2, 3, 5, 7, 8, 9] rfl) ?_
        refine W_block ?_
        refine W_k [2, 3, 5, 7, 8, 9] rfl ?_
        refine W_loop (fun r st => ∃ j, j ≤ N ∧ r = N - j ∧ cvD T M k x m j = true ∧ st = ⟨[(2, .pin (topoP T) 0), (3, .pin (compP k x) 0), (5, boolsV M), (7, num m), (8, num (tailN T m)), (9, num j)], []⟩) N ⟨0, by omega, by omega, rfl, rfl⟩ ?_
        rintro r st ⟨j, hj, rfl, hd, rfl⟩
        refine W_seq ?_
        refine W_cs (.a 2 rfl <| .v (y_ld rfl ((show some (num T.nodes) = some (num (N : Int)) by rw [hNN]))) rfl <| .a 1 rfl <| .k [2, 3, 5, 7, 8, 9, 50] rfl) ?_
        refine W_cond rfl (fun h5 => ?_) (fun h5 => ?_)
        · have hjl : j < N := by have := tt h5; omega
          have hds := cvD_step T M k x m j
          rw [hd, Bool.true_and] at hds
          have hcm : (validB T && compB T (asmF T m j).1 (asmF T m j).2) = true := by rw [hv, asm_comp hv hlt]; rfl
          have hcn := rcomp_can T m j hv hlt ⟨by omega, by omega⟩
          have hwn := rwth_can T k x (asmF T m j).1 (asmF T m j).2 hq0 hcm
          generalize asmF T m (j : Int) = cx at *
          obtain ⟨ck, cy⟩ := cx
          simp only at hcm hcn hwn hds
          obtain ⟨r1, hr1⟩ : ∃ q, rchB T M (tailN T m) j = q := ⟨_, rfl⟩
          obtain ⟨r2, hr2⟩ : ∃ q, wthB T k x ck cy = q := ⟨_, rfl⟩
          have hrr := rreach_can T M (tailN T m) j
          rw [hr1] at hds hrr
          rw [hr2] at hds hwn
          refine W_skip ?_
          refine W_seq ?_
          refine W_block ?_
          refine W_seq ?_
          refine W_cs (.a 4 rfl <| .c rfl (hrr) rfl <| .a 1 rfl <| .k [2, 3, 5, 7, 8, 9, 58] rfl) ?_
          refine W_cond rfl (fun h6 => ?_) (fun h6 => ?_)
          · have h6 : r1 = false := by simpa using h6
            have hd2 : cvD T M k x m (j + 1) = true := by rw [hds, h6]; rfl
            refine W_exit ?_
            refine W_chain (.a 1 rfl <| .v (y_ar rfl) rfl <| .a 1 rfl <| .k [2, 3, 5, 7, 8, 9] rfl) ?_
            exact ⟨N - (j + 1), by omega, j + 1, by omega, rfl, hd2, rfl⟩
          · have h6 : r1 = true := by simpa using h6
            rw [h6] at hds
            refine W_skip ?_
            refine W_rs ?_
            refine WR_a 3 rfl <| WR_c rfl (hcn) rfl <| WR_a 6 rfl <| WR_k [2, 3, 5, 7, 8, 9, 10] rfl ?_
            refine W_cs (.a 3 rfl <| .c rfl (hwn) rfl <| .a 1 rfl <| .k [2, 3, 5, 7, 8, 9, 70] rfl) ?_
            refine W_cond rfl (fun h7 => ?_) (fun h7 => ?_)
            · have h7 : r2 = false := by simpa using h7
              rw [h7] at hds
              have hf : cvB T k x = false := hno m hw hlt (by rw [hA]; exact all_of_lt hds (by omega))
              rw [hf]
              refine W_cs (.a 1 rfl <| .k [4] rfl) ?_
              refine W_ret ?_
              exact ⟨_, _, ResL.of rfl, Pur.pure, rfl⟩
            · have h7 : r2 = true := by simpa using h7
              have hd2 : cvD T M k x m (j + 1) = true := by rw [hds, h7]; rfl
              refine W_ren [] (.c 2 <| .c 3 <| .c 5 <| .c 7 <| .c 8 <| .c 9 <| .nil) .nil rfl rfl ?_
              refine W_skip ?_
              refine W_chain (.a 1 rfl <| .v (y_ar rfl) rfl <| .a 1 rfl <| .k [2, 3, 5, 7, 8, 9] rfl) ?_
              exact ⟨N - (j + 1), by omega, j + 1, by omega, rfl, hd2, rfl⟩
        · have hje : j = N := by have := ff h5; omega
          subst hje
          have hcv : cvTo T k x (m + 1) = true := by rw [hst, hA, hd]
          refine W_exit ?_
          refine W_chain (.a 1 rfl <| .v (y_ar rfl) rfl <| .a 1 rfl <| .k [2, 3, 5, 7] rfl) ?_
          exact ⟨2 * T.links.length - (m + 1), by omega, m + 1, by omega, rfl, hcv, rfl⟩
    · have hme : m = 2 * T.links.length := by have := ff h3; omega
      subst hme
      have hf : cvB T k x = true := by unfold cvB; rw [hq0, hw]; rfl
      rw [hf]
      refine W_exit ?_
      refine W_cs (.a 1 rfl <| .k [4] rfl) ?_
      refine W_ret ?_
      exact ⟨_, _, ResL.of rfl, Pur.pure, rfl⟩
set_option maxRecDepth 10000 in
set_option maxHeartbeats 1000000 in
theorem lawRReaches_can (c : Q29) : Can Tryz.prog 11 [q29V c] (· = flag true) := by
  obtain ⟨w1, hw1⟩ : ∃ q, q = true := ⟨_, rfl⟩
  have haw : Can Tryz.prog 33 [] (· = flag w1) := hw1 ▸ awake29_can
  obtain ⟨w2, hw2⟩ : ∃ q, tooBig c.T = q := ⟨_, rfl⟩
  obtain ⟨w3, hw3⟩ : ∃ q, cvB c.T c.k c.x = q := ⟨_, rfl⟩
  obtain ⟨w4, hw4⟩ : ∃ q, decide (c.n < 0) = q := ⟨_, rfl⟩
  obtain ⟨w5, hw5⟩ : ∃ q, decide (c.T.nodes ≤ c.n) = q := ⟨_, rfl⟩
  obtain ⟨w6, hw6⟩ : ∃ q, decide (c.k = 2) = q := ⟨_, rfl⟩
  obtain ⟨w7, hw7⟩ : ∃ q, decide (c.x = c.n) = q := ⟨_, rfl⟩
  refine can_of Tryz.func11 rfl Tryz.ntmps11 rfl ?_
  refine W_cs (.a 2 rfl <| .k [1] rfl) ?_
  refine W_seq ?_
  refine W_csK 49 (.raw (.bool ((((((!w1) || w2) || !w3) || w4) || w5) || (w6 && w7)))) [1] rfl ?_ ?_
  · refine .c rfl (haw) rfl <| .a 2 rfl <| ?_
    cases w1
    · exact .a 39 rfl <| .k [49, 1] rfl
    · refine .a 2 rfl <| .c rfl (hw2 ▸ large29_can c.T) rfl <| .a 2 rfl <| ?_
      cases w2
      · refine .a 4 rfl <| .c rfl (hw3 ▸ rcov_can c.T c.k c.x) rfl <| .a 3 rfl <| ?_
        cases w3
        · exact .a 26 rfl <| .k [49, 1] rfl
        · refine .a 2 rfl <| .v (y_q rfl (hw4)) rfl <| .a 2 rfl <| ?_
          cases w4
          · refine .a 5 rfl <| .v (y_q rfl (hw5)) rfl <| .a 2 rfl <| ?_
            cases w5
            · refine .a 3 rfl <| .v (y_q rfl (hw6)) rfl <| .a 1 rfl <| ?_
              cases w6
              · exact .a 8 rfl <| .k [49, 1] rfl
              · exact .a 5 rfl <| .v (y_q rfl (hw7)) rfl <| .a 2 rfl <| .k [49, 1] rfl
            · exact .a 13 rfl <| .k [49, 1] rfl
          · exact .a 21 rfl <| .k [49, 1] rfl
      · exact .a 34 rfl <| .k [49, 1] rfl
  refine W_cond rfl (fun hc => ?_) (fun hc => ?_)
  · skip
    refine W_cs (.c rfl (awake29_can) rfl <| .a 1 rfl <| .k [2] rfl) ?_
    refine W_ret ?_
    exact ⟨_, _, ResL.of rfl, Pur.pure, rfl⟩
  · have hall : w2 = false ∧ w3 = true ∧ w4 = false ∧ w5 = false := by cases w2 <;> cases w3 <;> cases w4 <;> cases w5 <;> simp at hc ⊢
    obtain ⟨rfl, rfl, rfl, rfl⟩ := hall
    obtain ⟨s1, s2⟩ := not_big hw2
    have hm : (validB c.T && compB c.T c.k c.x) = true := by
      unfold cvB at hw3
      exact (Bool.and_eq_true_iff.1 hw3).1
    obtain ⟨hv, hcp⟩ := Bool.and_eq_true_iff.1 hm
    have n0 := ff hw4
    have n1 := ff hw5
    obtain ⟨m, hm'⟩ := Int.eq_ofNat_of_zero_le (show 0 ≤ c.n by omega)
    have hmN : (m : Int) < c.T.nodes := by omega
    have hnb : nodeB c.T c.n = true := nodeB_iff.2 ⟨by omega, by omega⟩
    have hm0 : maskE c.T c.k c.x = 0 := by unfold maskE; rw [if_pos hm]
    have hA := prtab_can c.T c.k c.x c.n s1
    rw [hm0, if_pos rfl, hnb, if_pos rfl, hm', Int.toNat_natCast] at hA
    unfold tabE at hA
    rw [if_pos rfl, ← hm'] at hA
    have hmk := rmask_can c.T c.k c.x
    unfold boolsE at hmk
    rw [hm0, if_pos rfl] at hmk
    have hmf := mask_fits c.T c.k c.x
    obtain ⟨M, hM⟩ : ∃ M, maskL c.T c.k c.x = M := ⟨_, rfl⟩
    rw [hM] at hmk hA hmf
    have hN := (sound_of hv).nodes
    obtain ⟨N, hNN⟩ : ∃ N : Nat, c.T.nodes = (N : Int) := ⟨c.T.nodes.toNat, by omega⟩
    have hNt : c.T.nodes.toNat = N := by omega
    obtain ⟨tA, htA⟩ : ∃ t, repT c.T M m = t := ⟨_, rfl⟩
    rw [htA] at hA
    have hlA : tA.ents.length = N := by rw [← htA]; show (repL c.T (ownM c.T M m) m c.T.nodes.toNat).length = N; rw [repL_len, hNt]
    have hgA : ∀ d, d < N → tA.ents[d]? = some (repX c.T (ownM c.T M m) m d) := fun d hd => by rw [← htA]; show (repL c.T (ownM c.T M m) m c.T.nodes.toNat)[d]? = _; rw [hNt]; exact repL_get hd
    clear hw1 hw4 hw5 hw6 hw7 haw hc
    refine W_skip ?_
    refine W_rs ?_
    refine WR_a 6 rfl <| WR_c rfl (hA) rfl <| WR_a 6 rfl <| WR_k [1, 3, 4] rfl ?_
    refine W_cs (.a 4 rfl <| .c rfl (hmk) rfl <| .a 5 rfl <| .k [1, 3, 4, 5] rfl) ?_
    refine W_seq ?_
    refine W_cs (.a 2 rfl <| .k [1, 3, 5, 70] rfl) ?_
    refine W_cond rfl (fun h => ?_) (fun h => ?_)
    · exact absurd h (by decide)
    · clear h
      refine W_skip ?_
      refine W_seq ?_
      refine W_cs (.a 4 rfl <| .k [1, 3, 5, 73, 74] rfl) ?_
      refine W_block ?_
      refine W_k [1, 3, 5, 73, 74] rfl ?_
      refine W_loop (fun r s => ∃ d, d ≤ N ∧ r = N - d ∧ s = ⟨[(1, .pin (q29P c) 0), (3, .ptr 0 0), (5, boolsV M), (73, num tA.ents.length), (74, num d)], [some (.cells 35 (tabP tA))]⟩) N ⟨0, by omega, by omega, rfl⟩ ?_
      rintro r s ⟨d, hd, rfl, rfl⟩
      refine W_cs (.a 1 rfl <| .k [1, 3, 5, 73, 74, 75] rfl) ?_
      refine W_seq ?_
      refine W_cond rfl (fun h1 => ?_) (fun h1 => ?_)
      · have hlt : d < N := by have := tt h1; omega
        have hb1 := hgA d hlt
        have g1 : ((entsP tA.ents))[d * 3]? = some (intsV (repX c.T (ownM c.T M m) m d).arcs) := (ents_get _ d 0 _ hb1 (by omega)).trans rfl
        obtain ⟨p1, hp1⟩ : ∃ q, decide ((d : Int) ≠ c.n) = q := ⟨_, rfl⟩
        obtain ⟨p2, hp2⟩ : ∃ q, rchB c.T M c.n d = q := ⟨_, rfl⟩
        have hrr := rreach_can c.T M c.n d
        rw [hp2] at hrr
        have key : p1 = true → p2 = true → (repX c.T (ownM c.T M m) m d).arcs ≠ [] := fun e1 e2 => by
          rw [e1] at hp1
          rw [e2, hm'] at hp2
          exact rep_reach hv hmN (by omega) (fun e => tt hp1 (by omega)) ((rch_iff hv hmf hmN (by omega)).1 hp2)
        generalize (repX c.T (ownM c.T M m) m d).arcs = A at g1 key
        obtain ⟨p3, hp3⟩ : ∃ q, decide ((A.length : Int) = 0) = q := ⟨_, rfl⟩
        have hkey : ((p1 && p2) && p3) = false := by
          cases p1 with
          | false => rfl
          | true =>
            cases p2 with
            | false => rfl
            | true =>
              have := key rfl rfl
              rw [Bool.true_and, Bool.true_and, ← hp3]
              exact decide_eq_false (fun e => this (List.eq_nil_of_length_eq_zero (by omega)))
        refine W_skip ?_
        refine W_seq ?_
        refine W_block ?_
        refine W_cs (.a 2 rfl <| .k [1, 3, 5, 7, 73, 74] rfl) ?_
        refine W_csK 99 (.raw (.bool ((p1 && p2) && p3))) [1, 3, 5, 73, 74] rfl ?_ ?_
        · refine .a 3 rfl <| .v (y_q rfl (hp1)) rfl <| .a 1 rfl <| ?_
          cases p1
          · exact .a 18 rfl <| .k [99, 1, 3, 5, 73, 74] rfl
          · refine .a 6 rfl <| .c rfl (hrr) rfl <| .a 2 rfl <| ?_
            cases p2
            · exact .a 9 rfl <| .k [99, 1, 3, 5, 73, 74] rfl
            · exact .a 3 rfl <| .v (y_ix ((d * 3)) rfl) rfl <| .a 1 rfl <| .v (y_ld rfl (g1)) rfl <| .a 1 rfl <| .v (y_q rfl (hp3)) rfl <| .a 1 rfl <| .k [99, 1, 3, 5, 73, 74] rfl
        refine W_cond rfl (fun h => ?_) (fun h => ?_)
        · rw [hkey] at h
          exact absurd h (by decide)
        · clear h
          refine W_skip ?_
          refine W_chain (.v (y_ar rfl) rfl <| .a 1 rfl <| .k [1, 3, 5, 73, 74] rfl) ?_
          exact ⟨N - (d + 1), by omega, d + 1, by omega, rfl, rfl⟩
      · clear h1
        refine W_exit ?_
        refine W_cs (.a 1 rfl <| .k [2] rfl) ?_
        refine W_ret ?_
        exact ⟨_, _, ResL.of rfl, Pur.pure, rfl⟩
end PW
end Go.Proofs.YtbpgndbjbaoolaaGreat

namespace Go.Proofs.YtbpgndbjbaoolaaGreat.repairReaches
set_option linter.unusedVariables false
set_option linter.unusedSimpArgs false
open Go.ChangeShapes Go.WideShapes Go.ChangeAt Go.RowKit
open Reg Mem PW

set_option maxRecDepth 100000 in
theorem lifted (os : Os) (started : os.Started) (H : Type) (enc : TypeId × Value → H) :
    ReturnsInHanded {} Tryz.checked os 11 .any (Rows.repairReachesSpec.pre6 enc Tryz.prog Tryz.f11 Rows.repairReachesRow.domain false) (Rows.repairReachesSpec.post enc Tryz.prog Tryz.f11 false true false false) := by
  refine returnsInHanded_of_change (C := Tryz.checked) own started (by kernel_rfl) Tryz.func11
    (ChangeSpec.witness6 (enc := enc) (C := Tryz.checked) false ⟨#[], #[.agg #[.int .i64 0, .slice none 0 0, .slice none 0 0, .int .i64 0, .int .i64 0, .int .i64 0, .int .i64 0]], []⟩ 8 (by kernel_rfl) (by kernel_rfl) (by kernel_rfl) (by kernel_rfl)) ?_
  intro W base args ds gs before hval0 hW hcnd _
  have hval : ∀ (j : Nat) t v, Tryz.f11.params[j]? = some t → args[j]? = some v → Value.okWide Tryz.prog W .any base t v := hval0
  have hW' := hW
  obtain ⟨p, q, hA0, hV, rfl, hfz, hnd⟩ := hW
  have hA : DataW.TrodAll enc Tryz.prog W 0 (fun _ => true) true Tryz.f11.params.toList args.toList ds p := hA0
  rw [Tryz.params11] at hA hval
  obtain ⟨v0, vs0, d0, ds0, p0, q0, hargs, rfl, rfl, h0, r0⟩ := trodAll_cons hA
  obtain ⟨rfl, rfl, rfl⟩ := trodAll_nil r0
  obtain rfl : args = #[v0] := by cases args; simp_all
  obtain ⟨rfl, rfl⟩ := trodVars_none hV
  have lt0 := lt_of h0
  obtain ⟨c, R0⟩ := rd_q29 (hval 0 58 v0 rfl rfl) h0
  clear hA0 hval0
  refine ((lawRReaches_can c) (fun _ => False) W #[v0] (fun _ h => h.elim) (noGlob _ W) (RepL.cons R0 (RepL.nil _ _))).mono fun e W' ⟨x, he, bel, r, hr, hx⟩ => ?_
  subst hr
  cases hx
  subst he
  exact ⟨_, rfl, _, _, _, [], _, [], hW', trodAll_mk1 (shut_bool Tryz.underlying4 _), (trodAll_cons_mk (Below.trod laidOut (by kernel_rfl) (of_decide_eq_true (by kernel_rfl)) h0 bel lt0) trodAll_mk0), rfl, bel.frame _, fun h => by cases h⟩

theorem over : Rows.repairReachesRow.holds Tryz.pinned (OpenSpec.ofChange Rows.repairReachesSpec) :=
  OpenClaim.holds_of_wide 11 Tryz.f11 rfl rfl rfl rfl rfl rfl rfl ⟨rfl, rfl, rfl, rfl, rfl⟩ rfl rfl rfl rfl rfl (by kernel_rfl) Tryz.func11 (by kernel_rfl)
    (of_decide_eq_true (by kernel_rfl)) (by unfold Func.isWrapper; first | (rw [if_pos (by decide +kernel)]; kernel_rfl) | (rw [if_neg (by decide +kernel)]; exact ⟨rfl, rfl⟩))
    (fun os started H enc _ => lifted os started H enc)

theorem proved : Rows.RepairReachesSaid := over
end Go.Proofs.YtbpgndbjbaoolaaGreat.repairReaches
