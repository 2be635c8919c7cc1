/- RepairCovered returns true for every input: all links and groups are covered, and so is a node if none of its links has a group. No conditions. -/
import Derived.RangeFuncBox
import Derived.Test.YtbpgndbjbaoolaaGreatCardPCB12
/- The laws of layer 30, walked: awake, large, Tables. -/
namespace Go.Proofs.YtbpgndbjbaoolaaGreat
set_option linter.unusedVariables false
set_option linter.unusedSimpArgs false
namespace PW
open Go.RowKit Reg Mem Net Rng

def tooBig (T : Topo) : Bool := decide ((10 : Int) < T.nodes) || decide ((16 : Int) < T.links.length)
theorem not_big {T : Topo} (h : tooBig T = false) : T.nodes ≤ 12 ∧ T.links.length ≤ 16 := by
  unfold tooBig at h
  simp only [Bool.or_eq_false_iff, decide_eq_false_iff_not] at h
  omega
theorem rsame_yes (L : List Int) : Can Tryz.prog 25 [intsV L, intsV L] (· = flag true) := by
  have h := rsame_can L L
  rw [show sameB L L = true from decide_eq_true rfl] at h
  exact h
end PW
end Go.Proofs.YtbpgndbjbaoolaaGreat

/- The law TransitionValid, walked. -/
namespace Go.Proofs.YtbpgndbjbaoolaaGreat
set_option linter.unusedVariables false
set_option linter.unusedSimpArgs false
namespace PW
open Go.RowKit Reg Mem Net Rng

end PW
end Go.Proofs.YtbpgndbjbaoolaaGreat

/- The laws TransitionStable and TransitionLists, walked. -/
namespace Go.Proofs.YtbpgndbjbaoolaaGreat
set_option linter.unusedVariables false
set_option linter.unusedSimpArgs false
namespace PW
open Go.RowKit Reg Mem Net Rng

end PW
end Go.Proofs.YtbpgndbjbaoolaaGreat

/- The laws of layer 29, walked: awake, large, Entry, Table. -/
namespace Go.Proofs.YtbpgndbjbaoolaaGreat
set_option linter.unusedVariables false
set_option linter.unusedSimpArgs false
namespace PW
open Go.RowKit Reg Mem Net Rng

set_option maxRecDepth 10000 in
set_option maxHeartbeats 1000000 in
theorem large29_can (T : Topo) : Can Tryz.prog 34 [topoV T] (· = flag (tooBig T)) := by
  obtain ⟨q1, h1⟩ : ∃ q, decide ((10 : Int) < T.nodes) = q := ⟨_, rfl⟩
  obtain ⟨q2, h2⟩ : ∃ q, decide ((16 : Int) < T.links.length) = q := ⟨_, rfl⟩
  have he : tooBig T = (q1 || q2) := by unfold tooBig; rw [h1, h2]
  rw [he]
  refine can_of Tryz.func34 rfl Tryz.ntmps34 rfl ?_
  refine W_cs (.a 2 rfl <| .k [1] rfl) ?_
  refine W_csK 2 (.raw (.bool (q1 || q2))) [] rfl ?_ ?_
  · refine .a 2 rfl <| .v (y_q rfl (h1)) rfl <| .a 1 rfl <| ?_
    cases q1
    · exact .a 3 rfl <| .v (y_q rfl (h2)) rfl <| .a 2 rfl <| .k [2] rfl
    · exact .a 6 rfl <| .k [2] rfl
  refine W_ret ?_
  exact ⟨_, _, ResL.of rfl, Pur.pure, rfl⟩
set_option maxRecDepth 10000 in
set_option maxHeartbeats 1000000 in
theorem square29_can : Can Tryz.prog 69 [] (· = topoV ringT) := by
  refine can_of Tryz.func69 rfl Tryz.ntmps69 rfl ?_
  refine W_rs ?_
  refine WR_a 1 rfl <| WR_k [0] rfl ?_
  refine W_rs ?_
  refine WR_a 3 rfl <| WR_k [0, 1] rfl ?_
  refine W_adoptCell 1 2 72 7 rfl rfl ?_
  refine W_seq ?_
  refine W_cs (.a 1 rfl <| .k [0, 1, 4] rfl) ?_
  refine W_block ?_
  refine W_k [0, 1, 4] rfl ?_
  refine W_loop (fun r s => ∃ k, k ≤ 4 ∧ r = 4 - k ∧ s = ⟨[(0, .ptr 0 0), (1, .ptr 1 0), (4, num k)], [some (.cells 25 [num 0, .raw (.slice none 0 0), .raw (.slice none 0 0)]), some (.cells 25 [num 4, .raw (.slice none 0 0), .own 2]), some (.row 72 7 k (lnksP (ringL k)))]⟩) 4 ⟨0, by omega, by omega, rfl⟩ ?_
  rintro r s ⟨k, hk, rfl, rfl⟩
  refine W_cs (.a 1 rfl <| .k [0, 1, 4, 5] rfl) ?_
  refine W_seq ?_
  refine W_cond rfl (fun hc => ?_) (fun hc => ?_)
  · have hlt : k < 4 := by have := of_decide_eq_true hc; omega
    refine W_skip ?_
    refine W_seq ?_
    refine W_block ?_
    refine W_cs (.a 2 rfl <| .k [0, 1, 2, 4] rfl) ?_
    refine W_region ?_
    refine WR_a 4 rfl <| WR_v (y_ar rfl) rfl <| WR_v (y_rem rfl rfl rfl (by decide) ((show ((k : Int) + 1).tmod 4 = (((k + 1) % 4 : Nat) : Int) by rw [Int.tmod_eq_emod_of_nonneg (by omega)]; omega))) rfl <| WR_v (y_build2 rfl (show Tryz.prog.built 70 [(0, .int .i64 1), (1, .int .i64 1)] = some #[.int .i64 1, .int .i64 1] by kernel_rfl)) rfl <| WR_a 2 rfl <| WR_l (l_append rfl (fok.rk.get rfl) rfl rfl rfl rfl (by unfold maxLen; omega)) rfl <| WR_a 2 rfl ?_
    refine WR_ren [0, 1, 3] (.c 0 <| .c 1 <| .c 4 <| .nil) (.kept rfl (.cells (RenL.c <| RenL.c <| RenL.c <| RenL.nil)) <| .kept rfl (.cells (RenL.c <| RenL.c <| RenL.c <| RenL.nil)) <| .kept rfl (.rowP rfl (show _ = lnksP (ringL (k + 1)) by rw [ringL_step]; exact lnksP_snoc _ ⟨(k : Int), (((k + 1) % 4 : Nat) : Int), 1, 1, 0, 1, 0⟩)) <| .nil) rfl rfl (WR_nil ?_)
    refine W_chain (.v (y_ar rfl) rfl <| .a 1 rfl <| .k [0, 1, 4] rfl) ?_
    exact ⟨4 - (k + 1), by omega, k + 1, by omega, rfl, rfl⟩
  · have hke : k = 4 := by have := of_decide_eq_false hc; omega
    subst hke
    refine W_exit ?_
    refine W_rs ?_
    refine WR_a 2 rfl <| WR_k [0] rfl ?_
    refine W_ret ?_
    exact ⟨_, _, ResL.of rfl, Pur.aggL (PurL.cons Pur.pure <| PurL.cons Pur.nils <| PurL.cons (Pur.ownL rfl PurL.pure) PurL.nil), rfl⟩
theorem run_eqCmp (a b c d : Int) (w : World) : (Op.equalIn 10000 27 (.agg #[.int .i64 a, .int .i64 b]) (.agg #[.int .i64 c, .int .i64 d])).run Tryz.prog w = .ok (a == c && b == d) w := by
  have u3 := Tryz.underlying3
  have a3 := Tryz.isAgg3
  have z3 := Tryz.sizeOf3
  have hS : Tryz.prog.underlying 27 = some (.struct (Tryz.prog.fieldsOf 27)) := by kernel_rfl
  rw [show (10000 : Nat) = 9999 + 1 from rfl, run_equalIn_agg w 9999 27 _ _ hS (by kernel_rfl)]
  simp only [Program.fieldsOf, Tryz.underlying27]
  go_simp
  by_cases h1 : a = c <;> by_cases h2 : b = d <;> simp [h1, h2]
theorem rep_cmp {E : Env} {w : World} {v : Value} {k x : Int} (h : Rep E w v (compV k x)) : v = .agg #[.int .i64 k, .int .i64 x] := by
  unfold compV compP at h
  cases h with
  | agg cs _ hl hr =>
    obtain ⟨l⟩ := cs
    match l, hl, hr with
    | [x, y], _, hr =>
      have h0 := rep_raw (hr 0 x _ rfl rfl)
      have h1 := rep_raw (hr 1 y _ rfl rfl)
      subst h0; subst h1; rfl
    | [], hl, _ => simp at hl
    | [_], hl, _ => simp at hl
    | _ :: _ :: _ :: _, hl, _ => simp at hl
theorem y_cmpNeq {σ : Sto} {t : Tms} {o : Oper} {x y : Operand} {tz : TypeId} {a b c d : Int} {q : Bool} (ho : o.op = .binOp .neq 27 x y tz) (hx : evalO t x = some (compV a b)) (hy : evalO t y = some (compV c d)) (hq : (!(a == c && b == d)) = q) : Yield Tryz.prog σ t o (.raw (.bool q)) := by
  intro F base E ρ w hρ _ hT
  have h1 := rep_cmp (evalO_rep hρ hT hx)
  have h2 := rep_cmp (evalO_rep hρ hT hy)
  simp only [execOp, ho, h1, h2, Sem.run_bind, run_eqGuard_agg w _ _ _ _ _ _ (show Tryz.prog.eqGuardType Tryz.prog.depth 27 = false by kernel_rfl), Result.andThen_ok, run_neq_struct, run_eqCmp, Sem.run_pure, hq]
  exact upon_val (.raw _)
set_option maxRecDepth 10000 in
set_option maxHeartbeats 1000000 in
theorem awake29_can : Can Tryz.prog 33 [] (· = flag true) := by
  have hA := prtab_can ringT 1 0 0 (by decide)
  rw [show maskE ringT 1 0 = 0 by kernel_rfl, show nodeB ringT 0 = true by kernel_rfl, if_pos rfl, if_pos rfl, ring_mask, show ((0 : Int).toNat) = 0 from rfl, ring_rep] at hA
  have hB := pcomp_can ringT 0 2 ring_valid (by decide) (by decide)
  rw [show (((2 : Nat) : Int)) = 2 from rfl, ring_asm] at hB
  have ht1 := tlist_can [3, 2, 1] (by decide) (by decide)
  have ht2 := tlist_can [3, 2] (by decide) (by decide)
  refine can_of Tryz.func33 rfl Tryz.ntmps33 rfl ?_
  refine W_cs (.a 1 rfl <| .k [] rfl) ?_
  refine W_rs ?_
  refine WR_c rfl (square29_can) rfl <| WR_v (y_le (y_build (xs := [_, _]) rfl (fok.st.get rfl) rfl rfl) (PLe.refl _)) rfl <| WR_c rfl (hA) rfl <| WR_a 6 rfl <| WR_k [1, 2] rfl ?_
  refine W_rs ?_
  refine WR_c rfl (square29_can) rfl <| WR_c rfl (hB) rfl <| WR_a 6 rfl <| WR_k [1, 2, 3, 4] rfl ?_
  refine W_seq ?_
  refine W_csK 45 (.raw (.bool (false))) [1] rfl ?_ ?_
  · exact .a 21 rfl <| .v (y_ix (0) rfl (by omega) (by decide)) rfl <| .v (y_ld rfl ((show _ = some (num 0) from rfl))) rfl <| .a 5 rfl <| .v (y_cmpNeq (a := 2) (b := 1) (c := 2) (d := 1) rfl rfl rfl (q := false) rfl) rfl <| .a 1 rfl <| .k [45, 1] rfl
  refine W_cond rfl (fun h => ?_) (fun h => ?_)
  · exact absurd h (by decide)
  · clear h
    refine W_skip ?_
    refine W_csK 0 (.raw (.bool (true))) [] rfl ?_ ?_
    · exact .a 2 rfl <| .v (y_ix (3) rfl (by omega) (by decide)) rfl <| .a 1 rfl <| .v (y_ld rfl ((show _ = some (intsV [7]) from rfl))) rfl <| .a 1 rfl <| .c rfl (rsame_yes [7]) rfl <| .a 3 rfl <| .v (y_ix (3) rfl (by omega) (by decide)) rfl <| .a 1 rfl <| .v (y_ld rfl ((show _ = some (segsV (nodeS [3, 2, 1])) from rfl))) rfl <| .c rfl (ht1) rfl <| .v (y_strEql rfl rfl rfl (beq_self_eq_true (ByteArray.toList ⟨[110, 51, 32, 110, 50, 32, 110, 49].toArray⟩))) rfl <| .a 4 rfl <| .v (y_ix (6) rfl (by omega) (by decide)) rfl <| .a 1 rfl <| .v (y_ld rfl ((show _ = some (segsV (nodeS [3, 2])) from rfl))) rfl <| .c rfl (ht2) rfl <| .v (y_strEql rfl rfl rfl (beq_self_eq_true (ByteArray.toList ⟨[110, 51, 32, 110, 50].toArray⟩))) rfl <| .a 4 rfl <| .v (y_ix (9) rfl (by omega) (by decide)) rfl <| .a 1 rfl <| .v (y_ld rfl ((show _ = some (flag false) from rfl))) rfl <| .a 3 rfl <| .k [0] rfl
    refine W_ret ?_
    exact ⟨_, _, ResL.of rfl, Pur.pure, rfl⟩
end PW
end Go.Proofs.YtbpgndbjbaoolaaGreat

/- The reference of covered components; the law RepairReaches, walked. -/
namespace Go.Proofs.YtbpgndbjbaoolaaGreat
set_option linter.unusedVariables false
set_option linter.unusedSimpArgs false
namespace PW
open Go.RowKit Reg Mem Net Rng

/-- One component lies within another one, as far as the arc m. -/
def wthTo (T : Topo) (k x k' x' : Int) (m : Nat) : Bool := (List.range m).all fun a => !partB k x T.links (a / 2) || partB k' x' T.links (a / 2)
def wthB (T : Topo) (k x k' x' : Int) : Bool := wthTo T k x k' x' (2 * T.links.length)
theorem all_of_lt {p : Nat → Bool} {m n : Nat} (h : ((List.range m).all p) = false) (hmn : m ≤ n) : ((List.range n).all p) = false := by
  rw [Bool.eq_false_iff] at h ⊢
  intro h'
  refine h (List.all_eq_true.2 fun a ha => List.all_eq_true.1 h' a (List.mem_range.2 ?_))
  have := List.mem_range.1 ha
  omega
/-- Whether the arc a, towards the nodes below j, assumes components that hold what failed. -/
noncomputable def cvD (T : Topo) (M : List Bool) (k x : Int) (a j : Nat) : Bool := (List.range j).all fun (d : Nat) => !rchB T M (tailN T a) d || wthB T k x (asmF T a d).1 (asmF T a d).2
noncomputable def cvA (T : Topo) (M : List Bool) (k x : Int) (a : Nat) : Bool := (!downN M a || (decide (k = 2) && decide (tailN T a = x))) || cvD T M k x a T.nodes.toNat
noncomputable def cvTo (T : Topo) (k x : Int) (m : Nat) : Bool := (List.range m).all fun a => cvA T (maskL T k x) k x a
/-- Whether a component is covered. -/
noncomputable def cvB (T : Topo) (k x : Int) : Bool := (validB T && compB T k x) && cvTo T k x (2 * T.links.length)
theorem cvD_step (T : Topo) (M : List Bool) (k x : Int) (a j : Nat) : cvD T M k x a (j + 1) = (cvD T M k x a j && (!rchB T M (tailN T a) j || wthB T k x (asmF T a j).1 (asmF T a j).2)) := by simp [cvD, List.range_succ]
theorem cvTo_step (T : Topo) (k x : Int) (m : Nat) : cvTo T k x (m + 1) = (cvTo T k x m && cvA T (maskL T k x) k x m) := by simp [cvTo, List.range_succ]
theorem cv_no {T : Topo} {k x : Int} {m : Nat} (hm : (validB T && compB T k x) = true) (h : cvTo T k x m = true) (hlt : m < 2 * T.links.length) (ha : cvA T (maskL T k x) k x m = false) : cvB T k x = false := by
  unfold cvB
  rw [hm, Bool.true_and]
  refine all_of_lt (m := m + 1) ?_ (by omega)
  have := cvTo_step T k x m
  rw [h, ha] at this
  exact this
end PW
end Go.Proofs.YtbpgndbjbaoolaaGreat

/- Package component: Valid, Within. -/
namespace Go.Proofs.YtbpgndbjbaoolaaGreat
set_option linter.unusedVariables false
set_option linter.unusedSimpArgs false
namespace PW
open Go.RowKit Go.Shelf Reg Mem Net Rng

attribute [local go_sem] Oper.semAt_some

set_option maxRecDepth 10000 in
set_option maxHeartbeats 1000000 in
theorem cvalid_can (T : Topo) (k x : Int) : Can Tryz.prog 133 [topoV T, compV k x] (· = flag (validB T && compB T k x)) := by
  obtain ⟨q1, hq1⟩ : ∃ q, validB T = q := ⟨_, rfl⟩
  obtain ⟨q2, hq2⟩ : ∃ q, compB T k x = q := ⟨_, rfl⟩
  rw [hq1, hq2]
  refine can_of Tryz.func133 rfl Tryz.ntmps133 rfl ?_
  refine W_cs (.a 3 rfl <| .k [2, 3] rfl) ?_
  refine W_csK 4 (.raw (.bool (q1 && q2))) [] rfl ?_ ?_
  · refine .a 1 rfl <| .c rfl (hq1 ▸ valid_can T) rfl <| .a 1 rfl <| ?_
    cases q1
    · exact .a 5 rfl <| .k [4] rfl
    · exact .a 2 rfl <| .c rfl (hq2 ▸ cwithin_can T k x) rfl <| .a 2 rfl <| .k [4] rfl
  refine W_ret ?_
  exact ⟨_, _, ResL.of rfl, Pur.pure, rfl⟩
theorem results_box {P : Program} {fn : Func} {p : Tmp} {ty : TypeId} (h : fn.results = #[.cell p ty]) (tmps : Array Value) (w : World) {B : Nat} {v : Value} (hp : tmps.getD p undef = .pointer (some ⟨B, 0, none⟩)) (hk : tyK P ty = some none) (hc : w.cell? ⟨B, 0, none⟩ = some v) : (results fn tmps).run P w = .ok v w := by
  have h1 := run_loadOne (P := P) (w := w) hk hc
  simp only [Instr.loadAt, Instr.sureAddr, Sem.run_bind, Sem.run_pure, Result.andThen_ok] at h1
  have hp' : tmps[p]?.getD undef = .pointer (some ⟨B, 0, none⟩) := by simpa using hp
  simp [results, h, hp', asAddr, h1]
/-- Where the iterator of the links of a component may be stopped. -/
theorem links_halts (T : Topo) (k x : Int) (hk : k = 1 ∨ k = 2 ∨ k = 3) (hl : T.links.length ≤ 1000) (n Bt Bc G : Nat) (hn : 1 ≤ n) (v : Value) (w : World) (hBtl : Bt < w.heap.size) (hBcl : Bc < w.heap.size) (hBcG : Bc ≠ G)
    (hBt : w.cell? ⟨Bt, 2, none⟩ = some v) (hBk : w.cell? ⟨Bc, 0, none⟩ = some (.int .i64 k)) (hBx : w.cell? ⟨Bc, 1, none⟩ = some (.int .i64 x)) (hv : LnkV w.heap.size G w v T.links) :
    SeqStopsK Fence.wide n Tryz.prog 159 #[.pointer (some ⟨Bt, 0, none⟩), .pointer (some ⟨Bc, 0, none⟩)] (fun i : Rng.Ix T.links.length => #[Value.int .i64 (i.1 : Int)]) (Kp G w.heap.size) (fun ys => ys = got (partB k x T.links) T.links.length T.links.length) (fun pre => ∃ (p : List (Rng.Ix T.links.length)) (i : Rng.Ix T.links.length), partB k x T.links i.1 = true ∧ pre = p ++ [i]) T.links.length w := fun l J Jx W hW hA _ hY h0 => by
  have kt := (hW.cell (p := ⟨Bt, 2, none⟩) hBtl).trans hBt
  have kk := (hW.cell (p := ⟨Bc, 0, none⟩) hBcl).trans hBk
  have kx := (hW.cell (p := ⟨Bc, 1, none⟩) hBcl).trans hBx
  rcases hv with ⟨ad, cap, rfl, hL⟩ | ⟨b, off, cap, rfl, hb, hbG, hc⟩
  · generalize T.links = L at *
    subst hL
    exact (links0_in n l Bt Bc cap ad J W kt h0).mono fun e W' h => ⟨h.1, .inl ⟨_, rfl, h.2⟩⟩
  · have hc2 : LnkAt W b off T.links := fun i hi => by
      obtain ⟨a0, a1, a2, a3, a4, a5, a6⟩ := hc i hi
      exact ⟨(hW.cell (p := ⟨b, _, none⟩) hb).trans a0, (hW.cell (p := ⟨b, _, none⟩) hb).trans a1, (hW.cell (p := ⟨b, _, none⟩) hb).trans a2, (hW.cell (p := ⟨b, _, none⟩) hb).trans a3, (hW.cell (p := ⟨b, _, none⟩) hb).trans a4, (hW.cell (p := ⟨b, _, none⟩) hb).trans a5, (hW.cell (p := ⟨b, _, none⟩) hb).trans a6⟩
    have fin : ∀ {e : Ending} {W' : World}, (∃ v, e = .returned v) ∧ ((∃ ys, ys = got (partB k x T.links) T.links.length T.links.length ∧ J ys W') ∨ (∃ (pre : List (Rng.Ix T.links.length)) (i : Rng.Ix T.links.length), partB k x T.links i.1 = true ∧ Jx (pre ++ [i]) W')) → (∃ v, e = .returned v) ∧ ((∃ xs, xs = got (partB k x T.links) T.links.length T.links.length ∧ J xs W') ∨ (∃ pre, (∃ (p : List (Rng.Ix T.links.length)) (i : Rng.Ix T.links.length), partB k x T.links i.1 = true ∧ pre = p ++ [i]) ∧ Jx pre W')) := fun h => ⟨h.1, h.2.imp id fun ⟨pre, i, h1, h2⟩ => ⟨_, ⟨pre, i, h1, rfl⟩, h2⟩⟩
    rcases hk with rfl | rfl | rfl
    · exact (links1_st Fence.wide n trivial rfl hn l Bt Bc G w.heap.size b off cap T.links x hl hb hbG hBcl hBcG J Jx hY W kt kk kx hc2 hW.size hA h0).mono fun e W' h => fin h
    · exact (links2_st Fence.wide n trivial rfl hn l Bt Bc G w.heap.size b off cap T.links x hl hb hbG hBcl hBcG J Jx hY W kt kk kx hc2 hW.size hA h0).mono fun e W' h => fin h
    · exact (links3_st Fence.wide n trivial rfl hn l Bt Bc G w.heap.size b off cap T.links x hl hb hbG hBcl hBcG J Jx hY W kt kk kx hc2 hW.size hA h0).mono fun e W' h => fin h
theorem got_all (p q : Nat → Bool) (N : Nat) : ∀ k, k ≤ N → ((got p N k).all (fun i => q i.1) = true ↔ ∀ i, i < k → p i = true → q i = true)
  | 0, _ => by simp [got]
  | k + 1, hk => by
    have ih := got_all p q N k (by omega)
    cases hp : p k with
    | false =>
      rw [got_no hp, ih]
      exact ⟨fun h i hi hpi => (show i < k ∨ i = k by omega).elim (fun h' => h i h' hpi) (fun h' => by rw [h', hp] at hpi; cases hpi), fun h i hi => h i (by omega)⟩
    | true =>
      rw [got_yes hp (by omega), List.all_append, Bool.and_eq_true, ih]
      simp only [List.all_cons, List.all_nil, Bool.and_true]
      exact ⟨fun h i hi hpi => (show i < k ∨ i = k by omega).elim (fun h' => h.1 i h' hpi) (fun h' => by rw [h']; exact h.2), fun h => ⟨fun i hi => h i (by omega), h k (by omega) hp⟩⟩
/-- Whether a component is contained in another one. -/
def inB (T : Topo) (k x j y : Int) : Bool := decide (∀ i, i < T.links.length → partB k x T.links i = true → downN (maskL T j y) (2 * i) = true)
set_option maxRecDepth 100000 in
set_option maxHeartbeats 4000000 in
theorem within_raw (T : Topo) (k x j y : Int) (hv : validB T = true) (hc : compB T k x = true) (hc2 : compB T j y = true) (w : World) (vs : Array Value) (hR : RepL (EF fun _ => False) w vs.toList [topoV T, compV k x, compV j y]) (gl : Glob (fun _ => False) w) :
    Calls Tryz.prog 90 vs w fun e w' => e = .returned (.bool (inB T k x j y)) ∧ Ext w w' := by
  have hll := links_le hv
  have hS := Sat.start (fun _ => False) w (fun _ h => h.elim) gl
  have hcv := cvalid_can T k x
  rw [hv, hc] at hcv
  have hmk := mask_can T j y
  have hm0 : maskE T j y = 0 := by unfold maskE; rw [if_pos (by rw [hv, hc2]; rfl)]
  unfold boolsE at hmk
  rw [hm0, if_pos rfl] at hmk
  have hMl := maskL_len T j y
  unfold inB
  obtain ⟨M, hM⟩ : ∃ M, maskL T j y = M := ⟨_, rfl⟩
  rw [hM] at hmk hMl ⊢
  refine (callsIn_wide (n := 4)).1 ?_
  refine callsIn_of_wp_marks Tryz.func90 rfl trivial ?_ rfl
  have hs0 := enter_sat (N := 32) hS hR (by have := hR.1; simp at this; omega)
  have hc0 : Came w.heap.size 0 (EF fun _ => False) w (EF fun _ => False) w := ⟨rfl, Goes.refl _ _, Below.refl _ _⟩
  refine wpIn_seq (piece (K := fun s => s = ⟨[(3, .pin (topoP T) 0), (4, .pin (compP k x) 0), (5, .pin (compP j y) 0), (6, .ptr 0 0)], [some (.cells 4 [flag false])]⟩) hc0 hs0 ?_ ?_)
  · skip
    refine W_region ?_
    refine WR_a 4 rfl <| WR_k [3, 4, 5, 6] rfl ?_
    exact rfl
  rintro _ E1 a1 w1 rfl hs1 g1 b1
  refine wpIn_seq (piece (K := fun s => s = ⟨[(3, .pin (topoP T) 0), (4, .pin (compP k x) 0), (5, .pin (compP j y) 0), (6, .ptr 0 0)], [some (.cells 4 [flag false])]⟩) ⟨rfl, g1, b1⟩ hs1 ?_ ?_)
  · skip
    refine W_cs (.a 2 rfl <| .c rfl (hcv) rfl <| .a 1 rfl <| .k [3, 4, 5, 6, 13] rfl) ?_
    refine W_cond rfl (fun hc => ?_) (fun hc => ?_)
    · cases hc
    · refine W_k [3, 4, 5, 6] rfl (W_skip ?_)
      exact rfl
  rintro _ E2 a2 w2 rfl hs2 g2 b2
  refine wpIn_seq (piece (K := fun s => s = ⟨[(3, .pin (topoP T) 0), (4, .pin (compP k x) 0), (6, .ptr 0 0), (7, .ptr 1 0), (8, num 0)], [some (.cells 4 [flag false]), some (.cells 22 [boolsV M])]⟩) ⟨rfl, g2, b2⟩ hs2 ?_ ?_)
  · skip
    refine W_region ?_
    refine WR_a 2 rfl <| WR_c rfl (hmk) rfl <| WR_a 6 rfl <| WR_k [3, 4, 6, 7, 8] rfl ?_
    exact rfl
  rintro _ E3 a3 w3 rfl hs3 g3 b3
  refine wpIn_seq (piece (K := fun s => s = ⟨[(3, .pin (topoP T) 0), (4, .pin (compP k x) 0), (6, .ptr 0 0), (7, .ptr 1 0)], [some (.cells 4 [flag false]), some (.cells 22 [boolsV M])]⟩) ⟨rfl, g3, b3⟩ hs3 ?_ ?_)
  · skip
    refine W_cs (.a 2 rfl <| .k [3, 4, 6, 7, 21] rfl) ?_
    refine W_cond rfl (fun hc => ?_) (fun hc => ?_)
    · exact absurd hc (by decide)
    · refine W_k [3, 4, 6, 7] rfl (W_skip ?_)
      exact rfl
  clear hs0 hs1 hs2 hs3 hc0 hcv hmk b1 b2 b3 g1 g2 g3 hR
  rintro _ E4 a4 w4 rfl hs4 g4 b4
  obtain ⟨B, cs0, hB, hBb, hBh, hBr⟩ := hs4.sat.blk 0 _ rfl
  obtain ⟨D, cs1, hD, hDb, hDh, hDr⟩ := hs4.sat.blk 1 _ rfl
  have t3 := hs4.tmp 3 _ rfl
  have t4 := hs4.tmp 4 _ rfl
  have t6 := hs4.tmp 6 _ rfl
  have t7 := hs4.tmp 7 _ rfl
  have hsz := hs4.size
  have hdf := hs4.dfr
  obtain ⟨arr, ds⟩ := a4
  simp only at hdf hsz
  subst hdf
  obtain ⟨al⟩ := arr
  replace hsz : al.length = 32 := by simpa using hsz
  obtain ⟨x0, z0, e0, k0⟩ := cons_of (n := 31) hsz
  obtain ⟨x1, z1, e1, k1⟩ := cons_of (n := 30) k0
  obtain ⟨x2, z2, e2, j⟩ := cons_of (n := 29) k1
  obtain ⟨x3, z3, e3, k3⟩ := cons_of (n := 28) j
  obtain ⟨x4, z4, e4, k4⟩ := cons_of (n := 27) k3
  obtain ⟨x5, z5, e5, k5⟩ := cons_of (n := 26) k4
  obtain ⟨x6, z6, e6, k6⟩ := cons_of (n := 25) k5
  obtain ⟨x7, z7, e7, k7⟩ := cons_of (n := 24) k6
  obtain ⟨x8, z8, e8, k8⟩ := cons_of (n := 23) k7
  obtain ⟨x9, z9, e9, k9⟩ := cons_of (n := 22) k8
  obtain ⟨x10, z10, e10, k10⟩ := cons_of (n := 21) k9
  obtain ⟨x11, z11, e11, k11⟩ := cons_of (n := 20) k10
  obtain ⟨x12, z12, e12, k12⟩ := cons_of (n := 19) k11
  obtain ⟨x13, z13, e13, k13⟩ := cons_of (n := 18) k12
  obtain ⟨x14, z14, e14, k14⟩ := cons_of (n := 17) k13
  obtain ⟨x15, z15, e15, k15⟩ := cons_of (n := 16) k14
  obtain ⟨x16, z16, e16, k16⟩ := cons_of (n := 15) k15
  obtain ⟨x17, z17, e17, k17⟩ := cons_of (n := 14) k16
  obtain ⟨x18, z18, e18, k18⟩ := cons_of (n := 13) k17
  obtain ⟨x19, z19, e19, k19⟩ := cons_of (n := 12) k18
  obtain ⟨x20, z20, e20, k20⟩ := cons_of (n := 11) k19
  obtain ⟨x21, z21, e21, k21⟩ := cons_of (n := 10) k20
  obtain ⟨x22, z22, e22, k22⟩ := cons_of (n := 9) k21
  obtain ⟨x23, z23, e23, k23⟩ := cons_of (n := 8) k22
  obtain ⟨x24, z24, e24, k24⟩ := cons_of (n := 7) k23
  obtain ⟨x25, z25, e25, k25⟩ := cons_of (n := 6) k24
  obtain ⟨x26, z26, e26, k26⟩ := cons_of (n := 5) k25
  obtain ⟨x27, z27, e27, k27⟩ := cons_of (n := 4) k26
  obtain ⟨x28, z28, e28, k28⟩ := cons_of (n := 3) k27
  obtain ⟨x29, z29, e29, k29⟩ := cons_of (n := 2) k28
  obtain ⟨x30, z30, e30, k30⟩ := cons_of (n := 1) k29
  obtain ⟨x31, z31, e31, k31⟩ := cons_of (n := 0) k30
  have e32 := List.eq_nil_of_length_eq_zero k31
  subst e32
  subst e31
  subst e30
  subst e29
  subst e28
  subst e27
  subst e26
  subst e25
  subst e24
  subst e23
  subst e22
  subst e21
  subst e20
  subst e19
  subst e18
  subst e17
  subst e16
  subst e15
  subst e14
  subst e13
  subst e12
  subst e11
  subst e10
  subst e9
  subst e8
  subst e7
  subst e6
  subst e5
  subst e4
  subst e3
  subst e2
  subst e1
  subst e0
  clear k0 k1 j k3 k4 k5 k6 k7 k8 k9 k10 k11 k12 k13 k14 k15 k16 k17 k18 k19 k20 k21 k22 k23 k24 k25 k26 k27 k28 k29 k30 k31 hsz
  have e3 : Act.eval ⟨⟨[x0, x1, x2, x3, x4, x5, x6, x7, x8, x9, x10, x11, x12, x13, x14, x15, x16, x17, x18, x19, x20, x21, x22, x23, x24, x25, x26, x27, x28, x29, x30, x31]⟩, []⟩ (.tmp 3) = x3 := rfl
  have e4 : Act.eval ⟨⟨[x0, x1, x2, x3, x4, x5, x6, x7, x8, x9, x10, x11, x12, x13, x14, x15, x16, x17, x18, x19, x20, x21, x22, x23, x24, x25, x26, x27, x28, x29, x30, x31]⟩, []⟩ (.tmp 4) = x4 := rfl
  have e6 : Act.eval ⟨⟨[x0, x1, x2, x3, x4, x5, x6, x7, x8, x9, x10, x11, x12, x13, x14, x15, x16, x17, x18, x19, x20, x21, x22, x23, x24, x25, x26, x27, x28, x29, x30, x31]⟩, []⟩ (.tmp 6) = x6 := rfl
  have e7 : Act.eval ⟨⟨[x0, x1, x2, x3, x4, x5, x6, x7, x8, x9, x10, x11, x12, x13, x14, x15, x16, x17, x18, x19, x20, x21, x22, x23, x24, x25, x26, x27, x28, x29, x30, x31]⟩, []⟩ (.tmp 7) = x7 := rfl
  rw [e3] at t3
  rw [e4] at t4
  rw [e6] at t6
  rw [e7] at t7
  clear e3 e4 e6 e7
  obtain ⟨cl0⟩ := cs0
  obtain ⟨cl1⟩ := cs1
  match cl0, hBr with
  | [], hBr => have := hBr.1; simp at this
  | _ :: _ :: _, hBr => have := hBr.1; simp at this
  | [ub], hBr =>
    have hub := rep_raw (hBr.2 0 ub _ rfl rfl)
    subst hub
    match cl1, hDr with
    | [], hDr => have := hDr.1; simp at this
    | _ :: _ :: _, hDr => have := hDr.1; simp at this
    | [ud], hDr =>
      have hud := hDr.2 0 ud _ rfl rfl
      cases t3 with
      | pin bt bo off tcs _ htb htM htc htl htr =>
        match tcs, htl, htc, htr with
        | [c0, c1, c2], _, htc, htr =>
          have m0 := htc 0 _ rfl
          have m1 := htc 1 _ rfl
          have m2 := htc 2 _ rfl
          have hT3 : RepL E4 w4 [c0, c1, c2] (topoP T) := ⟨rfl, htr⟩
          cases t4 with
          | pin ct co off ccs _ hcb hcM hcc hcl hcr =>
            match ccs, hcl, hcc, hcr with
            | [u0, u1], _, hcc, hcr =>
              have hu0 := rep_raw (hcr 0 u0 _ rfl rfl)
              have hu1 := rep_raw (hcr 1 u1 _ rfl rfl)
              subst hu0
              subst hu1
              have l0 := hcc 0 _ rfl
              have l1 := hcc 1 _ rfl
              cases t6 with
              | ptr _ _ B' _ h6 =>
                have hBB : B' = B := by
                  rcases h6 with h6 | ⟨n', c', h6⟩
                  · rw [hB] at h6; cases h6; rfl
                  · rw [hB] at h6; cases h6
                subst hBB
                cases t7 with
                | ptr _ _ D' _ h7 =>
                  have hDD : D' = D := by
                    rcases h7 with h7 | ⟨n', c', h7⟩
                    · rw [hD] at h7; cases h7; rfl
                    · rw [hD] at h7; cases h7
                  subst hDD
                  clear h6 h7 htc hcc hcr
                  simp only [Nat.add_zero] at l0 l1 m0 m1 m2 ⊢
                  gi_wp2
                  refine ⟨trivial, (links_in c0 c1 c2 k x 3 w4).mono ?_⟩
                  rintro e w6 ⟨rfl, rfl⟩
                  gi_wp2
                  have E46 : Ext w4 ((w4.alloc (.cells #[c0, c1, c2] 25)).alloc (.cells #[.int .i64 k, .int .i64 x] 27)) := ((Ext.refl w4).alloc _).alloc _
                  have hz6 : ((w4.alloc (.cells #[c0, c1, c2] 25)).alloc (.cells #[.int .i64 k, .int .i64 x] 27)).heap.size = w4.heap.size + 2 := by simp
                  have p2 : ((w4.alloc (.cells #[c0, c1, c2] 25)).alloc (.cells #[.int .i64 k, .int .i64 x] 27)).cell? ⟨w4.heap.size, 2, none⟩ = some c2 := cell_al _ (new3 w4 _ _ _ _)
                  have p3 : ((w4.alloc (.cells #[c0, c1, c2] 25)).alloc (.cells #[.int .i64 k, .int .i64 x] 27)).cell? ⟨w4.heap.size + 1, 0, none⟩ = some (.int .i64 k) := by
                    have := (new2 (w4.alloc (.cells #[c0, c1, c2] 25)) (.int .i64 k) (.int .i64 x) 27).1
                    rwa [World.size_alloc] at this
                  have p4 : ((w4.alloc (.cells #[c0, c1, c2] 25)).alloc (.cells #[.int .i64 k, .int .i64 x] 27)).cell? ⟨w4.heap.size + 1, 1, none⟩ = some (.int .i64 x) := by
                    have := (new2 (w4.alloc (.cells #[c0, c1, c2] 25)) (.int .i64 k) (.int .i64 x) 27).2
                    rwa [World.size_alloc] at this
                  generalize (w4.alloc (.cells #[c0, c1, c2] 25)).alloc (.cells #[.int .i64 k, .int .i64 x] 27) = w6 at *
                  have hBM : E4.M B' := (hs4.sat.mm B').2 (.inr ⟨0, _, rfl, by rw [hB]; rfl⟩)
                  have hBlt : B' < w4.heap.size := hs4.sat.lt hBM
                  have hDM : E4.M D' := (hs4.sat.mm D').2 (.inr ⟨1, _, rfl, by rw [hD]; rfl⟩)
                  have hDlt : D' < w4.heap.size := hs4.sat.lt hDM
                  have hBD : B' ≠ D' := fun e => by
                    have := hs4.sat.inj 0 1 _ _ B' rfl rfl (by rw [hB]; rfl) (by rw [hD, e]; rfl)
                    omega
                  have hlk := lnkV_of (n₁ := w6.heap.size) (hT3.2 2 c2 _ rfl rfl) E46 (.inr hBM) (fun b hb => hs4.sat.lt hb)
                  have hk3 : k = 1 ∨ k = 2 ∨ k = 3 := by
                    unfold compB at hc
                    split at hc
                    · exact .inl ‹_›
                    · split at hc
                      · exact .inr (.inl ‹_›)
                      · split at hc
                        · exact .inr (.inr ‹_›)
                        · cases hc
                  have hD6 : w6.heap[D']? = some (Obj.cells #[ud] 22 (0, 0)) := (E46.block D' hDlt).trans hDh
                  have hB6 : w6.heap[B']? = some (Obj.cells #[Value.bool false] 4 (0, 0)) := (E46.block B' hBlt).trans hBh
                  have hbit : ∀ (W : World), Kp B' w6.heap.size w6 W → ∀ i, i < T.links.length → ∃ (db dof n cap : Nat), ud = .slice (some ⟨db, dof, none⟩) n cap ∧ 2 * i < n ∧ W.cell? ⟨db, dof + 2 * i, none⟩ = some (.bool (downN M (2 * i))) := fun W hK i hi => by
                    have hd := hud
                    unfold boolsV at hd
                    generalize hn : M.length = n at hd
                    generalize hxs : boolsP M = xs at hd
                    have hi2 : 2 * i < n := by omega
                    cases hd with
                    | nils => omega
                    | empty a c _ => omega
                    | slice b off _ c cs _ h0 h1 h2 hb hM' hcc hl hr =>
                      refine ⟨b, off, n, c, rfl, hi2, ?_⟩
                      have e := bools_getP M (2 * i) (by omega)
                      rw [hxs] at e
                      have hlt : 2 * i < cs.length := by rw [hl]; exact (List.getElem?_eq_some_iff.1 e).1
                      have hcs : cs[2 * i]? = some cs[2 * i] := List.getElem?_eq_getElem hlt
                      have hu := rep_raw (hr _ _ _ hcs e)
                      rw [hu] at hcs
                      have h3 := E46.cell (hcc _ _ hcs)
                      rw [← downN_get]
                      have hbB : b ≠ B' := fun e => by rw [e] at hM'; exact hM' hBM
                      exact (hK.cell (p := ⟨b, off + 2 * i, none⟩) (show b < w6.heap.size by omega) hbB).trans h3
                  have hDc6 : w6.cell? ⟨D', 0, none⟩ = some ud := by
                    unfold World.cell?
                    rw [hD6]
                    rfl
                  have keep : ∀ {W W' : World} {row : Option Nat}, (Kp B' w6.heap.size w6 W ∧ W.heap[B']? = some (Obj.cells #[Value.bool false] 4 (0, 0)) ∧ Below w.heap.size w W) → W.grownBy W' row → (∀ r, row = some r → w6.heap.size ≤ r) → (Kp B' w6.heap.size w6 W' ∧ W'.heap[B']? = some (Obj.cells #[Value.bool false] 4 (0, 0)) ∧ Below w.heap.size w W') := fun {W W' row} h hg hr => by
                    obtain ⟨h1, h2, h3⟩ := h
                    have z1 := h1.size
                    have z2 := hs4.sat.bl
                    exact ⟨⟨Nat.le_trans h1.size hg.size, fun b k1 k2 => (hg.block b (by omega) (fun e => by have := hr b e.symm; omega)).trans (h1.block b k1 k2)⟩, (hg.block B' (by omega) (fun e => by have := hr B' e.symm; omega)).trans h2, h3.trans ⟨hg.os, hg.tape, hg.output, hg.size, fun b k1 => hg.block b (by omega) (fun e => by have := hr b e.symm; omega)⟩⟩
                  refine wpIn_rangeFunc_ownF (α := Rng.Ix T.links.length) rfl (by omega) (gf := 159) (lb := #[.pointer (some ⟨w4.heap.size, 0, none⟩), .pointer (some ⟨w4.heap.size + 1, 0, none⟩)]) rfl trivial (enters_of Tryz.func159 (by kernel_rfl) rfl)
                    (encs := fun i => #[Value.int .i64 (i.1 : Int)]) (links_halts T k x hk3 (by omega) 3 w4.heap.size (w4.heap.size + 1) B' (by omega) c2 w6 (by omega) (by omega) (by omega) p2 p3 p4 hlk) (fun h1 h2 => h1.trans h2) (fun W l o o' hl ho _ _ => ⟨(grownBy_putObj' W l o').size, fun b h1 _ => (grownBy_putObj' W l o').block b (by have := (Array.getElem?_eq_some_iff.1 ho).1; omega) (fun e => by cases e; omega)⟩) (Below.refl _ _) (fun _ => rfl)
                    (fun l W => (Kp B' w6.heap.size w6 W ∧ W.heap[B']? = some (Obj.cells #[Value.bool false] 4 (0, 0)) ∧ Below w.heap.size w W) ∧ l.all (fun i => downN M (2 * i.1)) = true)
                    (fun c l W => c = .ret ∧ (Kp B' w6.heap.size w6 W ∧ W.heap[B']? = some (Obj.cells #[Value.bool false] 4 (0, 0)) ∧ Below w.heap.size w W) ∧ ∀ (p : List (Rng.Ix T.links.length)) (i : Rng.Ix T.links.length), l = p ++ [i] → downN M (2 * i.1) = false)
                    ?hoo ?hox ⟨⟨Kp.refl _ _ _, hB6, b4.trans (Below.ofExt E46 hs4.sat.bl)⟩, rfl⟩
                    (fun i => ⟨#[x0, x1, x2, Value.pointer (some ⟨bt, bo, none⟩), Value.pointer (some ⟨ct, co, none⟩), x5, Value.pointer (some ⟨B', 0, none⟩), Value.pointer (some ⟨D', 0, none⟩), x8, Value.int .i64 (i.1 : Int), x10, x11, x12, x13, x14, x15, x16, x17, x18, x19, x20, x21, Value.agg #[c0, c1, c2], Value.agg #[.int .i64 k, .int .i64 x], Value.func (.func 159) #[] #[.pointer (some ⟨w4.heap.size, 0, none⟩), .pointer (some ⟨w4.heap.size + 1, 0, none⟩)], Value.int .i64 (i.1 : Int), x26, x27, x28, x29, x30, x31], []⟩) ?has ?hbo ?hdo ?hst
                  case hoo => exact fun s W W' row hs hg hr => ⟨keep hs.1 hg (fun r e => (hr r e).1), hs.2⟩
                  case hox => exact fun c s W W' row hs hg hr => ⟨hs.1, keep hs.2.1 hg (fun r e => (hr r e).1), hs.2.2⟩
                  case has =>
                    intro l i W K hK
                    gi_wp2
                    exact hK
                  case hbo =>
                    rintro l pre i W ⟨⟨hK, hBW, hb⟩, hall⟩ hlt
                    have hi2 := i.2
                    obtain ⟨db, dof, n, cap, rfl, hin, hcell⟩ := hbit W hK i.1 i.2
                    have hDc : W.cell? ⟨D', 0, none⟩ = some (.slice (some ⟨db, dof, none⟩) n cap) := (hK.cell (p := ⟨D', 0, none⟩) (show D' < w6.heap.size by omega) (fun e => hBD e.symm)).trans hDc6
                    have hw : IntKind.i64.wrap (2 * (i.1 : Int)) = 2 * (i.1 : Int) := wrap_in (by unfold In64; omega)
                    have h0 : (0 : Int) ≤ 2 * (i.1 : Int) := by omega
                    have h1 : 2 * (i.1 : Int) < (n : Int) := by omega
                    have h2 : (2 * (i.1 : Int)).toNat = 2 * i.1 := by omega
                    cases hdn : downN M (2 * i.1) with
                    | true =>
                      rw [hdn] at hcell
                      gi_wp2
                      exact ⟨KeepsOthers.refl _, Kp.refl _ _ _, ⟨hK, hBW, hb⟩, by rw [List.all_append, hall]; simp [hdn]⟩
                    | false =>
                      rw [hdn] at hcell
                      have hbx : Boxed W B' 4 (.bool false) := hBW
                      have hBc := hbx.cell
                      have hBf := hbx.frozen
                      gi_wp2
                      have hg := grownBy_setCell' W B' (.bool false)
                      refine ⟨KeepsOthers.setCell _ _ _, rfl, ⟨hK.trans ⟨hg.size, fun b k1 k2 => hg.block b (by have := hK.size; omega) (fun e => by cases e; exact k2 rfl)⟩, hbx.set (.bool false), hb.trans ⟨hg.os, hg.tape, hg.output, hg.size, fun b k1 => hg.block b (by have := hK.size; have := hs4.sat.bl; omega) (fun e => by cases e; omega)⟩⟩, fun p' i' e => ?_⟩
                      obtain ⟨_, e2⟩ := List.append_inj' e rfl
                      cases e2
                      exact hdn
                  case hdo =>
                    rintro C ys W hC rfl ⟨⟨hK, hBW, hb⟩, hall⟩ hCh
                    have hbx : Boxed W B' 4 (.bool false) := hBW
                    have hBc := hbx.cell
                    have hBf := hbx.frozen
                    have hres : decide (∀ i, i < T.links.length → partB k x T.links i = true → downN M (2 * i) = true) = true := decide_eq_true ((got_all (partB k x T.links) (fun i => downN M (2 * i)) T.links.length T.links.length (Nat.le_refl _)).1 hall)
                    have hCB : C ≠ B' := fun e => by omega
                    gi_wp2
                    have hg := grownBy_setCell' W B' (.bool true)
                    have hCh2 : (W.setCell ⟨B', 0, none⟩ (.bool true)).heap[C]? = some (.deferred (some [])) := (hg.block C (Array.getElem?_eq_some_iff.1 hCh).1 (fun e => by cases e; exact hCB rfl)).trans hCh
                    have hbx2 := hbx.set (.bool true)
                    generalize W.setCell ⟨B', 0, none⟩ (.bool true) = W2 at *
                    have hput := grownBy_putObj' W2 C (.deferred none)
                    have hc2 : (W2.putObj C (.deferred none)).cell? ⟨B', 0, none⟩ = some (.bool true) := (hbx2.kept hput (fun e => by cases e; exact hCB rfl)).cell
                    refine ⟨by simp, .inl ⟨_, _, rfl, run_takeDeferred hCh2, ?_⟩⟩
                    exact ⟨_, results_box rfl _ _ rfl (fok.tk.get rfl) hc2, by rw [hres], (hb.trans ⟨hg.os, hg.tape, hg.output, hg.size, fun b k1 => hg.block b (by have := hK.size; have := hs4.sat.bl; omega) (fun e => by cases e; omega)⟩).trans ⟨hput.os, hput.tape, hput.output, hput.size, fun b h1 => hput.block b (by have := hK.size; have := hs4.sat.bl; have := hg.size; omega) (fun h => by cases h; have := hs4.sat.bl; omega)⟩⟩
                  case hst =>
                    rintro C c pre W hC ⟨p, i, hpi, rfl⟩ ⟨rfl, ⟨hK, hBW, hb⟩, hno⟩ hCh
                    have hbx : Boxed W B' 4 (.bool false) := hBW
                    have hdn := hno p i rfl
                    have hres : decide (∀ i, i < T.links.length → partB k x T.links i = true → downN M (2 * i) = true) = false := decide_eq_false fun h => by rw [h i.1 i.2 hpi] at hdn; cases hdn
                    have hCB : C ≠ B' := fun e => by omega
                    gi_wp2
                    have hput := grownBy_putObj' W C (.deferred none)
                    have hc2 : (W.putObj C (.deferred none)).cell? ⟨B', 0, none⟩ = some (.bool false) := (hbx.kept hput (fun e => by cases e; exact hCB rfl)).cell
                    refine ⟨by simp, .inl ⟨_, _, rfl, run_takeDeferred hCh, ?_⟩⟩
                    exact ⟨_, results_box rfl _ _ rfl (fok.tk.get rfl) hc2, by rw [hres], hb.trans ⟨hput.os, hput.tape, hput.output, hput.size, fun b h1 => hput.block b (by have := hK.size; have := hs4.sat.bl; omega) (fun h => by cases h; have := hs4.sat.bl; omega)⟩⟩
end PW
end Go.Proofs.YtbpgndbjbaoolaaGreat

/- Package repair: Covered. -/
namespace Go.Proofs.YtbpgndbjbaoolaaGreat
set_option linter.unusedVariables false
set_option linter.unusedSimpArgs false
namespace PW
open Go.RowKit Reg Mem Net Rng

abbrev encC (p : Int × Int) : Value := .agg (pairV p)
theorem chk_cmp (b : Bool) (a : Int × Int) (w : World) : (Instr.checkKey b 10000 27 (.agg (pairV a))).run Tryz.prog w = .ok () w := by
  have hi := Tryz.underlying3
  rw [show (10000 : Nat) = 9998 + 1 + 1 from rfl, Instr.checkKey]
  simp only [Sem.run_bind, run_underlying Tryz.underlying27, Result.andThen_ok]
  simp [part0 hi, part1 hi, chk_int b 9998 hi, Sem.run_bind]
theorem keyC : MapKey Tryz.prog 27 encC where
  chk := fun b a w => chk_cmp b a w
  eql := fun a b w => by
    obtain ⟨a1, a2⟩ := a
    obtain ⟨b1, b2⟩ := b
    have h := run_eqCmp a1 a2 b1 b2 w
    have e : (a1 == b1 && a2 == b2) = decide ((a1, a2) = (b1, b2)) := by
      by_cases h1 : a1 = b1 <;> by_cases h2 : a2 = b2 <;> simp [h1, h2]
    rw [e] at h
    exact h
  now := ⟨_, Tryz.underlying27, .inr fun a b => by simp only [Instr.sameNow]⟩
  bits := fun a => by
    have h := fun (n : Nat) (x : Int) => show Instr.sameBits n (.int .i64 x) (.int .i64 x) = true by unfold Instr.sameBits; simp
    show Instr.sameBits (9999 + 1) _ _ = true
    rw [Instr.sameBits]
    simp only [List.zip_cons_cons, List.all_cons, h]
    rfl
theorem mapC : mapK Tryz.prog 105 = some (27, 4) := by kernel_rfl
theorem cwith_can (T : Topo) (k x j y : Int) (hv : validB T = true) (hc : compB T k x = true) (hc2 : compB T j y = true) : Can Tryz.prog 90 [topoV T, compV k x, compV j y] (· = flag (inB T k x j y)) :=
  fun F w vs hF gl hR => (within_raw T k x j y hv hc hc2 w vs (hR.pure (fun _ h => h.elim)) (gl.sub (fun _ h => h.elim))).mono fun e w' h => by
    obtain ⟨rfl, hE⟩ := h
    exact ⟨_, rfl, hE, _, rfl, .raw _⟩
theorem mask_bit {T : Topo} {k x : Int} {a : Nat} (ha : a < 2 * T.links.length) : downN (maskL T k x) a = partB k x T.links (a / 2) := by
  rw [← downN_get]
  unfold maskL
  simp [ha]
theorem in_wth {T : Topo} {k x j y : Int} : inB T k x j y = wthB T k x j y := by
  unfold inB wthB wthTo
  rw [Bool.eq_iff_iff, decide_eq_true_eq, List.all_eq_true]
  constructor
  · intro h a ha
    have ha := List.mem_range.1 ha
    cases hp : partB k x T.links (a / 2) with
    | false => rfl
    | true =>
      have := h (a / 2) (by omega) hp
      rw [mask_bit (by omega), show 2 * (a / 2) / 2 = a / 2 by omega] at this
      rw [this]
      rfl
  · intro h i hi hp
    have := h (2 * i) (List.mem_range.2 (by omega))
    rw [mask_bit (by omega)]
    rw [show 2 * i / 2 = i by omega, hp] at this
    rw [show 2 * i / 2 = i by omega]
    simpa using this
/-- What the map holds is what Within answers. -/
def MemC (T : Topo) (k x : Int) (l : List ((Int × Int) × PV)) : Prop := ∀ c v, (c, v) ∈ l → v = flag (wthB T k x c.1 c.2)
theorem MemC.pure {T : Topo} {k x : Int} {l : List ((Int × Int) × PV)} (h : MemC T k x l) : IsPureL ((encM encC l).map (·.2)) := ⟨fun i u hu => by
  have hm := List.mem_of_getElem? hu
  simp only [encM, List.map_map, List.mem_map] at hm
  obtain ⟨a, ha, rfl⟩ := hm
  have := h a.1 a.2 ha
  show IsPure a.2
  rw [this]
  infer_instance⟩
theorem MemC.set {T : Topo} {k x : Int} {l : List ((Int × Int) × PV)} (h : MemC T k x l) (c : Int × Int) : MemC T k x (setM c (flag (wthB T k x c.1 c.2)) l) := fun c' v hm => by
  rcases mem_setM hm with e | e
  · cases e; rfl
  · exact h c' v e
set_option maxRecDepth 10000 in
set_option maxHeartbeats 2000000 in
theorem pcov_can (T : Topo) (k x : Int) : Can Tryz.prog 46 [topoV T, compV k x] (· = flag (cvB T k x)) := by
  have hmk := mask_can T k x
  unfold boolsE at hmk
  refine can_of Tryz.func46 rfl Tryz.ntmps46 rfl ?_
  refine W_cs (.a 3 rfl <| .k [2, 3] rfl) ?_
  refine W_cs (.a 2 rfl <| .c rfl (hmk) rfl <| .a 5 rfl <| .k [2, 3, 5, 6] rfl) ?_
  refine W_seq ?_
  refine W_cs (.a 2 rfl <| .k [2, 3, 5, 26] rfl) ?_
  refine W_cond rfl (fun h1 => ?_) (fun h1 => ?_)
  · have h1 := tt h1
    have he : cvB T k x = false := by
      unfold cvB
      cases hb : (validB T && compB T k x) with
      | false => rfl
      | true => exact absurd (by unfold maskE; rw [if_pos hb]) h1
    rw [he]
    refine W_cs (.a 1 rfl <| .k [4] rfl) ?_
    refine W_ret ?_
    exact ⟨_, _, ResL.of rfl, Pur.pure, rfl⟩
  · have h1 : maskE T k x = 0 := Classical.byContradiction (ff h1)
    have hq0 := mask_zero h1
    rw [if_pos h1]
    obtain ⟨hv, hc⟩ := Bool.and_eq_true_iff.1 hq0
    have hll := links_le hv
    have hN := (sound_of hv).nodes
    have hMl := maskL_len T k x
    have hMf := mask_fits T k x
    have hstep := fun m => cvTo_step T k x m
    have hno := fun m => cv_no (m := m) hq0
    obtain ⟨M, hM⟩ : ∃ M, maskL T k x = M := ⟨_, rfl⟩
    rw [hM] at hMl hMf ⊢
    simp only [hM] at hstep hno
    obtain ⟨N, hNN⟩ : ∃ N : Nat, T.nodes = (N : Int) := ⟨T.nodes.toNat, by omega⟩
    have hNt : T.nodes.toNat = N := by omega
    refine W_skip ?_
    refine W_rs ?_
    refine WR_l (l_makeMap encC rfl) rfl <| WR_a 1 rfl <| WR_k [2, 3, 5, 7] rfl ?_
    refine W_seq ?_
    refine W_cs (.a 3 rfl <| .k [2, 3, 5, 7, 28, 29, 30] rfl) ?_
    refine W_block ?_
    refine W_k [2, 3, 5, 7, 28, 29, 30] rfl ?_
    refine W_loop (fun r st => ∃ m l, m ≤ 2 * T.links.length ∧ r = 2 * T.links.length - m ∧ cvTo T k x m = true ∧ MemC T k x l ∧ st = ⟨[(2, .pin (topoP T) 0), (3, .pin (compP k x) 0), (5, boolsV M), (7, .own 0), (28, boolsV M), (29, num M.length), (30, num m)], [some (.mp (encM encC l))]⟩) (2 * T.links.length) ⟨0, [], by omega, by omega, rfl, (fun _ _ h => absurd h (by simp)), rfl⟩ ?_
    rintro r st ⟨m, l, hm, rfl, hw, hl, rfl⟩
    refine W_cs (.a 1 rfl <| .k [2, 3, 5, 7, 28, 29, 30, 31] rfl) ?_
    refine W_seq ?_
    refine W_cond rfl (fun h3 => ?_) (fun h3 => ?_)
    · have hlt : m < 2 * T.links.length := by have := tt h3; omega
      have hst := hstep m
      rw [hw, Bool.true_and] at hst
      obtain ⟨n, hn⟩ := Int.eq_ofNat_of_zero_le ((sound_of hv).tail m hlt).1
      have hnN : (n : Int) < T.nodes := by rw [← hn]; exact ((sound_of hv).tail m hlt).2
      obtain ⟨q1, hq1⟩ : ∃ q, downN M m = q := ⟨_, rfl⟩
      obtain ⟨q2, hq2⟩ : ∃ q, decide (k = 2) = q := ⟨_, rfl⟩
      obtain ⟨q3, hq3⟩ : ∃ q, decide (tailN T m = x) = q := ⟨_, rfl⟩
      have hA : cvA T M k x m = ((!q1 || (q2 && q3)) || cvD T M k x m N) := by unfold cvA; rw [hq1, hq2, hq3, hNt]
      have hq3' : decide (x = (n : Int)) = q3 := by rw [← hq3, hn]; exact decide_eq_decide.2 ⟨Eq.symm, Eq.symm⟩
      have htl := tail_can T m hlt
      rw [hn] at htl
      clear h3
      refine W_skip ?_
      refine W_seq ?_
      refine W_block ?_
      refine W_cs (.a 1 rfl <| .v (y_ix (m) rfl) rfl <| .v (y_ld rfl ((show (boolsP M)[m]? = some (flag q1) by rw [bools_getP _ m (by omega), downN_get, hq1]))) rfl <| .a 2 rfl <| .k [2, 3, 5, 7, 8, 9, 28, 29, 30] rfl) ?_
      refine W_cs (.a 2 rfl <| .c rfl (htl) rfl <| .a 1 rfl <| .k [2, 3, 5, 7, 8, 9, 10, 28, 29, 30] rfl) ?_
      refine W_seq ?_
      refine W_csK 50 (.raw (.bool ((!q1) || (q2 && q3)))) [2, 3, 5, 7, 8, 10, 28, 29, 30] rfl ?_ ?_
      · refine .a 3 rfl <| ?_
        cases q1
        · exact .a 10 rfl <| .k [50, 2, 3, 5, 7, 8, 10, 28, 29, 30] rfl
        · refine .a 2 rfl <| .v (y_q rfl (hq2)) rfl <| .a 1 rfl <| ?_
          cases q2
          · exact .a 6 rfl <| .k [50, 2, 3, 5, 7, 8, 10, 28, 29, 30] rfl
          · exact .a 3 rfl <| .v (y_q rfl (hq3')) rfl <| .a 2 rfl <| .k [50, 2, 3, 5, 7, 8, 10, 28, 29, 30] rfl
      refine W_cond rfl (fun h4 => ?_) (fun h4 => ?_)
      · have hcv : cvTo T k x (m + 1) = true := by rw [hst, hA, h4]; rfl
        refine W_exit ?_
        refine W_chain (.v (y_ar rfl) rfl <| .a 1 rfl <| .k [2, 3, 5, 7, 28, 29, 30] rfl) ?_
        exact ⟨2 * T.links.length - (m + 1), by omega, m + 1, _, by omega, rfl, hcv, hl, rfl⟩
      · rw [h4, Bool.false_or] at hA
        have hfr := from_can T M n
        have hch : chkE T M [(n : Int)] = 0 := by
          unfold chkE
          rw [hv, hMf]
          simp [nodeB_iff.2 (show 0 ≤ (n : Int) ∧ (n : Int) < T.nodes by omega)]
        rw [hch, Int.toNat_natCast] at hfr
        unfold intsE at hfr
        rw [if_pos rfl] at hfr
        have hLl := (distL_bound (D := M) hv (dir := true) hnN).1
        have hrc : ∀ j : Nat, j < N → decide ((distL T M n true).getD j 0 < 0) = !rchB T M (tailN T m) j := fun j hj => by
          rw [hn, Bool.eq_iff_iff, decide_eq_true_eq, Bool.not_eq_true', ← Bool.not_eq_true, rch_iff hv hMf hnN (by omega), ← fwd_iff hv hnN (by omega)]
          omega
        have has := assume_can T m hv hlt
        obtain ⟨L, hL⟩ : ∃ L, distL T M n true = L := ⟨_, rfl⟩
        rw [hL] at hfr hLl
        simp only [hL] at hrc
        refine W_skip ?_
        refine W_cs (.a 3 rfl <| .c rfl (hfr) rfl <| .a 5 rfl <| .k [2, 3, 5, 7, 8, 11, 28, 29, 30] rfl) ?_
        refine W_cs (.a 2 rfl <| .c rfl (has) rfl <| .a 1 rfl <| .k [2, 3, 5, 7, 11, 13, 28, 29, 30] rfl) ?_
        refine W_cs (.a 3 rfl <| .k [2, 3, 5, 7, 13, 28, 29, 30, 61, 62, 63] rfl) ?_
        refine W_block ?_
        refine W_k [2, 3, 5, 7, 13, 28, 29, 30, 61, 62, 63] rfl ?_
        refine W_loop (fun r st => ∃ j l, j ≤ N ∧ r = N - j ∧ cvD T M k x m j = true ∧ MemC T k x l ∧ st = ⟨[(2, .pin (topoP T) 0), (3, .pin (compP k x) 0), (5, boolsV M), (7, .own 0), (13, .func 132 (asmC (grpN T m) (headN T m) ((m / 2 : Nat) : Int) (wgL T m) (wnL T m))), (28, boolsV M), (29, num M.length), (30, num m), (61, intsV L), (62, num L.length), (63, num j)], [some (.mp (encM encC l))]⟩) N ⟨0, l, by omega, by omega, rfl, hl, rfl⟩ ?_
        clear hl
        rintro r st ⟨j, l, hj, rfl, hd, hl, rfl⟩
        refine W_cs (.a 1 rfl <| .k [2, 3, 5, 7, 13, 28, 29, 30, 61, 62, 63, 64] rfl) ?_
        refine W_seq ?_
        refine W_cond rfl (fun h5 => ?_) (fun h5 => ?_)
        · have hjl : j < N := by have := tt h5; omega
          have hds := cvD_step T M k x m j
          rw [hd, Bool.true_and] at hds
          have hcm : compB T (asmF T m j).1 (asmF T m j).2 = true := asm_comp hv hlt _
          have hcn := clo_can T m j hv hlt (by omega)
          have hwn := cwith_can T k x (asmF T m j).1 (asmF T m j).2 hv hc hcm
          rw [in_wth] at hwn
          generalize asmF T m (j : Int) = cx at *
          obtain ⟨ck, cy⟩ := cx
          simp only at hcm hcn hwn hds
          have hset := hl.set (ck, cy)
          simp only at hset
          obtain ⟨r1, hr1⟩ : ∃ q, rchB T M (tailN T m) j = q := ⟨_, rfl⟩
          obtain ⟨r2, hr2⟩ : ∃ q, wthB T k x ck cy = q := ⟨_, rfl⟩
          have hrj := hrc j hjl
          rw [hr1] at hds hrj
          rw [hr2] at hds hwn hset
          clear h5
          refine W_skip ?_
          refine W_seq ?_
          refine W_block ?_
          refine W_cs (.a 1 rfl <| .v (y_ix (j) rfl) rfl <| .v (y_ld rfl ((ints_get L j (by omega)))) rfl <| .a 2 rfl <| .k [2, 3, 5, 7, 13, 14, 15, 28, 29, 30, 61, 62, 63] rfl) ?_
          refine W_seq ?_
          refine W_cs (.a 1 rfl <| .v (y_q rfl rfl) rfl <| .k [2, 3, 5, 7, 13, 14, 28, 29, 30, 61, 62, 63, 69] rfl) ?_
          refine W_cond rfl (fun h6 => ?_) (fun h6 => ?_)
          · have h6 : r1 = false := by
              have := hrj.symm.trans h6
              simpa using this
            have hd2 : cvD T M k x m (j + 1) = true := by rw [hds, h6]; rfl
            have hl2 := hl
            refine W_exit ?_
            refine W_chain (.v (y_ar rfl) rfl <| .a 1 rfl <| .k [2, 3, 5, 7, 13, 28, 29, 30, 61, 62, 63] rfl) ?_
            skip
            exact ⟨N - (j + 1), by omega, j + 1, _, by omega, rfl, hd2, hl2, rfl⟩
          · have h6 : r1 = true := by
              have := hrj.symm.trans h6
              simpa using this
            rw [h6] at hds
            obtain ⟨kn, hkn⟩ : ∃ q, (lookM (ck, cy) l).isSome = q := ⟨_, rfl⟩
            refine W_skip ?_
            refine W_rs ?_
            refine WR_a 2 rfl <| WR_c rfl (hcn) rfl <| WR_a 2 rfl <| WR_k [2, 3, 5, 7, 13, 16, 28, 29, 30, 61, 62, 63] rfl ?_
            refine W_seq ?_
            refine W_cs (.a 2 rfl <| .v (y_look2 keyC (k := (ck, cy)) rfl mapC zvP rfl rfl rfl (keyAgg2 _ _) rfl hkn) rfl <| .a 5 rfl <| .k [2, 3, 5, 7, 13, 16, 18, 28, 29, 30, 61, 62, 63] rfl) ?_
            refine W_cs (.a 2 rfl <| .k [2, 3, 5, 7, 13, 16, 28, 29, 30, 61, 62, 63, 80] rfl) ?_
            refine W_cond rfl (fun h7 => ?_) (fun h7 => ?_)
            · skip
              refine W_drawFlt 6 20 mixed (
                .val [7] rfl (y_a rfl) rfl rfl <|
                .val [16] rfl (y_a rfl) rfl rfl <|
                .val [2] rfl (y_a rfl) rfl rfl <|
                .val [3] rfl (y_a rfl) rfl rfl <|
                .val [16] rfl (y_a rfl) rfl rfl <|
                .val [83, 84, 85] rfl (y_c rfl (hwn)) rfl rfl <|
                .nil) (by kernel_rfl) rfl rfl (keepT_sub (ks := [2, 3, 5, 7, 13, 16, 28, 29, 30, 61, 62, 63, 81, 82, 86]) rfl) ?_
              refine WR_loud0 (l_mapSet keyC (k := (ck, cy)) rfl mapC rfl rfl rfl (keyAgg2 _ _) rfl) rfl rfl <| WR_k [2, 3, 5, 7, 13, 16, 28, 29, 30, 61, 62, 63] rfl ?_
              have hlk2 : lookM (ck, cy) (setM (ck, cy) (flag r2) l) = some (flag r2) := lookM_set _ _ _
              have hl2 := hset
              refine W_cs (.a 2 rfl <| .v (y_look keyC (k := (ck, cy)) (r := flag r2) rfl mapC zvP rfl rfl rfl (keyAgg2 _ _) (by rw [hlk2]; rfl)) rfl <| .a 1 rfl <| .k [2, 3, 5, 7, 13, 28, 29, 30, 61, 62, 63, 90] rfl) ?_
              refine W_cond rfl (fun h8 => ?_) (fun h8 => ?_)
              · have h8 : r2 = false := by simpa using h8
                rw [h8] at hds
                have hf : cvB T k x = false := hno m hw hlt (by rw [hA]; exact all_of_lt hds (by omega))
                rw [hf]
                refine W_cs (.a 1 rfl <| .k [4] rfl) ?_
                refine W_ret ?_
                exact ⟨_, _, ResL.of rfl, Pur.pure, rfl⟩
              · have h8 : r2 = true := by simpa using h8
                have hd2 : cvD T M k x m (j + 1) = true := by rw [hds, h8]; rfl
                haveI := hl2.pure
                refine W_ren [0] (.c 2 <| .c 3 <| .c 5 <| .c 7 <| .c 13 <| .c 28 <| .c 29 <| .c 30 <| .c 61 <| .c 62 <| .c 63 <| .nil) (.kept rfl .mp <| .nil) rfl rfl ?_
                refine W_skip ?_
                refine W_chain (.v (y_ar rfl) rfl <| .a 1 rfl <| .k [2, 3, 5, 7, 13, 28, 29, 30, 61, 62, 63] rfl) ?_
                skip
                exact ⟨N - (j + 1), by omega, j + 1, _, by omega, rfl, hd2, hl2, rfl⟩
            · have h7 : kn = true := by simpa using h7
              have hlk2 : lookM (ck, cy) l = some (flag r2) := by
                rw [h7] at hkn
                obtain ⟨v, hvl⟩ := Option.isSome_iff_exists.1 hkn
                have := hl _ _ (lookM_mem hvl)
                rw [hvl, this, ← hr2]
              have hl2 := hl
              refine W_skip ?_
              refine W_cs (.a 2 rfl <| .v (y_look keyC (k := (ck, cy)) (r := flag r2) rfl mapC zvP rfl rfl rfl (keyAgg2 _ _) (by rw [hlk2]; rfl)) rfl <| .a 1 rfl <| .k [2, 3, 5, 7, 13, 28, 29, 30, 61, 62, 63, 90] rfl) ?_
              refine W_cond rfl (fun h8 => ?_) (fun h8 => ?_)
              · have h8 : r2 = false := by simpa using h8
                rw [h8] at hds
                have hf : cvB T k x = false := hno m hw hlt (by rw [hA]; exact all_of_lt hds (by omega))
                rw [hf]
                refine W_cs (.a 1 rfl <| .k [4] rfl) ?_
                refine W_ret ?_
                exact ⟨_, _, ResL.of rfl, Pur.pure, rfl⟩
              · have h8 : r2 = true := by simpa using h8
                have hd2 : cvD T M k x m (j + 1) = true := by rw [hds, h8]; rfl
                haveI := hl2.pure
                refine W_ren [0] (.c 2 <| .c 3 <| .c 5 <| .c 7 <| .c 13 <| .c 28 <| .c 29 <| .c 30 <| .c 61 <| .c 62 <| .c 63 <| .nil) (.kept rfl .mp <| .nil) rfl rfl ?_
                refine W_skip ?_
                refine W_chain (.v (y_ar rfl) rfl <| .a 1 rfl <| .k [2, 3, 5, 7, 13, 28, 29, 30, 61, 62, 63] rfl) ?_
                skip
                exact ⟨N - (j + 1), by omega, j + 1, _, by omega, rfl, hd2, hl2, rfl⟩
        · have hje : j = N := by have := ff h5; omega
          subst hje
          have hcv : cvTo T k x (m + 1) = true := by rw [hst, hA, hd]
          clear h5
          refine W_exit ?_
          refine W_chain (.v (y_ar rfl) rfl <| .a 1 rfl <| .k [2, 3, 5, 7, 28, 29, 30] rfl) ?_
          exact ⟨2 * T.links.length - (m + 1), by omega, m + 1, _, by omega, rfl, hcv, hl, rfl⟩
    · have hme : m = 2 * T.links.length := by have := ff h3; omega
      subst hme
      have hf : cvB T k x = true := by unfold cvB; rw [hq0, hw]; rfl
      rw [hf]
      refine W_exit ?_
      refine W_cs (.a 1 rfl <| .k [4] rfl) ?_
      refine W_ret ?_
      exact ⟨_, _, ResL.of rfl, Pur.pure, rfl⟩
end PW
end Go.Proofs.YtbpgndbjbaoolaaGreat

/- The reference's affected nodes; the law RepairValid, walked. -/
namespace Go.Proofs.YtbpgndbjbaoolaaGreat
set_option linter.unusedVariables false
set_option linter.unusedSimpArgs false
namespace PW
open Go.RowKit Reg Mem Net Rng

end PW
end Go.Proofs.YtbpgndbjbaoolaaGreat

/- The reference of layer 10: Arcs, All. -/
namespace Go.Proofs.YtbpgndbjbaoolaaGreat
set_option linter.unusedVariables false
set_option linter.unusedSimpArgs false
namespace PW
open Go.RowKit Reg Mem Net Rng

def arcTo (T : Topo) (k x : Int) (m : Nat) : List Int := ((List.range m).filter fun a => partB k x T.links (a / 2)).map Int.ofNat
theorem arcTo_step (T : Topo) (k x : Int) (m : Nat) : arcTo T k x (m + 1) = arcTo T k x m ++ (if partB k x T.links (m / 2) then [(m : Int)] else []) := by
  unfold arcTo
  rw [List.range_succ, List.filter_append, List.map_append]
  congr 1
  simp only [List.filter_cons, List.filter_nil]
  split <;> simp
theorem arcTo_len (T : Topo) (k x : Int) (m : Nat) : (arcTo T k x m).length ≤ m := by
  unfold arcTo
  rw [List.length_map]
  exact Nat.le_trans (List.length_filter_le _ _) (by simp)
set_option maxRecDepth 10000 in
set_option maxHeartbeats 1000000 in
theorem rarcs10_can (T : Topo) (k x : Int) (hm : (validB T && compB T k x) = true) : Can Tryz.prog 86 [topoV T, compV k x] (· = .tuple [intsV (arcTo T k x (2 * T.links.length)), num 0]) := by
  have hll := links_le (Bool.and_eq_true_iff.1 hm).1
  have hst := fun m => arcTo_step T k x m
  have hlen := fun m => arcTo_len T k x m
  refine can_of Tryz.func86 rfl Tryz.ntmps86 rfl ?_
  refine W_cs (.a 4 rfl <| .k [2, 3] rfl) ?_
  refine W_seq ?_
  refine W_cs (.a 2 rfl <| .c rfl (hm ▸ rvalid10_can T k x) rfl <| .a 1 rfl <| .k [2, 3, 11] rfl) ?_
  refine W_cond rfl (fun h1 => ?_) (fun h1 => ?_)
  · exact absurd h1 (by decide)
  · clear h1
    refine W_skip ?_
    refine W_cs (.a 1 rfl <| .k [2, 3, 6] rfl) ?_
    refine W_adopt 6 3 1 rfl ?_
    refine W_seq ?_
    refine W_cs (.a 1 rfl <| .k [2, 3, 6, 7] rfl) ?_
    refine W_block ?_
    refine W_k [2, 3, 6, 7] rfl ?_
    refine W_loop (fun r s => ∃ m, m ≤ 2 * T.links.length ∧ r = 2 * T.links.length - m ∧ s = ⟨[(2, .pin (topoP T) 0), (3, .pin (compP k x) 0), (6, .own 0), (7, num m)], [some (.row 3 1 (arcTo T k x m).length (intsP (arcTo T k x m)))]⟩) (2 * T.links.length) ⟨0, by omega, by omega, rfl⟩ ?_
    rintro r s ⟨m, hm', rfl, rfl⟩
    refine W_seq ?_
    refine W_cs (.a 4 rfl <| .v (y_ar rfl (hc := rfl)) rfl <| .a 1 rfl <| .k [2, 3, 6, 7, 17] rfl) ?_
    refine W_cond rfl (fun h1 => ?_) (fun h1 => ?_)
    · have hlt : m < 2 * T.links.length := by have := tt h1; omega
      have hstm := hst m
      have hlm := hlen m
      obtain ⟨q, hq⟩ : ∃ q, partB k x T.links (m / 2) = q := ⟨_, rfl⟩
      have hof := rof_can T k x m hlt hll
      rw [hq] at hof hstm
      refine W_skip ?_
      refine W_seq ?_
      refine W_block ?_
      refine W_cs (.a 3 rfl <| .c rfl (hof) rfl <| .k [2, 3, 6, 7, 23] rfl) ?_
      refine W_cond rfl (fun h2 => ?_) (fun h2 => ?_)
      · subst h2
        rw [if_pos rfl] at hstm
        refine W_region ?_
        refine WR_a 3 rfl <| WR_l (l_append rfl (fok.rk.get rfl) rfl rfl rfl rfl (by unfold maxLen; omega)) rfl <| WR_a 1 rfl ?_
        refine WR_ren [1] (.c 2 <| .c 3 <| .c 6 <| .c 7 <| .nil) (.kept rfl (.rowP rfl (intsP_snoc _ _)) <| .nil) rfl rfl (WR_nil ?_)
        refine W_chain (.a 1 rfl <| .v (y_ar rfl) rfl <| .a 1 rfl <| .k [2, 3, 6, 7] rfl) ?_
        refine ⟨2 * T.links.length - (m + 1), by omega, m + 1, by omega, rfl, ?_⟩
        rw [hstm]
        first
          | rfl
          | (simp only [List.length_append, List.length_singleton]; rfl)
      · subst h2
        rw [if_neg (by simp), List.append_nil] at hstm
        refine W_skip ?_
        refine W_chain (.a 1 rfl <| .v (y_ar rfl) rfl <| .a 1 rfl <| .k [2, 3, 6, 7] rfl) ?_
        refine ⟨2 * T.links.length - (m + 1), by omega, m + 1, by omega, rfl, ?_⟩
        rw [hstm]
        first
          | rfl
          | (simp only [List.length_append, List.length_singleton]; rfl)
    · have hme : m = 2 * T.links.length := by have := ff h1; omega
      subst hme
      refine W_exit ?_
      refine W_cs (.a 3 rfl <| .k [4, 5] rfl) ?_
      refine W_ret ?_
      exact ⟨_, _, ResL.of rfl, Pur.tupleL (PurL.cons (Pur.ownL rfl PurL.pure) (PurL.cons Pur.pure PurL.nil)), rfl⟩
def compsP (l : List (Int × Int)) : List PV := l.flatMap fun c => compP c.1 c.2
def compsV (l : List (Int × Int)) : PV := .slice l.length (compsP l)
instance (l : List (Int × Int)) : IsPureL (compsP l) := IsPureL.flatMap _ _ fun _ => inferInstance
instance (l : List (Int × Int)) : IsPure (compsV l) := by unfold compsV; infer_instance
theorem compsP_snoc (l : List (Int × Int)) (k x : Int) : compsP l ++ compP k x = compsP (l ++ [(k, x)]) := by simp [compsP]
def alA (i : Nat) : List (Int × Int) := (List.range i).map fun (j : Nat) => ((1 : Int), (j : Int))
def alB (T : Topo) (i : Nat) : List (Int × Int) := alA T.links.length ++ (List.range i).map fun (j : Nat) => ((2 : Int), (j : Int))
def alC (T : Topo) (i : Nat) : List (Int × Int) := alB T T.nodes.toNat ++ ((List.range i).filter fun (j : Nat) => decide (0 < ((arcTo T 3 ((j + 1 : Nat) : Int) (2 * T.links.length)).length : Int))).map fun (j : Nat) => ((3 : Int), ((j + 1 : Nat) : Int))
theorem alA_step (i : Nat) : alA (i + 1) = alA i ++ [(1, (i : Int))] := by simp [alA, List.range_succ]
theorem alB_step (T : Topo) (i : Nat) : alB T (i + 1) = alB T i ++ [(2, (i : Int))] := by simp [alB, List.range_succ]
theorem alC_step (T : Topo) (i : Nat) : alC T (i + 1) = alC T i ++ (if decide (0 < ((arcTo T 3 ((i + 1 : Nat) : Int) (2 * T.links.length)).length : Int)) then [(3, ((i + 1 : Nat) : Int))] else []) := by
  unfold alC
  rw [List.range_succ, List.filter_append, List.map_append, List.append_assoc]
  congr 2
  simp only [List.filter_cons, List.filter_nil]
  split <;> simp
theorem alA_len (i : Nat) : (alA i).length = i := by simp [alA]
theorem alB_len (T : Topo) (i : Nat) : (alB T i).length = T.links.length + i := by simp [alB, alA]
theorem alC_len (T : Topo) (i : Nat) : (alC T i).length ≤ T.links.length + T.nodes.toNat + i := by
  unfold alC
  rw [List.length_append, alB_len, List.length_map]
  have := List.length_filter_le (fun (j : Nat) => decide (0 < ((arcTo T 3 ((j + 1 : Nat) : Int) (2 * T.links.length)).length : Int))) (List.range i)
  rw [List.length_range] at this
  omega
theorem alC_mem {T : Topo} {i : Nat} {c : Int × Int} (h : c ∈ alC T i) : (∃ j : Nat, j < T.links.length ∧ c = (1, (j : Int))) ∨ (∃ j : Nat, j < T.nodes.toNat ∧ c = (2, (j : Int))) ∨ ∃ j : Nat, j < i ∧ c = (3, ((j + 1 : Nat) : Int)) := by
  unfold alC alB alA at h
  simp only [List.mem_append, List.mem_map, List.mem_filter, List.mem_range] at h
  rcases h with (⟨j, h1, rfl⟩ | ⟨j, h1, rfl⟩) | ⟨j, h1, rfl⟩
  · exact .inl ⟨j, h1, rfl⟩
  · exact .inr (.inl ⟨j, h1, rfl⟩)
  · exact .inr (.inr ⟨j, h1.1, rfl⟩)
set_option maxRecDepth 10000 in
set_option maxHeartbeats 1000000 in
theorem rall_can (T : Topo) : Can Tryz.prog 45 [topoV T] (· = compsV (if validB T then alC T 64 else [])) := by
  obtain ⟨q, hq⟩ : ∃ q, validB T = q := ⟨_, rfl⟩
  rw [hq]
  refine can_of Tryz.func45 rfl Tryz.ntmps45 rfl ?_
  refine W_cs (.a 2 rfl <| .k [1] rfl) ?_
  refine W_cs (.a 1 rfl <| .k [1, 3] rfl) ?_
  refine W_seq ?_
  refine W_cs (.a 1 rfl <| .c rfl (hq ▸ rvalid_can T) rfl <| .a 1 rfl <| .k [1, 3, 12] rfl) ?_
  refine W_cond rfl (fun h1 => ?_) (fun h1 => ?_)
  · have h1 : q = false := by simpa using h1
    rw [h1, if_neg (by simp)]
    refine W_cs (.a 1 rfl <| .k [2] rfl) ?_
    refine W_ret ?_
    exact ⟨_, _, ResL.of rfl, Pur.nils, rfl⟩
  · have h1 : q = true := by simpa using h1
    rw [h1, if_pos rfl]
    rw [h1] at hq
    have hll := links_le hq
    have hN := (sound_of hq).nodes
    obtain ⟨N, hNN⟩ : ∃ N : Nat, T.nodes = (N : Int) := ⟨T.nodes.toNat, by omega⟩
    have hNt : T.nodes.toNat = N := by omega
    refine W_adopt 3 27 2 rfl ?_
    refine W_skip ?_
    refine W_seq ?_
    refine W_cs (.a 1 rfl <| .k [1, 3, 4] rfl) ?_
    refine W_block ?_
    refine W_k [1, 3, 4] rfl ?_
    refine W_loop (fun r s => ∃ i, i ≤ T.links.length ∧ r = T.links.length - i ∧ s = ⟨[(1, .pin (topoP T) 0), (3, .own 0), (4, num i)], [some (.row 27 2 (alA i).length (compsP (alA i)))]⟩) T.links.length ⟨0, by omega, by omega, rfl⟩ ?_
    rintro r s ⟨i, hi, rfl, rfl⟩
    refine W_seq ?_
    refine W_cs (.a 5 rfl <| .k [1, 3, 4, 17] rfl) ?_
    refine W_cond rfl (fun h2 => ?_) (fun h2 => ?_)
    · have hli : i < T.links.length := by have := tt h2; omega
      have hal := alA_len i
      have hst := alA_step i
      refine W_skip ?_
      refine W_seq ?_
      refine W_block ?_
      refine W_region ?_
      refine WR_a 4 rfl <| WR_l (l_append rfl (fok.rk.get rfl) rfl rfl rfl rfl (by unfold maxLen; omega)) rfl <| WR_a 1 rfl ?_
      refine WR_ren [1] (.c 1 <| .c 3 <| .c 4 <| .nil) (.kept rfl (.rowP rfl (compsP_snoc _ 1 _)) <| .nil) rfl rfl (WR_nil ?_)
      refine W_chain (.a 1 rfl <| .v (y_ar rfl) rfl <| .a 1 rfl <| .k [1, 3, 4] rfl) ?_
      refine ⟨T.links.length - (i + 1), by omega, i + 1, by omega, rfl, ?_⟩
      rw [hst]
      first
        | rfl
        | (simp only [List.length_append, List.length_singleton]; rfl)
    · have hie : i = T.links.length := by have := ff h2; omega
      subst hie
      refine W_sto (σ' := [some (.row 27 2 (alB T 0).length (compsP (alB T 0)))]) (by rw [show alB T 0 = alA T.links.length by simp [alB]]) ?_
      refine W_exit ?_
      refine W_seq ?_
      refine W_cs (.a 1 rfl <| .k [1, 3, 5] rfl) ?_
      refine W_block ?_
      refine W_k [1, 3, 5] rfl ?_
      refine W_loop (fun r s => ∃ i, i ≤ N ∧ r = N - i ∧ s = ⟨[(1, .pin (topoP T) 0), (3, .own 0), (5, num i)], [some (.row 27 2 (alB T i).length (compsP (alB T i)))]⟩) N ⟨0, by omega, by omega, rfl⟩ ?_
      rintro r s ⟨i, hi, rfl, rfl⟩
      refine W_seq ?_
      refine W_cs (.a 2 rfl <| .v (y_ld rfl ((show some (num T.nodes) = some (num (N : Int)) by rw [hNN]))) rfl <| .a 1 rfl <| .k [1, 3, 5, 28] rfl) ?_
      refine W_cond rfl (fun h2 => ?_) (fun h2 => ?_)
      · have hli : i < N := by have := tt h2; omega
        have hal := alB_len T i
        have hst := alB_step T i
        refine W_skip ?_
        refine W_seq ?_
        refine W_block ?_
        refine W_region ?_
        refine WR_a 4 rfl <| WR_l (l_append rfl (fok.rk.get rfl) rfl rfl rfl rfl (by unfold maxLen; omega)) rfl <| WR_a 1 rfl ?_
        refine WR_ren [1] (.c 1 <| .c 3 <| .c 5 <| .nil) (.kept rfl (.rowP rfl (compsP_snoc _ 2 _)) <| .nil) rfl rfl (WR_nil ?_)
        refine W_chain (.a 1 rfl <| .v (y_ar rfl) rfl <| .a 1 rfl <| .k [1, 3, 5] rfl) ?_
        refine ⟨N - (i + 1), by omega, i + 1, by omega, rfl, ?_⟩
        rw [hst]
        first
          | rfl
          | (simp only [List.length_append, List.length_singleton]; rfl)
      · have hie : i = N := by have := ff h2; omega
        subst hie
        refine W_sto (σ' := [some (.row 27 2 (alC T 0).length (compsP (alC T 0)))]) (by rw [show alC T 0 = alB T i by simp [alC, hNt]]) ?_
        refine W_exit ?_
        refine W_seq ?_
        refine W_cs (.a 1 rfl <| .k [1, 3, 6] rfl) ?_
        refine W_block ?_
        refine W_k [1, 3, 6] rfl ?_
        refine W_loop (fun r s => ∃ i, i ≤ 64 ∧ r = 64 - i ∧ s = ⟨[(1, .pin (topoP T) 0), (3, .own 0), (6, num ((i + 1 : Nat) : Int))], [some (.row 27 2 (alC T i).length (compsP (alC T i)))]⟩) 64 ⟨0, by omega, by omega, rfl⟩ ?_
        rintro r s ⟨i, hi, rfl, rfl⟩
        refine W_seq ?_
        refine W_cs (.a 2 rfl <| .k [1, 3, 6, 37] rfl) ?_
        refine W_cond rfl (fun h2 => ?_) (fun h2 => ?_)
        · have hli : i < 64 := by have := tt h2; omega
          have hal := alC_len T i
          have hst := alC_step T i
          have har := rarcs10_can T 3 ((i + 1 : Nat) : Int) (by
            rw [hq, Bool.true_and]
            unfold compB
            rw [if_neg (by decide), if_neg (by decide), if_pos rfl]
            simp only [Bool.and_eq_true, decide_eq_true_eq]
            omega)
          obtain ⟨A, hA⟩ : ∃ A, arcTo T 3 ((i + 1 : Nat) : Int) (2 * T.links.length) = A := ⟨_, rfl⟩
          rw [hA] at har hst
          refine W_skip ?_
          refine W_seq ?_
          refine W_block ?_
          refine W_rs ?_
          refine WR_a 4 rfl <| WR_k [1, 3, 6, 7] rfl ?_
          refine W_cs (.a 2 rfl <| .c rfl (har) rfl <| .a 5 rfl <| .k [1, 3, 6, 7, 8] rfl) ?_
          refine W_cs (.a 3 rfl <| .k [1, 3, 6, 7, 50] rfl) ?_
          refine W_cond rfl (fun h3 => ?_) (fun h3 => ?_)
          · rw [if_pos h3] at hst
            refine W_region ?_
            refine WR_a 3 rfl <| WR_l (l_append rfl (fok.rk.get rfl) rfl rfl rfl rfl (by unfold maxLen; omega)) rfl <| WR_a 1 rfl ?_
            refine WR_ren [2] (.c 1 <| .c 3 <| .c 6 <| .nil) (.kept rfl (.rowP rfl (compsP_snoc _ 3 _)) <| .nil) rfl rfl (WR_nil ?_)
            refine W_chain (.a 1 rfl <| .v (y_ar rfl) rfl <| .a 1 rfl <| .k [1, 3, 6] rfl) ?_
            refine ⟨64 - (i + 1), by omega, i + 1, by omega, rfl, ?_⟩
            rw [hst]
            first
              | rfl
              | (simp only [List.length_append, List.length_singleton]; rfl)
          · rw [if_neg (by rw [h3]; simp), List.append_nil] at hst
            refine W_ren [0] (.c 1 <| .c 3 <| .c 6 <| .nil) (.kept rfl (.row RenL.pure) <| .nil) rfl rfl ?_
            refine W_skip ?_
            refine W_chain (.a 1 rfl <| .v (y_ar rfl) rfl <| .a 1 rfl <| .k [1, 3, 6] rfl) ?_
            refine ⟨64 - (i + 1), by omega, i + 1, by omega, rfl, ?_⟩
            rw [hst]
            first
              | rfl
              | (simp only [List.length_append, List.length_singleton]; rfl)
        · have hie : i = 64 := by have := ff h2; omega
          subst hie
          refine W_exit ?_
          refine W_cs (.a 2 rfl <| .k [2] rfl) ?_
          refine W_ret ?_
          exact ⟨_, _, ResL.of rfl, Pur.ownL rfl PurL.pure, rfl⟩
end PW
end Go.Proofs.YtbpgndbjbaoolaaGreat

/- The law RepairCovered, walked. -/
namespace Go.Proofs.YtbpgndbjbaoolaaGreat
set_option linter.unusedVariables false
set_option linter.unusedSimpArgs false
namespace PW
open Go.RowKit Reg Mem Net Rng

section
variable {T : Topo}
theorem Ch.last {D : List Bool} {d n : Nat} {p : List Int} (h : Ch T D d n p) : n ≠ d → ∃ a, a < 2 * T.links.length ∧ downN D a = false ∧ headN T a = (d : Int) := by
  induction h with
  | nil => intro h; exact absurd rfl h
  | @cons n a m p h1 h2 h3 h4 _ _ ih =>
    intro _
    by_cases e : m = d
    · subst e; exact ⟨a, h1, h3, h4⟩
    · exact ih e
theorem ends_of (a : Nat) : (tailN T a = (lnk T.links (a / 2)).a ∧ headN T a = (lnk T.links (a / 2)).b) ∨ (tailN T a = (lnk T.links (a / 2)).b ∧ headN T a = (lnk T.links (a / 2)).a) := by
  unfold headN tailN Net.flip
  by_cases h : a % 2 = 0
  · rw [if_pos h, if_pos h, if_neg (by omega), show (a + 1) / 2 = a / 2 by omega]
    exact .inl ⟨rfl, rfl⟩
  · rw [if_neg h, if_neg h, if_pos (by omega), show (a - 1) / 2 = a / 2 by omega]
    exact .inr ⟨rfl, rfl⟩
theorem prt1 {x : Int} {i : Nat} : partB 1 x T.links i = decide ((i : Int) = x) := by simp [partB]
theorem prt2 {x : Int} {i : Nat} : partB 2 x T.links i = (decide ((lnk T.links i).a = x) || decide ((lnk T.links i).b = x)) := by simp [partB]
theorem prt3 {x : Int} {i : Nat} : partB 3 x T.links i = decide ((lnk T.links i).grp = x) := by simp [partB]
theorem wth_of {k x k' x' : Int} (h : ∀ b, b < 2 * T.links.length → partB k x T.links (b / 2) = true → partB k' x' T.links (b / 2) = true) : wthB T k x k' x' = true := by
  unfold wthB wthTo
  refine List.all_eq_true.2 fun b hb => ?_
  have hb := List.mem_range.1 hb
  cases hp : partB k x T.links (b / 2) with
  | false => rfl
  | true => rw [h b hb hp]; rfl
theorem cv_of {k x : Int} (hm : (validB T && compB T k x) = true) (h : ∀ a d : Nat, a < 2 * T.links.length → (d : Int) < T.nodes → partB k x T.links (a / 2) = true → ¬ (k = 2 ∧ tailN T a = x) → rchB T (maskL T k x) (tailN T a) d = true → wthB T k x (asmF T a d).1 (asmF T a d).2 = true) : cvB T k x = true := by
  unfold cvB cvTo
  rw [hm, Bool.true_and]
  refine List.all_eq_true.2 fun a ha => ?_
  have ha := List.mem_range.1 ha
  unfold cvA
  rw [mask_bit ha]
  cases hp : partB k x T.links (a / 2) with
  | false => rfl
  | true =>
    cases hq : (decide (k = 2) && decide (tailN T a = x)) with
    | true => rfl
    | false =>
      show cvD T (maskL T k x) k x a T.nodes.toNat = true
      unfold cvD
      refine List.all_eq_true.2 fun d hd => ?_
      have hd := List.mem_range.1 hd
      cases hr : rchB T (maskL T k x) (tailN T a) d with
      | false => rfl
      | true =>
        rw [h a d ha (by omega) hp (fun ⟨h1, h2⟩ => by rw [h1, h2] at hq; simp at hq) hr]
        rfl
theorem cv_link (hv : validB T = true) {i : Nat} (hi : i < T.links.length) : cvB T 1 i = true := by
  have hc : compB T 1 i = true := by
    unfold compB
    rw [if_pos rfl]
    simp only [Bool.and_eq_true, decide_eq_true_eq]
    omega
  refine cv_of (by rw [hv, hc]; rfl) fun a d ha hd hp _ hr => wth_of fun b hb hpb => ?_
  rw [prt1, decide_eq_true_eq] at hp hpb
  have he : b / 2 = a / 2 := by omega
  rw [he]
  unfold asmF
  split
  · rw [prt3]; exact decide_eq_true rfl
  · split
    · rw [prt2, Bool.or_eq_true, decide_eq_true_eq, decide_eq_true_eq]
      rcases ends_of (T := T) a with h | h
      · exact .inr h.2.symm
      · exact .inl h.2.symm
    · rw [prt1]; exact decide_eq_true rfl
theorem cv_group (hv : validB T = true) {g : Int} (hg : 1 ≤ g ∧ g ≤ 64) : cvB T 3 g = true := by
  have hc : compB T 3 g = true := by
    unfold compB
    rw [if_neg (by decide), if_neg (by decide), if_pos rfl]
    simp only [Bool.and_eq_true, decide_eq_true_eq]
    exact hg
  refine cv_of (by rw [hv, hc]; rfl) fun a d ha hd hp _ hr => ?_
  rw [prt3, decide_eq_true_eq] at hp
  have hgr : grpN T a = g := hp
  have : asmF T a d = (3, g) := by
    unfold asmF
    rw [hgr, hr, if_pos (by rw [decide_eq_true (show (0 : Int) < g by omega)]; rfl)]
  rw [this]
  exact wth_of fun b _ h => h
theorem cv_node (hv : validB T = true) {x : Nat} (hx : (x : Int) < T.nodes) (hno : ∀ i, i < T.links.length → 0 < (lnk T.links i).grp → ¬ ((lnk T.links i).a = (x : Int) ∨ (lnk T.links i).b = (x : Int))) : cvB T 2 x = true := by
  have hc : compB T 2 x = true := by
    unfold compB
    rw [if_neg (by decide), if_pos rfl]
    exact nodeB_iff.2 ⟨by omega, hx⟩
  refine cv_of (by rw [hv, hc]; rfl) fun a d ha hd hp hk hr => ?_
  rw [prt2, Bool.or_eq_true, decide_eq_true_eq, decide_eq_true_eq] at hp
  have ht : tailN T a ≠ (x : Int) := fun e => hk ⟨rfl, e⟩
  have hh : headN T a = (x : Int) := by
    rcases ends_of (T := T) a with h | h
    · rcases hp with e | e
      · exact absurd (h.1.trans e) ht
      · exact h.2.trans e
    · rcases hp with e | e
      · exact h.2.trans e
      · exact absurd (h.1.trans e) ht
  have hg : ¬ 0 < grpN T a := fun h => hno (a / 2) (by omega) h hp
  have hdx : headN T a ≠ (d : Int) := fun e => by
    rw [hh] at e
    have e : x = d := by omega
    subst e
    have hsp : spE T (maskL T 2 x) (tailN T a) x = 0 := of_decide_eq_true hr
    obtain ⟨n, y, h1, h2, hP⟩ := pth_of hsp ht
    have e2 : x = y := by omega
    subst e2
    obtain ⟨b, hb, hdn, hhb⟩ := hP.sp.ch.last hP.ne
    rw [mask_bit hb, prt2, Bool.or_eq_false_iff, decide_eq_false_iff_not, decide_eq_false_iff_not] at hdn
    rcases ends_of (T := T) b with h | h
    · exact hdn.2 (h.2.symm.trans hhb)
    · exact hdn.1 (h.2.symm.trans hhb)
  have : asmF T a d = (2, (x : Int)) := by
    unfold asmF
    rw [decide_eq_false hg, Bool.false_and, if_neg (by simp), hh, hr, decide_eq_true (by rw [← hh]; exact hdx)]
    rfl
  rw [this]
  exact wth_of fun b _ h => h
/-- Whether a link that has a group ends at the node, as far as the link i. -/
def grB (T : Topo) (k x : Int) (i : Nat) : Bool := (List.range i).any fun j => (decide (k = 2) && decide (0 < (lnk T.links j).grp)) && (decide ((lnk T.links j).a = x) || decide ((lnk T.links j).b = x))
theorem grB_step (k x : Int) (i : Nat) : grB T k x (i + 1) = (grB T k x i || ((decide (k = 2) && decide (0 < (lnk T.links i).grp)) && (decide ((lnk T.links i).a = x) || decide ((lnk T.links i).b = x)))) := by
  unfold grB
  rw [List.range_succ, List.any_append]
  simp
theorem cv_mem (hv : validB T = true) {c : Int × Int} (hc : c ∈ alC T 64) (hg : grB T c.1 c.2 T.links.length = false) : cvB T c.1 c.2 = true := by
  rcases alC_mem hc with ⟨j, h, rfl⟩ | ⟨j, h, rfl⟩ | ⟨j, h, rfl⟩
  · exact cv_link hv h
  · refine cv_node hv (by omega) fun i hi h1 h2 => ?_
    rw [Bool.eq_false_iff] at hg
    refine hg (List.any_eq_true.2 ⟨i, List.mem_range.2 hi, ?_⟩)
    rw [decide_eq_true (show ((2 : Int), (j : Int)).1 = 2 from rfl), decide_eq_true h1]
    simpa using h2
  · exact cv_group hv ⟨by omega, by omega⟩
theorem cv_none : cvB T 0 0 = false := by
  have hc : compB T 0 0 = false := by
    unfold compB
    rw [if_neg (by decide), if_neg (by decide), if_neg (by decide)]
  unfold cvB
  rw [hc, Bool.and_false, Bool.false_and]
end
theorem comps_drop (l : List (Int × Int)) (i : Nat) (c : Int × Int) (h : l[i]? = some c) : ((compsP l).drop (i * 2)).take 2 = compP c.1 c.2 := flat_drop (fun c : Int × Int => compP c.1 c.2) 2 (fun _ => rfl) l i c h
set_option maxRecDepth 10000 in
set_option maxHeartbeats 1000000 in
theorem lawRCovered_can (T : Topo) : Can Tryz.prog 12 [topoV T] (· = flag true) := by
  obtain ⟨w1, hw1⟩ : ∃ q, q = true := ⟨_, rfl⟩
  have haw : Can Tryz.prog 33 [] (· = flag w1) := hw1 ▸ awake29_can
  obtain ⟨w2, hw2⟩ : ∃ q, tooBig T = q := ⟨_, rfl⟩
  refine can_of Tryz.func12 rfl Tryz.ntmps12 rfl ?_
  refine W_cs (.a 2 rfl <| .k [1] rfl) ?_
  refine W_seq ?_
  refine W_csK 14 (.raw (.bool ((!w1) || w2))) [1] rfl ?_ ?_
  · refine .c rfl (haw) rfl <| .a 2 rfl <| ?_
    cases w1
    · exact .a 3 rfl <| .k [14, 1] rfl
    · exact .a 1 rfl <| .c rfl (hw2 ▸ large29_can T) rfl <| .a 1 rfl <| .k [14, 1] rfl
  refine W_cond rfl (fun hc => ?_) (fun hc => ?_)
  · skip
    refine W_cs (.c rfl (awake29_can) rfl <| .a 1 rfl <| .k [2] rfl) ?_
    refine W_ret ?_
    exact ⟨_, _, ResL.of rfl, Pur.pure, rfl⟩
  · have hy : tooBig T = false := by rw [hw2]; exact (Bool.or_eq_false_iff.1 hc).2
    obtain ⟨s1, s2⟩ := not_big hy
    have hall := rall_can T
    have hmem : ∀ c ∈ (if validB T then alC T 64 else []), grB T c.1 c.2 T.links.length = false → cvB T c.1 c.2 = true := fun c hc => by
      cases hv : validB T with
      | false => rw [hv, if_neg (by simp)] at hc; cases hc
      | true => rw [hv, if_pos rfl] at hc; exact cv_mem hv hc
    have hlen : (if validB T then alC T 64 else []).length ≤ 1000 := by
      split
      · have := alC_len T 64; omega
      · simp
    obtain ⟨l, hl⟩ : ∃ l, (if validB T then alC T 64 else []) = l := ⟨_, rfl⟩
    rw [hl] at hall hmem hlen
    have h0 := pcov_can T 0 0
    rw [cv_none] at h0
    have hgs := fun k x i => grB_step (T := T) k x i
    clear hw1 haw hc
    refine W_skip ?_
    refine W_cs (.a 1 rfl <| .c rfl (hall) rfl <| .a 1 rfl <| .k [1, 3] rfl) ?_
    refine W_seq ?_
    refine W_cs (.a 3 rfl <| .k [1, 18, 19, 20] rfl) ?_
    refine W_block ?_
    refine W_k [1, 18, 19, 20] rfl ?_
    refine W_loop (fun r s => ∃ i, i ≤ l.length ∧ r = l.length - i ∧ s = ⟨[(1, .pin (topoP T) 0), (18, compsV l), (19, num l.length), (20, num i)], []⟩) l.length ⟨0, by omega, by omega, rfl⟩ ?_
    rintro r s ⟨i, hi, rfl, rfl⟩
    refine W_cs (.a 1 rfl <| .k [1, 18, 19, 20, 21] rfl) ?_
    refine W_seq ?_
    refine W_cond rfl (fun h1 => ?_) (fun h1 => ?_)
    · have hlt : i < l.length := by have := tt h1; omega
      have hg1 : l[i]? = some l[i] := List.getElem?_eq_getElem hlt
      have hdr := comps_drop l i _ hg1
      have hcm := hmem _ (List.getElem_mem hlt)
      generalize l[i] = c at hdr hcm
      obtain ⟨k, x⟩ := c
      simp only at hdr hcm
      refine W_skip ?_
      refine W_seq ?_
      refine W_block ?_
      refine W_rs ?_
      refine WR_v (y_ix ((i * 2)) rfl) rfl <| WR_v (y_la rfl (hdr) rfl) rfl <| WR_a 2 rfl <| WR_k [1, 5, 18, 19, 20] rfl ?_
      refine W_cs (.a 1 rfl <| .k [1, 5, 6, 18, 19, 20] rfl) ?_
      refine W_seq ?_
      refine W_cs (.a 4 rfl <| .k [1, 5, 6, 18, 19, 20, 25, 26, 27] rfl) ?_
      refine W_block ?_
      refine W_k [1, 5, 6, 18, 19, 20, 25, 26, 27] rfl ?_
      refine W_loop (fun r s => ∃ j, j ≤ T.links.length ∧ r = T.links.length - j ∧ s = ⟨[(1, .pin (topoP T) 0), (5, .ptr 0 0), (6, flag (grB T k x j)), (18, compsV l), (19, num l.length), (20, num i), (25, .slice T.links.length (lnksP T.links)), (26, num T.links.length), (27, num j)], [some (.cells 27 (compP k x))]⟩) T.links.length ⟨0, by omega, by omega, rfl⟩ ?_
      rintro r s ⟨j, hj, rfl, rfl⟩
      refine W_cs (.a 1 rfl <| .k [1, 5, 6, 18, 19, 20, 25, 26, 27, 28] rfl) ?_
      refine W_seq ?_
      refine W_cond rfl (fun h2 => ?_) (fun h2 => ?_)
      · have hlj : j < T.links.length := by have := tt h2; omega
        have hld := lnk_drop T.links j hlj
        have hgj := hgs k x j
        obtain ⟨g0, hg0⟩ : ∃ q, grB T k x j = q := ⟨_, rfl⟩
        obtain ⟨q1, hq1⟩ : ∃ q, decide (k = 2) = q := ⟨_, rfl⟩
        obtain ⟨q2, hq2⟩ : ∃ q, decide (0 < (lnk T.links j).grp) = q := ⟨_, rfl⟩
        obtain ⟨q3, hq3⟩ : ∃ q, decide ((lnk T.links j).a = x) = q := ⟨_, rfl⟩
        obtain ⟨q4, hq4⟩ : ∃ q, decide ((lnk T.links j).b = x) = q := ⟨_, rfl⟩
        rw [hg0, hq1, hq2, hq3, hq4] at hgj
        rw [hg0]
        obtain ⟨lk, hlk⟩ : ∃ z, lnk T.links j = z := ⟨_, rfl⟩
        rw [hlk] at hld hq2 hq3 hq4
        refine W_skip ?_
        refine W_seq ?_
        refine W_block ?_
        refine W_rs ?_
        refine WR_v (y_ix ((j * 7)) rfl) rfl <| WR_v (y_la rfl (hld) rfl) rfl <| WR_a 2 rfl <| WR_k [1, 5, 6, 8, 18, 19, 20, 25, 26, 27] rfl ?_
        refine W_chainK 6 (.raw (.bool (g0 || ((q1 && q2) && (q3 || q4))))) [1, 5, 18, 19, 20, 25, 26, 27] rfl ?_ ?_
        · refine .a 2 rfl <| ?_
          cases g0
          · refine .a 2 rfl <| .v (y_q rfl (hq1)) rfl <| .a 1 rfl <| ?_
            cases q1
            · exact .a 20 rfl <| .k [6, 1, 5, 18, 19, 20, 25, 26, 27] rfl
            · refine .a 2 rfl <| .v (y_q rfl (hq2)) rfl <| .a 2 rfl <| ?_
              cases q2
              · exact .a 15 rfl <| .k [6, 1, 5, 18, 19, 20, 25, 26, 27] rfl
              · refine .a 4 rfl <| .v (y_q rfl (hq3)) rfl <| .a 1 rfl <| ?_
                cases q3
                · exact .a 4 rfl <| .v (y_q rfl (hq4)) rfl <| .a 4 rfl <| .k [6, 1, 5, 18, 19, 20, 25, 26, 27] rfl
                · exact .a 9 rfl <| .k [6, 1, 5, 18, 19, 20, 25, 26, 27] rfl
          · exact .a 24 rfl <| .k [6, 1, 5, 18, 19, 20, 25, 26, 27] rfl
        refine W_ren [0] (.c 1 <| .c 5 <| .c 6 <| .c 18 <| .c 19 <| .c 20 <| .c 25 <| .c 26 <| .c 27 <| .nil) (.kept rfl (.cells (RenL.c <| RenL.c <| RenL.nil)) <| .nil) rfl rfl ?_
        refine W_chain (.v (y_ar rfl) rfl <| .a 1 rfl <| .k [1, 5, 6, 18, 19, 20, 25, 26, 27] rfl) ?_
        exact ⟨T.links.length - (j + 1), by omega, j + 1, by omega, rfl, by rw [hgj]; rfl⟩
      · have hje : j = T.links.length := by have := ff h2; omega
        subst hje
        obtain ⟨g0, hg0⟩ : ∃ q, grB T k x T.links.length = q := ⟨_, rfl⟩
        rw [hg0] at hcm ⊢
        have hcv := pcov_can T k x
        obtain ⟨cv, hcve⟩ : ∃ q, cvB T k x = q := ⟨_, rfl⟩
        rw [hcve] at hcv hcm
        refine W_exit ?_
        refine W_csK 64 (.raw (.bool ((!g0) && !cv))) [1, 18, 19, 20] rfl ?_ ?_
        · refine .a 3 rfl <| ?_
          cases g0
          · exact .a 2 rfl <| .c rfl (hcv) rfl <| .a 2 rfl <| .k [64, 1, 18, 19, 20] rfl
          · exact .a 5 rfl <| .k [64, 1, 18, 19, 20] rfl
        refine W_cond rfl (fun h3 => ?_) (fun h3 => ?_)
        · obtain ⟨h4, h5⟩ := Bool.and_eq_true_iff.1 h3
          have h4 : g0 = false := by simpa using h4
          rw [hcm h4] at h5
          exact absurd h5 (by decide)
        · refine W_ren [] (.c 1 <| .c 18 <| .c 19 <| .c 20 <| .nil) .nil rfl rfl ?_
          refine W_skip ?_
          refine W_chain (.v (y_ar rfl) rfl <| .a 1 rfl <| .k [1, 18, 19, 20] rfl) ?_
          exact ⟨l.length - (i + 1), by omega, i + 1, by omega, rfl, rfl⟩
    · clear h1
      refine W_exit ?_
      refine W_cs (.a 2 rfl <| .c rfl (h0) rfl <| .a 2 rfl <| .k [2] rfl) ?_
      refine W_ret ?_
      exact ⟨_, _, ResL.of rfl, Pur.pure, rfl⟩
end PW
end Go.Proofs.YtbpgndbjbaoolaaGreat

namespace Go.Proofs.YtbpgndbjbaoolaaGreat.repairCovered
set_option linter.unusedVariables false
set_option linter.unusedSimpArgs false
open Go.ChangeShapes Go.WideShapes Go.ChangeAt Go.RowKit
open Reg Mem PW

set_option maxRecDepth 100000 in
theorem lifted (os : Os) (started : os.Started) (H : Type) (enc : TypeId × Value → H) :
    ReturnsInHanded {} Tryz.checked os 12 .any (Rows.repairCoveredSpec.pre6 enc Tryz.prog Tryz.f12 Rows.repairCoveredRow.domain false) (Rows.repairCoveredSpec.post enc Tryz.prog Tryz.f12 false true false false) := by
  refine returnsInHanded_of_change (C := Tryz.checked) own started (by kernel_rfl) Tryz.func12
    (ChangeSpec.witness6 (enc := enc) (C := Tryz.checked) false ⟨#[], #[.agg #[.int .i64 0, .slice none 0 0, .slice none 0 0]], []⟩ 8 (by kernel_rfl) (by kernel_rfl) (by kernel_rfl) (by kernel_rfl)) ?_
  intro W base args ds gs before hval0 hW hcnd _
  have hval : ∀ (j : Nat) t v, Tryz.f12.params[j]? = some t → args[j]? = some v → Value.okWide Tryz.prog W .any base t v := hval0
  have hW' := hW
  obtain ⟨p, q, hA0, hV, rfl, hfz, hnd⟩ := hW
  have hA : DataW.TrodAll enc Tryz.prog W 0 (fun _ => true) true Tryz.f12.params.toList args.toList ds p := hA0
  rw [Tryz.params12] at hA hval
  obtain ⟨v0, vs0, d0, ds0, p0, q0, hargs, rfl, rfl, h0, r0⟩ := trodAll_cons hA
  obtain ⟨rfl, rfl, rfl⟩ := trodAll_nil r0
  obtain rfl : args = #[v0] := by cases args; simp_all
  obtain ⟨rfl, rfl⟩ := trodVars_none hV
  have lt0 := lt_of h0
  obtain ⟨T, R0⟩ := rd_topo (hval 0 25 v0 rfl rfl) h0
  clear hA0 hval0
  refine ((lawRCovered_can T) (fun _ => False) W #[v0] (fun _ h => h.elim) (noGlob _ W) (RepL.cons R0 (RepL.nil _ _))).mono fun e W' ⟨x, he, bel, r, hr, hx⟩ => ?_
  subst hr
  cases hx
  subst he
  exact ⟨_, rfl, _, _, _, [], _, [], hW', trodAll_mk1 (shut_bool Tryz.underlying4 _), (trodAll_cons_mk (Below.trod laidOut (by kernel_rfl) (of_decide_eq_true (by kernel_rfl)) h0 bel lt0) trodAll_mk0), rfl, bel.frame _, fun h => by cases h⟩

theorem over : Rows.repairCoveredRow.holds Tryz.pinned (OpenSpec.ofChange Rows.repairCoveredSpec) :=
  OpenClaim.holds_of_wide 12 Tryz.f12 rfl rfl rfl rfl rfl rfl rfl ⟨rfl, rfl, rfl, rfl, rfl⟩ rfl rfl rfl rfl rfl (by kernel_rfl) Tryz.func12 (by kernel_rfl)
    (of_decide_eq_true (by kernel_rfl)) (by unfold Func.isWrapper; first | (rw [if_pos (by decide +kernel)]; kernel_rfl) | (rw [if_neg (by decide +kernel)]; exact ⟨rfl, rfl⟩))
    (fun os started H enc _ => lifted os started H enc)

theorem proved : Rows.RepairCoveredSaid := over
end Go.Proofs.YtbpgndbjbaoolaaGreat.repairCovered
