/- RepairValid returns true for every input: a table in the state Repair is valid, and no entry uses an arc that is down; entries for destinations that are not affected are those before the failure. No conditions. -/
import Derived.Test.YtbpgndbjbaoolaaGreatCardPVB14
/- Tables of the state Repair reckoned, for examples; the ring's. No program in sight. -/
namespace Go.Proofs.YtbpgndbjbaoolaaGreat
set_option linter.unusedVariables false
set_option linter.unusedSimpArgs false
namespace PW
open Go.RowKit Reg Mem Net Rng
namespace Cmp
def mixC (T : Topo) (own : List Bool) (n d : Int) (a : Nat) : List Bool :=
  if spC T (orM T (maskL T (asmC T a d).1 (asmC T a d).2) own) n d = 0 then orM T (maskL T (asmC T a d).1 (asmC T a d).2) own else own
def repC (T : Topo) (own : List Bool) (n d : Nat) : Ent := match hitL own (nextC T [] n d) with
  | none => ⟨nextC T [] n d, false, []⟩
  | some a => entC T (mixC T own n d a.toNat) n d
def chkR (T : Topo) (own : List Bool) (n d : Nat) : Bool := match hitL own (nextC T [] n d) with
  | none => true
  | some a => chk T (maskL T 3 (grpN T a.toNat)) && chk T (maskL T 2 (headN T a.toNat)) && chk T (orM T (maskL T (asmC T a.toNat d).1 (asmC T a.toNat d).2) own) && chk T (mixC T own n d a.toNat)
theorem rep {T : Topo} {own : List Bool} {n d : Nat} (hv : validB T = true) (h0 : chk T [] = true) (hd : (d : Int) < T.nodes) (h : chkR T own n d = true) : repX T own n d = repC T own n d := by
  unfold repX repC
  unfold chkR at h
  rw [next hv h0 hd]
  cases hh : hitL own (nextC T [] n d) with
  | none => rfl
  | some a =>
    rw [hh] at h
    simp only [Bool.and_eq_true] at h
    obtain ⟨⟨⟨h1, h2⟩, h3⟩, h4⟩ := h
    have hm : mixM T own n d a.toNat = mixC T own n d a.toNat := by
      unfold mixM mixC rchB
      rw [asm hv h1 h2, spe hv h3]
      by_cases e : spC T (orM T (maskL T (asmC T a.toNat (d : Int)).1 (asmC T a.toNat (d : Int)).2) own) n d = 0
      · rw [if_pos (by simpa using e), if_pos e]
      · rw [if_neg (by simpa using e), if_neg e]
    simp only []
    rw [hm, ent hv h0 h4]
def repTC (T : Topo) (M : List Bool) (n : Nat) : Tab := ⟨n, (List.range T.nodes.toNat).map fun d => repC T (ownM T M n) n d, downL M (outL T n)⟩
theorem repTab {T : Topo} {M : List Bool} {n : Nat} (hv : validB T = true) (h0 : chk T [] = true) (h : ((List.range T.nodes.toNat).all fun d => chkR T (ownM T M n) n d) = true) : repT T M n = repTC T M n := by
  have hN := (sound_of hv).nodes
  unfold repT repTC repL
  congr 1
  refine List.map_congr_left fun d hd => ?_
  have hd' := List.mem_range.1 hd
  exact rep hv h0 (by omega) (List.all_eq_true.1 h d hd)
end Cmp
def ringR : Tab := ⟨0, [⟨[], false, []⟩, ⟨[7], true, [⟨1, 3⟩, ⟨1, 2⟩, ⟨1, 1⟩]⟩, ⟨[7], true, [⟨1, 3⟩, ⟨1, 2⟩]⟩, ⟨[7], false, []⟩], [0]⟩
theorem ring_rep : repT ringT ringD1 0 = ringR := (Cmp.repTab ring_valid ring_chk0 (by kernel_rfl)).trans (by kernel_rfl)
theorem ring_asm : asmF ringT 0 2 = (2, 1) := (Cmp.asm ring_valid (by kernel_rfl) (by kernel_rfl) 2).trans (by kernel_rfl)
end PW
end Go.Proofs.YtbpgndbjbaoolaaGreat

/- The laws of layer 30, walked: awake, large, Tables. -/
namespace Go.Proofs.YtbpgndbjbaoolaaGreat
set_option linter.unusedVariables false
set_option linter.unusedSimpArgs false
namespace PW
open Go.RowKit Reg Mem Net Rng

def tooBig (T : Topo) : Bool := decide ((10 : Int) < T.nodes) || decide ((16 : Int) < T.links.length)
theorem not_big {T : Topo} (h : tooBig T = false) : T.nodes ≤ 12 ∧ T.links.length ≤ 16 := by
  unfold tooBig at h
  simp only [Bool.or_eq_false_iff, decide_eq_false_iff_not] at h
  omega
theorem rsame_yes (L : List Int) : Can Tryz.prog 25 [intsV L, intsV L] (· = flag true) := by
  have h := rsame_can L L
  rw [show sameB L L = true from decide_eq_true rfl] at h
  exact h
end PW
end Go.Proofs.YtbpgndbjbaoolaaGreat

/- The law TransitionValid, walked. -/
namespace Go.Proofs.YtbpgndbjbaoolaaGreat
set_option linter.unusedVariables false
set_option linter.unusedSimpArgs false
namespace PW
open Go.RowKit Reg Mem Net Rng

theorem rtvalid_yes {T : Topo} {x : Tab} (h : tabOK T x = true) : Can Tryz.prog 24 [topoV T, tabV x] (· = flag true) := by
  have := rtvalid_can T x
  rw [h] at this
  exact this
theorem rup_yes {D : List Bool} {a : Nat} (ha : D.length = 0 ∨ a < D.length) (h : downN D a = false) : Can Tryz.prog 26 [boolsV D, num a] (· = flag true) := by
  have := rup_can D a ha
  rw [h] at this
  exact this
end PW
end Go.Proofs.YtbpgndbjbaoolaaGreat

/- The laws TransitionStable and TransitionLists, walked. -/
namespace Go.Proofs.YtbpgndbjbaoolaaGreat
set_option linter.unusedVariables false
set_option linter.unusedSimpArgs false
namespace PW
open Go.RowKit Reg Mem Net Rng

theorem entB_self (e : Ent) : entB e e = true := by simp [entB, sameB]
theorem rsent_yes (e : Ent) : Can Tryz.prog 29 [entV e, entV e] (· = flag true) := by
  have := rent_can e e
  rw [entB_self] at this
  exact this
end PW
end Go.Proofs.YtbpgndbjbaoolaaGreat

/- The laws of layer 29, walked: awake, large, Entry, Table. -/
namespace Go.Proofs.YtbpgndbjbaoolaaGreat
set_option linter.unusedVariables false
set_option linter.unusedSimpArgs false
namespace PW
open Go.RowKit Reg Mem Net Rng

set_option maxRecDepth 10000 in
set_option maxHeartbeats 1000000 in
theorem large29_can (T : Topo) : Can Tryz.prog 34 [topoV T] (· = flag (tooBig T)) := by
  obtain ⟨q1, h1⟩ : ∃ q, decide ((10 : Int) < T.nodes) = q := ⟨_, rfl⟩
  obtain ⟨q2, h2⟩ : ∃ q, decide ((16 : Int) < T.links.length) = q := ⟨_, rfl⟩
  have he : tooBig T = (q1 || q2) := by unfold tooBig; rw [h1, h2]
  rw [he]
  refine can_of Tryz.func34 rfl Tryz.ntmps34 rfl ?_
  refine W_cs (.a 2 rfl <| .k [1] rfl) ?_
  refine W_csK 2 (.raw (.bool (q1 || q2))) [] rfl ?_ ?_
  · refine .a 2 rfl <| .v (y_q rfl (h1)) rfl <| .a 1 rfl <| ?_
    cases q1
    · exact .a 3 rfl <| .v (y_q rfl (h2)) rfl <| .a 2 rfl <| .k [2] rfl
    · exact .a 6 rfl <| .k [2] rfl
  refine W_ret ?_
  exact ⟨_, _, ResL.of rfl, Pur.pure, rfl⟩
set_option maxRecDepth 10000 in
set_option maxHeartbeats 1000000 in
theorem square29_can : Can Tryz.prog 69 [] (· = topoV ringT) := by
  refine can_of Tryz.func69 rfl Tryz.ntmps69 rfl ?_
  refine W_rs ?_
  refine WR_a 1 rfl <| WR_k [0] rfl ?_
  refine W_rs ?_
  refine WR_a 3 rfl <| WR_k [0, 1] rfl ?_
  refine W_adoptCell 1 2 72 7 rfl rfl ?_
  refine W_seq ?_
  refine W_cs (.a 1 rfl <| .k [0, 1, 4] rfl) ?_
  refine W_block ?_
  refine W_k [0, 1, 4] rfl ?_
  refine W_loop (fun r s => ∃ k, k ≤ 4 ∧ r = 4 - k ∧ s = ⟨[(0, .ptr 0 0), (1, .ptr 1 0), (4, num k)], [some (.cells 25 [num 0, .raw (.slice none 0 0), .raw (.slice none 0 0)]), some (.cells 25 [num 4, .raw (.slice none 0 0), .own 2]), some (.row 72 7 k (lnksP (ringL k)))]⟩) 4 ⟨0, by omega, by omega, rfl⟩ ?_
  rintro r s ⟨k, hk, rfl, rfl⟩
  refine W_cs (.a 1 rfl <| .k [0, 1, 4, 5] rfl) ?_
  refine W_seq ?_
  refine W_cond rfl (fun hc => ?_) (fun hc => ?_)
  · have hlt : k < 4 := by have := of_decide_eq_true hc; omega
    refine W_skip ?_
    refine W_seq ?_
    refine W_block ?_
    refine W_cs (.a 2 rfl <| .k [0, 1, 2, 4] rfl) ?_
    refine W_region ?_
    refine WR_a 4 rfl <| WR_v (y_ar rfl) rfl <| WR_v (y_rem rfl rfl rfl (by decide) ((show ((k : Int) + 1).tmod 4 = (((k + 1) % 4 : Nat) : Int) by rw [Int.tmod_eq_emod_of_nonneg (by omega)]; omega))) rfl <| WR_v (y_build2 rfl (show Tryz.prog.built 70 [(0, .int .i64 1), (1, .int .i64 1)] = some #[.int .i64 1, .int .i64 1] by kernel_rfl)) rfl <| WR_a 2 rfl <| WR_l (l_append rfl (fok.rk.get rfl) rfl rfl rfl rfl (by unfold maxLen; omega)) rfl <| WR_a 2 rfl ?_
    refine WR_ren [0, 1, 3] (.c 0 <| .c 1 <| .c 4 <| .nil) (.kept rfl (.cells (RenL.c <| RenL.c <| RenL.c <| RenL.nil)) <| .kept rfl (.cells (RenL.c <| RenL.c <| RenL.c <| RenL.nil)) <| .kept rfl (.rowP rfl (show _ = lnksP (ringL (k + 1)) by rw [ringL_step]; exact lnksP_snoc _ ⟨(k : Int), (((k + 1) % 4 : Nat) : Int), 1, 1, 0, 1, 0⟩)) <| .nil) rfl rfl (WR_nil ?_)
    refine W_chain (.v (y_ar rfl) rfl <| .a 1 rfl <| .k [0, 1, 4] rfl) ?_
    exact ⟨4 - (k + 1), by omega, k + 1, by omega, rfl, rfl⟩
  · have hke : k = 4 := by have := of_decide_eq_false hc; omega
    subst hke
    refine W_exit ?_
    refine W_rs ?_
    refine WR_a 2 rfl <| WR_k [0] rfl ?_
    refine W_ret ?_
    exact ⟨_, _, ResL.of rfl, Pur.aggL (PurL.cons Pur.pure <| PurL.cons Pur.nils <| PurL.cons (Pur.ownL rfl PurL.pure) PurL.nil), rfl⟩
theorem run_eqCmp (a b c d : Int) (w : World) : (Op.equalIn 10000 27 (.agg #[.int .i64 a, .int .i64 b]) (.agg #[.int .i64 c, .int .i64 d])).run Tryz.prog w = .ok (a == c && b == d) w := by
  have u3 := Tryz.underlying3
  have a3 := Tryz.isAgg3
  have z3 := Tryz.sizeOf3
  have hS : Tryz.prog.underlying 27 = some (.struct (Tryz.prog.fieldsOf 27)) := by kernel_rfl
  rw [show (10000 : Nat) = 9999 + 1 from rfl, run_equalIn_agg w 9999 27 _ _ hS (by kernel_rfl)]
  simp only [Program.fieldsOf, Tryz.underlying27]
  go_simp
  by_cases h1 : a = c <;> by_cases h2 : b = d <;> simp [h1, h2]
theorem rep_cmp {E : Env} {w : World} {v : Value} {k x : Int} (h : Rep E w v (compV k x)) : v = .agg #[.int .i64 k, .int .i64 x] := by
  unfold compV compP at h
  cases h with
  | agg cs _ hl hr =>
    obtain ⟨l⟩ := cs
    match l, hl, hr with
    | [x, y], _, hr =>
      have h0 := rep_raw (hr 0 x _ rfl rfl)
      have h1 := rep_raw (hr 1 y _ rfl rfl)
      subst h0; subst h1; rfl
    | [], hl, _ => simp at hl
    | [_], hl, _ => simp at hl
    | _ :: _ :: _ :: _, hl, _ => simp at hl
theorem y_cmpNeq {σ : Sto} {t : Tms} {o : Oper} {x y : Operand} {tz : TypeId} {a b c d : Int} {q : Bool} (ho : o.op = .binOp .neq 27 x y tz) (hx : evalO t x = some (compV a b)) (hy : evalO t y = some (compV c d)) (hq : (!(a == c && b == d)) = q) : Yield Tryz.prog σ t o (.raw (.bool q)) := by
  intro F base E ρ w hρ _ hT
  have h1 := rep_cmp (evalO_rep hρ hT hx)
  have h2 := rep_cmp (evalO_rep hρ hT hy)
  simp only [execOp, ho, h1, h2, Sem.run_bind, run_eqGuard_agg w _ _ _ _ _ _ (show Tryz.prog.eqGuardType Tryz.prog.depth 27 = false by kernel_rfl), Result.andThen_ok, run_neq_struct, run_eqCmp, Sem.run_pure, hq]
  exact upon_val (.raw _)
set_option maxRecDepth 10000 in
set_option maxHeartbeats 1000000 in
theorem awake29_can : Can Tryz.prog 33 [] (· = flag true) := by
  have hA := prtab_can ringT 1 0 0 (by decide)
  rw [show maskE ringT 1 0 = 0 by kernel_rfl, show nodeB ringT 0 = true by kernel_rfl, if_pos rfl, if_pos rfl, ring_mask, show ((0 : Int).toNat) = 0 from rfl, ring_rep] at hA
  have hB := pcomp_can ringT 0 2 ring_valid (by decide) (by decide)
  rw [show (((2 : Nat) : Int)) = 2 from rfl, ring_asm] at hB
  have ht1 := tlist_can [3, 2, 1] (by decide) (by decide)
  have ht2 := tlist_can [3, 2] (by decide) (by decide)
  refine can_of Tryz.func33 rfl Tryz.ntmps33 rfl ?_
  refine W_cs (.a 1 rfl <| .k [] rfl) ?_
  refine W_rs ?_
  refine WR_c rfl (square29_can) rfl <| WR_v (y_le (y_build (xs := [_, _]) rfl (fok.st.get rfl) rfl rfl) (PLe.refl _)) rfl <| WR_c rfl (hA) rfl <| WR_a 6 rfl <| WR_k [1, 2] rfl ?_
  refine W_rs ?_
  refine WR_c rfl (square29_can) rfl <| WR_c rfl (hB) rfl <| WR_a 6 rfl <| WR_k [1, 2, 3, 4] rfl ?_
  refine W_seq ?_
  refine W_csK 45 (.raw (.bool (false))) [1] rfl ?_ ?_
  · exact .a 21 rfl <| .v (y_ix (0) rfl (by omega) (by decide)) rfl <| .v (y_ld rfl ((show _ = some (num 0) from rfl))) rfl <| .a 5 rfl <| .v (y_cmpNeq (a := 2) (b := 1) (c := 2) (d := 1) rfl rfl rfl (q := false) rfl) rfl <| .a 1 rfl <| .k [45, 1] rfl
  refine W_cond rfl (fun h => ?_) (fun h => ?_)
  · exact absurd h (by decide)
  · clear h
    refine W_skip ?_
    refine W_csK 0 (.raw (.bool (true))) [] rfl ?_ ?_
    · exact .a 2 rfl <| .v (y_ix (3) rfl (by omega) (by decide)) rfl <| .a 1 rfl <| .v (y_ld rfl ((show _ = some (intsV [7]) from rfl))) rfl <| .a 1 rfl <| .c rfl (rsame_yes [7]) rfl <| .a 3 rfl <| .v (y_ix (3) rfl (by omega) (by decide)) rfl <| .a 1 rfl <| .v (y_ld rfl ((show _ = some (segsV (nodeS [3, 2, 1])) from rfl))) rfl <| .c rfl (ht1) rfl <| .v (y_strEql rfl rfl rfl (beq_self_eq_true (ByteArray.toList ⟨[110, 51, 32, 110, 50, 32, 110, 49].toArray⟩))) rfl <| .a 4 rfl <| .v (y_ix (6) rfl (by omega) (by decide)) rfl <| .a 1 rfl <| .v (y_ld rfl ((show _ = some (segsV (nodeS [3, 2])) from rfl))) rfl <| .c rfl (ht2) rfl <| .v (y_strEql rfl rfl rfl (beq_self_eq_true (ByteArray.toList ⟨[110, 51, 32, 110, 50].toArray⟩))) rfl <| .a 4 rfl <| .v (y_ix (9) rfl (by omega) (by decide)) rfl <| .a 1 rfl <| .v (y_ld rfl ((show _ = some (flag false) from rfl))) rfl <| .a 3 rfl <| .k [0] rfl
    refine W_ret ?_
    exact ⟨_, _, ResL.of rfl, Pur.pure, rfl⟩
end PW
end Go.Proofs.YtbpgndbjbaoolaaGreat

/- The reference's affected nodes; the law RepairValid, walked. -/
namespace Go.Proofs.YtbpgndbjbaoolaaGreat
set_option linter.unusedVariables false
set_option linter.unusedSimpArgs false
namespace PW
open Go.RowKit Reg Mem Net Rng

noncomputable def afP (T : Topo) (M : List Bool) (d : Nat) (a : Int) : Bool := downN M a.toNat && onB T [] (distL T [] d false) a.toNat d
noncomputable def afB (T : Topo) (M : List Bool) (n : Int) (d : Nat) : Bool := (outL T n).any (afP T M d)
noncomputable def afTo (T : Topo) (M : List Bool) (n : Int) (k : Nat) : List Int := ((List.range k).filter fun d => afB T M n d).map Int.ofNat
theorem afTo_step (T : Topo) (M : List Bool) (n : Int) (k : Nat) : afTo T M n (k + 1) = afTo T M n k ++ (if afB T M n k then [(k : Int)] else []) := by
  unfold afTo
  rw [List.range_succ, List.filter_append, List.map_append]
  congr 1
  simp only [List.filter_cons, List.filter_nil]
  split <;> simp
theorem afTo_len (T : Topo) (M : List Bool) (n : Int) (k : Nat) : (afTo T M n k).length ≤ k := by
  unfold afTo
  rw [List.length_map]
  exact Nat.le_trans (List.length_filter_le _ _) (by simp)
theorem af_mem {T : Topo} {M : List Bool} {n : Int} {k d : Nat} (hd : d < k) : ((d : Int) ∈ afTo T M n k) ↔ afB T M n d = true := by
  unfold afTo
  rw [List.mem_map]
  constructor
  · rintro ⟨b, hb, e⟩
    have : b = d := by have : (b : Int) = d := e; omega
    subst this
    exact (List.mem_filter.1 hb).2
  · intro h
    exact ⟨d, List.mem_filter.2 ⟨List.mem_range.2 hd, h⟩, rfl⟩
theorem any_step {p : Int → Bool} {o : List Int} {i : Nat} (hi : i < o.length) : (o.take (i + 1)).any p = ((o.take i).any p || p (o.getD i 0)) := by
  rw [take_step o i 0 hi, List.any_append]
  simp
theorem rchk26_can (T : Topo) (M : List Bool) (n : Int) : Can Tryz.prog 81 [topoV T, boolsV M, num n] (· = num (chkE T M [n])) := by
  obtain ⟨q0, hq0⟩ : ∃ q, (validB T && fitsB T M) = q := ⟨_, rfl⟩
  obtain ⟨q1, hq1⟩ : ∃ q, decide (n < 0) = q := ⟨_, rfl⟩
  obtain ⟨q2, hq2⟩ : ∃ q, decide (T.nodes ≤ n) = q := ⟨_, rfl⟩
  have hnb : nodeB T n = !(q1 || q2) := by rw [← hq1, ← hq2]; unfold nodeB; by_cases h1 : n < 0 <;> by_cases h2 : T.nodes ≤ n <;> simp [h1, h2] <;> omega
  have hE : chkE T M [n] = if q0 = true then (if (q1 || q2) = true then 2 else 0) else 1 := by
    unfold chkE
    simp only [List.all_cons, List.all_nil, Bool.and_true, hnb, hq0]
    cases q0 <;> cases q1 <;> cases q2 <;> rfl
  rw [hE]
  refine can_of Tryz.func81 rfl Tryz.ntmps81 rfl ?_
  refine W_cs (.a 2 rfl <| .k [1, 2, 3] rfl) ?_
  refine W_seq ?_
  refine W_block ?_
  refine W_cs (.a 2 rfl <| .c rfl (hq0 ▸ rfits_can T M) rfl <| .a 2 rfl <| .k [2, 3, 7] rfl) ?_
  refine W_cond rfl (fun h1 => ?_) (fun h1 => ?_)
  · have h1 : q0 = false := by simpa using h1
    rw [h1]
    refine W_cs (.a 1 rfl <| .k [6] rfl) ?_
    refine W_ret ?_
    exact ⟨_, _, ResL.of rfl, Pur.pure, rfl⟩
  · have h1 : q0 = true := by simpa using h1
    rw [h1, if_pos rfl]
    refine W_csK 12 (.raw (.bool (q1 || q2))) [] rfl ?_ ?_
    · refine .a 1 rfl <| .v (y_q rfl (hq1)) rfl <| .a 1 rfl <| ?_
      cases q1
      · exact .a 3 rfl <| .v (y_q rfl (hq2)) rfl <| .a 2 rfl <| .k [12] rfl
      · exact .a 6 rfl <| .k [12] rfl
    refine W_cond rfl (fun h2 => ?_) (fun h2 => ?_)
    · rw [if_pos h2]
      refine W_cs (.a 1 rfl <| .k [6] rfl) ?_
      refine W_ret ?_
      exact ⟨_, _, ResL.of rfl, Pur.pure, rfl⟩
    · rw [if_neg (by rw [h2]; simp)]
      refine W_skip ?_
      refine W_cs (.a 1 rfl <| .k [6] rfl) ?_
      refine W_ret ?_
      exact ⟨_, _, ResL.of rfl, Pur.pure, rfl⟩
set_option maxRecDepth 10000 in
set_option maxHeartbeats 1000000 in
theorem raff_can (T : Topo) (M : List Bool) (n : Int) (hc : chkE T M [n] = 0) : Can Tryz.prog 39 [topoV T, boolsV M, num n] (· = .tuple [intsV (afTo T M n T.nodes.toNat), num 0]) := by
  obtain ⟨hv, hf, hn⟩ := chkE_zero hc
  have hck := rchk26_can T M n
  rw [hc] at hck
  have hN := (sound_of hv).nodes
  have hll := links_le hv
  obtain ⟨N, hNN⟩ : ∃ N : Nat, T.nodes = (N : Int) := ⟨T.nodes.toNat, by omega⟩
  have hNt : T.nodes.toNat = N := by omega
  rw [hNt]
  have hol : (outL T n).length ≤ 512 := Nat.le_trans (outTo_len T n _) (by omega)
  have hom : ∀ a ∈ outL T n, ∃ k : Nat, a = (k : Int) ∧ k < 2 * T.links.length := fun a ha => by
    obtain ⟨h0, h1⟩ := outL_mem ha
    obtain ⟨k, rfl⟩ := Int.eq_ofNat_of_zero_le h0
    exact ⟨k, rfl, by omega⟩
  have hst := fun k => afTo_step T M n k
  have hlen := fun k => afTo_len T M n k
  obtain ⟨o, ho⟩ : ∃ o, outL T n = o := ⟨_, rfl⟩
  have hro := rout_can T hv n
  rw [ho] at hro hol hom
  have haf : ∀ k : Nat, afB T M n k = o.any (afP T M k) := fun k => by rw [← ho]; rfl
  refine can_of Tryz.func39 rfl Tryz.ntmps39 rfl ?_
  refine W_cs (.a 3 rfl <| .k [1, 2, 3] rfl) ?_
  refine W_cs (.a 3 rfl <| .c rfl (hck) rfl <| .a 1 rfl <| .k [1, 2, 3, 8] rfl) ?_
  refine W_seq ?_
  refine W_cs (.a 2 rfl <| .k [1, 2, 3, 8, 21] rfl) ?_
  refine W_cond rfl (fun h1 => ?_) (fun h1 => ?_)
  · exact absurd h1 (by decide)
  · clear h1
    refine W_skip ?_
    refine W_cs (.a 1 rfl <| .k [1, 2, 3, 9] rfl) ?_
    refine W_adopt 9 3 1 rfl ?_
    refine W_cs (.a 2 rfl <| .c rfl (hro) rfl <| .a 1 rfl <| .k [1, 3, 9, 10] rfl) ?_
    refine W_seq ?_
    refine W_cs (.a 1 rfl <| .k [1, 3, 9, 10, 11] rfl) ?_
    refine W_block ?_
    refine W_k [1, 3, 9, 10, 11] rfl ?_
    refine W_loop (fun r s => ∃ d, d ≤ N ∧ r = N - d ∧ s = ⟨[(1, boolsV M), (3, .pin (topoP T) 0), (9, .own 0), (10, intsV o), (11, num d)], [some (.row 3 1 (afTo T M n d).length (intsP (afTo T M n d)))]⟩) N ⟨0, by omega, by omega, rfl⟩ ?_
    rintro r s ⟨d, hd, rfl, rfl⟩
    refine W_seq ?_
    refine W_cs (.a 2 rfl <| .v (y_ld rfl ((show some (num T.nodes) = some (num (N : Int)) by rw [hNN]))) rfl <| .a 1 rfl <| .k [1, 3, 9, 10, 11, 29] rfl) ?_
    refine W_cond rfl (fun h1 => ?_) (fun h1 => ?_)
    · have hlt : d < N := by have := tt h1; omega
      have hdd : (d : Int) < T.nodes := by omega
      have hcd : chkE T [] [(d : Int)] = 0 := by
        unfold chkE
        rw [hv, fits_nil]
        simp [nodeB_iff.2 (show 0 ≤ (d : Int) ∧ (d : Int) < T.nodes by omega)]
      have hrd := rdist_can T [] (d : Int)
      rw [hcd, Int.toNat_natCast] at hrd
      unfold intsE at hrd
      rw [if_pos rfl] at hrd
      obtain ⟨hb1, hb2⟩ := distL_bound (D := []) hv (dir := false) hdd
      have hstd := hst d
      have hlend := hlen d
      have hafd := haf d
      have hP : ∀ a, afP T M d a = (downN M a.toNat && onB T [] (distL T [] d false) a.toNat d) := fun _ => rfl
      obtain ⟨L, hL⟩ : ∃ L, distL T [] d false = L := ⟨_, rfl⟩
      rw [hL] at hrd hb1 hb2
      simp only [hL] at hP
      clear h1
      refine W_skip ?_
      refine W_seq ?_
      refine W_block ?_
      refine W_cs (.a 2 rfl <| .v (y_cP rfl (PurL.cons Pur.pure <| PurL.cons Pur.nils <| PurL.cons Pur.pure PurL.nil) (hrd)) rfl <| .a 5 rfl <| .k [1, 3, 9, 10, 11, 12] rfl) ?_
      refine W_cs (.a 1 rfl <| .k [1, 3, 9, 10, 11, 12, 14] rfl) ?_
      refine W_seq ?_
      refine W_cs (.a 1 rfl <| .k [1, 3, 9, 10, 11, 12, 14, 15] rfl) ?_
      refine W_block ?_
      refine W_k [1, 3, 9, 10, 11, 12, 14, 15] rfl ?_
      refine W_loop (fun r s => ∃ i, i ≤ o.length ∧ r = o.length - i ∧ s = ⟨[(1, boolsV M), (3, .pin (topoP T) 0), (9, .own 0), (10, intsV o), (11, num d), (12, intsV L), (14, flag ((o.take i).any (afP T M d))), (15, num i)], [some (.row 3 1 (afTo T M n d).length (intsP (afTo T M n d)))]⟩) o.length ⟨0, by omega, by omega, rfl⟩ ?_
      rintro r s ⟨i, hi, rfl, rfl⟩
      refine W_seq ?_
      refine W_cs (.a 4 rfl <| .k [1, 3, 9, 10, 11, 12, 14, 15, 41] rfl) ?_
      refine W_cond rfl (fun h2 => ?_) (fun h2 => ?_)
      · have hli : i < o.length := by have := tt h2; omega
        obtain ⟨k, hk, hkl⟩ := hom _ (getD_mem (d := 0) hli)
        have hs2 := any_step (p := afP T M d) hli
        rw [hk, hP, Int.toNat_natCast] at hs2
        obtain ⟨q1, hq1⟩ : ∃ q, (o.take i).any (afP T M d) = q := ⟨_, rfl⟩
        obtain ⟨q2, hq2⟩ : ∃ q, downN M k = q := ⟨_, rfl⟩
        obtain ⟨q3, hq3⟩ : ∃ q, onB T [] L k d = q := ⟨_, rfl⟩
        rw [hq1, hq2, hq3] at hs2
        rw [hq1]
        have hup := rup_can M k (by simp only [fitsB, decide_eq_true_eq] at hf; omega)
        rw [hq2] at hup
        have hon := on_can T [] L k d hv (fits_nil T) hb1 hb2 hkl
        rw [hq3] at hon
        refine W_skip ?_
        refine W_seq ?_
        refine W_block ?_
        refine W_drK mixed (by kernel_rfl) 14 (.raw (.bool (q1 || (q2 && q3)))) [1, 3, 9, 10, 11, 12, 15] rfl ?_ ?_
        · refine .a 2 rfl <| ?_
          cases q1
          · refine .a 3 rfl <| .v [47, 48] (y_ix (i) rfl) rfl rfl <| .v [49] (y_ld rfl ((ints_get o i hli).trans (by rw [hk]))) rfl rfl <| .v [46, 50] (y_c rfl (hup)) rfl rfl <| .v [51] (y_q rfl ((Bool.not_not q2))) rfl rfl <| .a 1 rfl <| ?_
            cases q2
            · exact .a 11 rfl <| .k [14, 1, 3, 9, 10, 11, 12, 15] rfl
            · exact .a 4 rfl <| .v [56, 57] (y_ix (i) rfl) rfl rfl <| .v [58] (y_ld rfl ((ints_get o i hli).trans (by rw [hk]))) rfl rfl <| .a 1 rfl <| .v [54, 55, 59, 60] (y_cP rfl (PurL.cons Pur.pure <| PurL.cons Pur.nils <| PurL.cons Pur.pure <| PurL.cons Pur.pure <| PurL.cons Pur.pure PurL.nil) (hon)) rfl rfl <| .a 3 rfl <| .k [14, 1, 3, 9, 10, 11, 12, 15] rfl
          · exact .a 19 rfl <| .k [14, 1, 3, 9, 10, 11, 12, 15] rfl
        refine W_chain (.a 1 rfl <| .v (y_ar rfl) rfl <| .a 1 rfl <| .k [1, 3, 9, 10, 11, 12, 14, 15] rfl) ?_
        exact ⟨o.length - (i + 1), by omega, i + 1, by omega, rfl, by rw [hs2]; rfl⟩
      · have hie : i = o.length := by have := ff h2; omega
        subst hie
        rw [List.take_length, ← hafd]
        obtain ⟨q, hq⟩ : ∃ q, afB T M n d = q := ⟨_, rfl⟩
        rw [hq] at hstd ⊢
        refine W_exit ?_
        refine W_cs (.a 1 rfl <| .k [1, 3, 9, 10, 11, 64] rfl) ?_
        refine W_cond rfl (fun h3 => ?_) (fun h3 => ?_)
        · subst h3
          rw [if_pos rfl] at hstd
          refine W_region ?_
          refine WR_a 3 rfl <| WR_l (l_append rfl (fok.rk.get rfl) rfl rfl rfl rfl (by unfold maxLen; omega)) rfl <| WR_a 1 rfl ?_
          refine WR_ren [1] (.c 1 <| .c 3 <| .c 9 <| .c 10 <| .c 11 <| .nil) (.kept rfl (.rowP rfl (intsP_snoc _ _)) <| .nil) rfl rfl (WR_nil ?_)
          refine W_chain (.a 1 rfl <| .v (y_ar rfl) rfl <| .a 1 rfl <| .k [1, 3, 9, 10, 11] rfl) ?_
          refine ⟨N - (d + 1), by omega, d + 1, by omega, rfl, ?_⟩
          rw [hstd]
          first
            | rfl
            | (simp only [List.length_append, List.length_singleton]; rfl)
        · subst h3
          rw [if_neg (by simp), List.append_nil] at hstd
          refine W_skip ?_
          refine W_chain (.a 1 rfl <| .v (y_ar rfl) rfl <| .a 1 rfl <| .k [1, 3, 9, 10, 11] rfl) ?_
          refine ⟨N - (d + 1), by omega, d + 1, by omega, rfl, ?_⟩
          rw [hstd]
          first
            | rfl
            | (simp only [List.length_append, List.length_singleton]; rfl)
    · have hde : d = N := by have := ff h1; omega
      subst hde
      refine W_exit ?_
      refine W_cs (.a 3 rfl <| .k [6, 7] rfl) ?_
      refine W_ret ?_
      exact ⟨_, _, ResL.of rfl, Pur.tupleL (PurL.cons (Pur.ownL rfl PurL.pure) (PurL.cons Pur.pure PurL.nil)), rfl⟩
/-- A node that is not affected keeps its entry. -/
theorem rep_same {T : Topo} {M : List Bool} {n d : Nat} (hv : validB T = true) (hn : (n : Int) < T.nodes) (h : afB T M n d = false) : repX T (ownM T M n) n d = ⟨nextL T [] n d, false, []⟩ := by
  unfold repX
  have hh : hitL (ownM T M n) (nextL T [] n d) = none := by
    cases hx : hitL (ownM T M n) (nextL T [] n d) with
    | none => rfl
    | some a =>
      exfalso
      obtain ⟨h1, h2⟩ := hit_some hx
      obtain ⟨k, rfl, hk⟩ := next_mem h1
      rw [Int.toNat_natCast, own_down] at h2
      simp only [Bool.and_eq_true, decide_eq_true_eq] at h2
      have hm := h1
      rw [← next_same T [] n d hv hn] at hm
      unfold rnextTo at hm
      obtain ⟨b, hb, e⟩ := List.mem_map.1 hm
      have : b = k := by have : (b : Int) = k := e; omega
      subst this
      have h3 := (List.mem_filter.1 hb).2
      rw [Bool.and_eq_true] at h3
      unfold afB at h
      rw [Bool.eq_false_iff] at h
      exact h (List.any_eq_true.2 ⟨(b : Int), outL_iff.2 ⟨arcB_iff.2 ⟨by omega, by omega⟩, by rw [Int.toNat_natCast]; exact h2.2.2⟩, by unfold afP; rw [Int.toNat_natCast, h2.2.1, h3.2]; rfl⟩)
  rw [hh]
set_option maxRecDepth 10000 in
set_option maxHeartbeats 1000000 in
theorem lawRValid_can (c : Q29) : Can Tryz.prog 9 [q29V c] (· = flag true) := by
  obtain ⟨w1, hw1⟩ : ∃ q, q = true := ⟨_, rfl⟩
  have haw : Can Tryz.prog 33 [] (· = flag w1) := hw1 ▸ awake29_can
  obtain ⟨w2, hw2⟩ : ∃ q, tooBig c.T = q := ⟨_, rfl⟩
  refine can_of Tryz.func9 rfl Tryz.ntmps9 rfl ?_
  refine W_cs (.a 2 rfl <| .k [1] rfl) ?_
  refine W_seq ?_
  refine W_csK 20 (.raw (.bool ((!w1) || w2))) [1] rfl ?_ ?_
  · refine .c rfl (haw) rfl <| .a 2 rfl <| ?_
    cases w1
    · exact .a 4 rfl <| .k [20, 1] rfl
    · exact .a 2 rfl <| .c rfl (hw2 ▸ large29_can c.T) rfl <| .a 1 rfl <| .k [20, 1] rfl
  refine W_cond rfl (fun hc => ?_) (fun hc => ?_)
  · skip
    refine W_cs (.c rfl (awake29_can) rfl <| .a 1 rfl <| .k [2] rfl) ?_
    refine W_ret ?_
    exact ⟨_, _, ResL.of rfl, Pur.pure, rfl⟩
  · have hy : tooBig c.T = false := by rw [hw2]; exact (Bool.or_eq_false_iff.1 hc).2
    obtain ⟨s1, s2⟩ := not_big hy
    have hA := prtab_can c.T c.k c.x c.n s1
    unfold tabE at hA
    have he1 : (if maskE c.T c.k c.x = 0 then (if nodeB c.T c.n = true then (0 : Int) else 2) else 1) = trnE c.T c.k c.x c.n := rfl
    rw [he1] at hA
    obtain ⟨e, he⟩ : ∃ e, trnE c.T c.k c.x c.n = e := ⟨_, rfl⟩
    rw [he] at hA
    obtain ⟨tA, htA⟩ : ∃ x, (if e = 0 then repT c.T (maskL c.T c.k c.x) c.n.toNat else ⟨0, [], []⟩) = x := ⟨_, rfl⟩
    rw [htA] at hA
    refine W_skip ?_
    refine W_rs ?_
    refine WR_a 6 rfl <| WR_c rfl (hA) rfl <| WR_a 6 rfl <| WR_k [1, 3, 4] rfl ?_
    refine W_seq ?_
    refine W_cs (.a 2 rfl <| .k [1, 3, 33] rfl) ?_
    refine W_cond rfl (fun h1 => ?_) (fun h1 => ?_)
    · have h1 := tt h1
      rw [if_neg h1] at htA
      subst htA
      refine W_cs (.a 3 rfl <| .v (y_q rfl (show decide (((([] : List Ent).length : Nat) : Int) = 0) = true from rfl)) rfl <| .a 1 rfl <| .k [2] rfl) ?_
      refine W_ret ?_
      exact ⟨_, _, ResL.of rfl, Pur.pure, rfl⟩
    · have he0 : e = 0 := Classical.byContradiction (ff h1)
      subst he0
      rw [if_pos rfl] at htA
      obtain ⟨hm, hn⟩ := trnE_zero he
      obtain ⟨hv, hcp⟩ := Bool.and_eq_true_iff.1 hm
      rw [nodeB_iff] at hn
      obtain ⟨m, hm'⟩ := Int.eq_ofNat_of_zero_le hn.1
      rw [hm', Int.toNat_natCast] at htA
      have hmN : (m : Int) < c.T.nodes := by omega
      have hN := (sound_of hv).nodes
      obtain ⟨N, hNN⟩ : ∃ N : Nat, c.T.nodes = (N : Int) := ⟨c.T.nodes.toNat, by omega⟩
      have hNt : c.T.nodes.toNat = N := by omega
      have hmk := rmask_can c.T c.k c.x
      have hm0 : maskE c.T c.k c.x = 0 := by unfold maskE; rw [if_pos hm]
      unfold boolsE at hmk
      rw [hm0, if_pos rfl] at hmk
      have hmf := mask_fits c.T c.k c.x
      have hMl := maskL_len c.T c.k c.x
      obtain ⟨M, hM⟩ : ∃ M, maskL c.T c.k c.x = M := ⟨_, rfl⟩
      rw [hM] at hmk hmf hMl htA
      have hch : chkE c.T M [c.n] = 0 := by
        unfold chkE
        rw [hv, hmf, hm']
        simp [nodeB_iff.2 (show 0 ≤ (m : Int) ∧ (m : Int) < c.T.nodes by omega)]
      have hch0 : chkE c.T [] [c.n] = 0 := by
        unfold chkE
        rw [hv, fits_nil, hm']
        simp [nodeB_iff.2 (show 0 ≤ (m : Int) ∧ (m : Int) < c.T.nodes by omega)]
      have haf := raff_can c.T M c.n hch
      rw [hNt] at haf
      have hrr := rroutes_can c.T [] c.n
      rw [routesE_tab, hch0, hm', Int.toNat_natCast] at hrr
      unfold tabE at hrr
      rw [if_pos rfl, ← hm'] at hrr
      obtain ⟨tB, htB⟩ : ∃ x, routesT c.T [] m = x := ⟨_, rfl⟩
      rw [htB] at hrr
      have hvA : tabOK c.T tA = true := by rw [← htA]; exact rep_valid hv s1 hmN
      have hlA : tA.ents.length = N := by rw [← htA]; show (repL c.T (ownM c.T M m) m c.T.nodes.toNat).length = N; rw [repL_len, hNt]
      have hlB : tB.ents.length = N := by rw [← htB]; show (toL c.T [] m c.T.nodes.toNat).length = N; rw [toL_len, hNt]
      have hgA : ∀ d, d < N → tA.ents[d]? = some (repX c.T (ownM c.T M m) m d) := fun d hd => by rw [← htA]; show (repL c.T (ownM c.T M m) m c.T.nodes.toNat)[d]? = _; rw [hNt]; exact repL_get hd
      have hgB : ∀ d, d < N → tB.ents[d]? = some ⟨nextL c.T [] m d, false, []⟩ := fun d hd => by rw [← htB]; show (toL c.T [] m c.T.nodes.toNat)[d]? = _; rw [hNt]; exact toL_get hd
      have halen := afTo_len c.T M c.n N
      clear h1 hw1 hw2 haw hy hc hA
      refine W_skip ?_
      refine W_cs (.a 4 rfl <| .c rfl (hmk) rfl <| .a 5 rfl <| .k [1, 3, 5] rfl) ?_
      refine W_cs (.a 5 rfl <| .c rfl (haf) rfl <| .a 5 rfl <| .k [1, 3, 5, 7] rfl) ?_
      refine W_rs ?_
      refine WR_a 4 rfl <| WR_v (y_cP rfl (PurL.cons Pur.pure <| PurL.cons Pur.nils <| PurL.cons Pur.pure PurL.nil) (hrr)) rfl <| WR_a 6 rfl <| WR_k [1, 3, 5, 7, 9] rfl ?_
      refine W_seq ?_
      refine W_cs (.a 3 rfl <| .c rfl (rtvalid_yes hvA) rfl <| .a 1 rfl <| .k [3, 5, 7, 9, 67] rfl) ?_
      refine W_cond rfl (fun h => ?_) (fun h => ?_)
      · exact absurd h (by decide)
      · clear h
        refine W_skip ?_
        refine W_seq ?_
        refine W_cs (.a 4 rfl <| .k [3, 5, 7, 9, 70, 71] rfl) ?_
        refine W_block ?_
        refine W_k [3, 5, 7, 9, 70, 71] rfl ?_
        refine W_loop (fun r s => ∃ d, d ≤ N ∧ r = N - d ∧ s = ⟨[(3, .ptr 0 0), (5, boolsV M), (7, intsV (afTo c.T M c.n N)), (9, .ptr 1 0), (70, num tA.ents.length), (71, num d)], [some (.cells 35 (tabP tA)), some (.cells 35 (tabP tB))]⟩) N ⟨0, by omega, by omega, rfl⟩ ?_
        rintro r s ⟨d, hd, rfl, rfl⟩
        refine W_cs (.a 1 rfl <| .k [3, 5, 7, 9, 70, 71, 72] rfl) ?_
        refine W_seq ?_
        refine W_cond rfl (fun h1 => ?_) (fun h1 => ?_)
        · have hlt : d < N := by have := tt h1; omega
          have hb1 := hgA d hlt
          have hb2 := hgB d hlt
          have harcs := rep_arcs (M := M) (n := m) (d := d) hv hmN (by omega)
          have hsame := rep_same (M := M) (n := m) (d := d) hv hmN
          obtain ⟨x, hx⟩ : ∃ x, repX c.T (ownM c.T M m) m d = x := ⟨_, rfl⟩
          rw [hx] at hb1 harcs hsame
          obtain ⟨y, hyy⟩ : ∃ y, (⟨nextL c.T [] m d, false, []⟩ : Ent) = y := ⟨_, rfl⟩
          rw [hyy] at hb2 hsame
          have g1 : ((entsP tA.ents))[d * 3]? = some (intsV x.arcs) := (ents_get _ d 0 _ hb1 (by omega)).trans rfl
          have g5 := ents_drop _ d _ hb1
          have g6 := ents_drop _ d _ hb2
          have hvx : entOK c.T m d x = true := by rw [← hx]; exact rep_ok hv s1
          have hxl : x.arcs.length ≤ 512 := by
            rw [← hx]
            unfold repX
            have hnl := nextL_len hv [] m d
            cases hitL (ownM c.T M m) (nextL c.T [] m d) with
            | none => exact hnl
            | some a =>
              show (entX _ _ _ _).arcs.length ≤ 512
              rcases ent_cases c.T (mixM c.T (ownM c.T M m) m d a.toNat) m d with ⟨h, _⟩ | ⟨_, _, _, _, _, h⟩ <;> rw [h] <;> simp
          obtain ⟨q, hq⟩ : ∃ q, decide ((d : Int) ∈ afTo c.T M c.n N) = q := ⟨_, rfl⟩
          have hhas := has_can (afTo c.T M c.n N) (d : Int) (by omega)
          rw [hq] at hhas
          have hxy : q = false → x = y := fun e => by
            rw [e] at hq
            have h := ff hq
            rw [af_mem hlt, Bool.not_eq_true, hm'] at h
            exact hsame h
          refine W_skip ?_
          refine W_seq ?_
          refine W_block ?_
          refine W_cs (.a 2 rfl <| .k [3, 5, 7, 9, 11, 70, 71] rfl) ?_
          refine W_seq ?_
          refine W_cs (.a 3 rfl <| .v (y_ix ((d * 3)) rfl) rfl <| .a 1 rfl <| .v (y_ld rfl (g1)) rfl <| .a 2 rfl <| .k [3, 5, 7, 9, 11, 70, 71, 79, 80, 81] rfl) ?_
          refine W_block ?_
          refine W_k [3, 5, 7, 9, 11, 70, 71, 79, 80, 81] rfl ?_
          refine W_loop (fun r s => ∃ i, i ≤ x.arcs.length ∧ r = x.arcs.length - i ∧ s = ⟨[(3, .ptr 0 0), (5, boolsV M), (7, intsV (afTo c.T M c.n N)), (9, .ptr 1 0), (11, num d), (70, num tA.ents.length), (71, num d), (79, intsV x.arcs), (80, num x.arcs.length), (81, num i)], [some (.cells 35 (tabP tA)), some (.cells 35 (tabP tB))]⟩) x.arcs.length ⟨0, by omega, by omega, rfl⟩ ?_
          rintro r s ⟨i, hi, rfl, rfl⟩
          refine W_cs (.a 1 rfl <| .k [3, 5, 7, 9, 11, 70, 71, 79, 80, 81, 82] rfl) ?_
          refine W_seq ?_
          refine W_cond rfl (fun h1 => ?_) (fun h1 => ?_)
          · have hli : i < x.arcs.length := by have := tt h1; omega
            obtain ⟨b1, b2, b3⟩ := harcs _ (getD_mem (d := 0) hli)
            rw [arcB_iff] at b1
            obtain ⟨k, hk⟩ := Int.eq_ofNat_of_zero_le b1.1
            rw [hk, Int.toNat_natCast] at b3
            refine W_skip ?_
            refine W_seq ?_
            refine W_block ?_
            refine W_cs (.v (y_ix (i) rfl) rfl <| .v (y_ld rfl ((ints_get _ i hli).trans (by rw [hk]))) rfl <| .a 1 rfl <| .k [3, 5, 7, 9, 11, 13, 70, 71, 79, 80, 81] rfl) ?_
            refine W_cs (.a 2 rfl <| .c rfl (rup_yes (.inr (by omega)) b3) rfl <| .a 1 rfl <| .k [3, 5, 7, 9, 11, 70, 71, 79, 80, 81, 88] rfl) ?_
            refine W_cond rfl (fun h => ?_) (fun h => ?_)
            · exact absurd h (by decide)
            · clear h
              refine W_skip ?_
              refine W_chain (.v (y_ar rfl) rfl <| .a 1 rfl <| .k [3, 5, 7, 9, 11, 70, 71, 79, 80, 81] rfl) ?_
              exact ⟨x.arcs.length - (i + 1), by omega, i + 1, by omega, rfl, rfl⟩
          · clear h1
            refine W_exit ?_
            refine W_seqM (Q1 := fun st => st = ⟨[(107, flag false), (3, .ptr 0 0), (5, boolsV M), (7, intsV (afTo c.T M c.n N)), (9, .ptr 1 0), (70, num tA.ents.length), (71, num d)], [some (.cells 35 (tabP tA)), some (.cells 35 (tabP tB))]⟩) ?_ ?_
            · cases q
              · refine W_grd 20 0 ([some (.cells 35 (tabP tA)), some (.cells 35 (tabP tB))] :: []) (⟨_, none, 0, 0⟩ :: ⟨_, none, 0, 0⟩ :: ⟨_, none, 0, 0⟩ :: ⟨_, none, 0, 0⟩ :: ⟨_, none, 0, 0⟩ :: ⟨_, none, 0, 0⟩ :: ⟨_, none, 0, 0⟩ :: ⟨_, none, 0, 0⟩ :: ⟨_, none, 0, 0⟩ :: ⟨_, none, 0, 0⟩ :: ⟨_, none, 0, 0⟩ :: ⟨_, none, 0, 0⟩ :: ⟨_, none, 0, 0⟩ :: ⟨_, none, 0, 0⟩ :: ⟨_, none, 0, 0⟩ :: ⟨_, none, 0, 0⟩ :: ⟨_, none, 0, 0⟩ :: ⟨_, none, 0, 0⟩ :: []) _ mixed ?grd1 rfl rfl rfl rfl (.cons (.val [7] rfl rfl (yz (ya1 (y_a rfl) ya0)) rfl rfl) <| .cons (.val [11] rfl rfl (yz (ya1 (y_a rfl) ya0)) rfl rfl) <| .cons (.val [90, 91] rfl rfl (yz (ya1 (y_c rfl (hhas)) ya0)) rfl rfl) <| .cons (.val [92] rfl rfl (yz (ya1 (y_a rfl) ya0)) rfl rfl) <| .cons (.val [93] rfl rfl (yz (ya1 (y_a rfl) ya0)) rfl rfl) <| .cons (.val [3] rfl rfl (yz (ya1 (y_a rfl) ya0)) rfl rfl) <| .cons (.val [95] rfl rfl (yz (ya1 (y_a rfl) ya0)) rfl rfl) <| .cons (.val [11] rfl rfl (yz (ya1 (y_a rfl) ya0)) rfl rfl) <| .cons (.val [96, 97] rfl rfl (yz (ya1 (y_ix ((d * 3)) rfl) ya0)) rfl rfl) <| .cons (.val [98] rfl rfl (yz (ya1 (y_la rfl (g5) rfl) ya0)) rfl rfl) <| .cons (.val [9] rfl rfl (yz (ya1 (y_a rfl) ya0)) rfl rfl) <| .cons (.val [100] rfl rfl (yz (ya1 (y_a rfl) ya0)) rfl rfl) <| .cons (.val [11] rfl rfl (yz (ya1 (y_a rfl) ya0)) rfl rfl) <| .cons (.val [101, 102] rfl rfl (yz (ya1 (y_ix ((d * 3)) rfl) ya0)) rfl rfl) <| .cons (.val [103] rfl rfl (yz (ya1 (y_la rfl ((hxy rfl).symm ▸ g6) rfl) ya0)) rfl rfl) <| .cons (.val [99, 104] rfl rfl (yz (ya1 (y_c rfl (rsent_yes x)) ya0)) rfl rfl) <| .cons (.val [105] rfl rfl (yz (ya1 (y_a rfl) ya0)) rfl rfl) <| .cons (.val [94, 106] rfl rfl (yz (ya1 (y_a rfl) ya0)) rfl rfl) .nil) (keepT_sub (ks := [107, 3, 5, 7, 9, 70, 71]) rfl) ?_
                case grd1 => kernel_rfl
                rfl
              · refine W_grd 20 0 ([some (.cells 35 (tabP tA)), some (.cells 35 (tabP tB))] :: []) (⟨_, none, 0, 0⟩ :: ⟨_, none, 0, 0⟩ :: ⟨_, none, 0, 0⟩ :: ⟨_, none, 0, 0⟩ :: ⟨_, none, 0, 0⟩ :: ⟨_, none, 0, 0⟩ :: ⟨_, none, 0, 0⟩ :: ⟨_, none, 0, 0⟩ :: ⟨_, none, 0, 0⟩ :: ⟨_, none, 0, 0⟩ :: ⟨_, none, 0, 0⟩ :: ⟨_, none, 0, 0⟩ :: ⟨_, none, 0, 0⟩ :: ⟨_, none, 0, 0⟩ :: ⟨_, none, 0, 0⟩ :: ⟨_, none, 0, 0⟩ :: ⟨_, none, 0, 0⟩ :: ⟨_, none, 0, 0⟩ :: []) _ mixed ?grd2 rfl rfl rfl rfl (.cons (.val [7] rfl rfl (yz (ya1 (y_a rfl) ya0)) rfl rfl) <| .cons (.val [11] rfl rfl (yz (ya1 (y_a rfl) ya0)) rfl rfl) <| .cons (.val [90, 91] rfl rfl (yz (ya1 (y_c rfl (hhas)) ya0)) rfl rfl) <| .cons (.val [92] rfl rfl (yz (ya1 (y_a rfl) ya0)) rfl rfl) <| .cons (.val [93] rfl rfl (yz (ya1 (y_a rfl) ya0)) rfl rfl) <| .cons (.skip rfl rfl rfl) <| .cons (.skip rfl rfl rfl) <| .cons (.skip rfl rfl rfl) <| .cons (.skip rfl rfl rfl) <| .cons (.skip rfl rfl rfl) <| .cons (.skip rfl rfl rfl) <| .cons (.skip rfl rfl rfl) <| .cons (.skip rfl rfl rfl) <| .cons (.skip rfl rfl rfl) <| .cons (.skip rfl rfl rfl) <| .cons (.skip rfl rfl rfl) <| .cons (.skip rfl rfl rfl) <| .cons (.val [94, 106] rfl rfl (yz (ya1 (y_a rfl) ya0)) rfl rfl) .nil) (keepT_sub (ks := [107, 3, 5, 7, 9, 70, 71]) rfl) ?_
                case grd2 => kernel_rfl
                rfl
            rintro _ rfl
            refine W_cond rfl (fun h => ?_) (fun h => ?_)
            · exact absurd h (by decide)
            · clear h
              refine W_skip ?_
              refine W_chain (.v (y_ar rfl) rfl <| .a 1 rfl <| .k [3, 5, 7, 9, 70, 71] rfl) ?_
              exact ⟨N - (d + 1), by omega, d + 1, by omega, rfl, rfl⟩
        · clear h1
          refine W_exit ?_
          refine W_cs (.a 1 rfl <| .k [2] rfl) ?_
          refine W_ret ?_
          exact ⟨_, _, ResL.of rfl, Pur.pure, rfl⟩
end PW
end Go.Proofs.YtbpgndbjbaoolaaGreat

namespace Go.Proofs.YtbpgndbjbaoolaaGreat.repairValid
set_option linter.unusedVariables false
set_option linter.unusedSimpArgs false
open Go.ChangeShapes Go.WideShapes Go.ChangeAt Go.RowKit
open Reg Mem PW

set_option maxRecDepth 100000 in
theorem lifted (os : Os) (started : os.Started) (H : Type) (enc : TypeId × Value → H) :
    ReturnsInHanded {} Tryz.checked os 9 .any (Rows.repairValidSpec.pre6 enc Tryz.prog Tryz.f9 Rows.repairValidRow.domain false) (Rows.repairValidSpec.post enc Tryz.prog Tryz.f9 false true false false) := by
  refine returnsInHanded_of_change (C := Tryz.checked) own started (by kernel_rfl) Tryz.func9
    (ChangeSpec.witness6 (enc := enc) (C := Tryz.checked) false ⟨#[], #[.agg #[.int .i64 0, .slice none 0 0, .slice none 0 0, .int .i64 0, .int .i64 0, .int .i64 0, .int .i64 0]], []⟩ 8 (by kernel_rfl) (by kernel_rfl) (by kernel_rfl) (by kernel_rfl)) ?_
  intro W base args ds gs before hval0 hW hcnd _
  have hval : ∀ (j : Nat) t v, Tryz.f9.params[j]? = some t → args[j]? = some v → Value.okWide Tryz.prog W .any base t v := hval0
  have hW' := hW
  obtain ⟨p, q, hA0, hV, rfl, hfz, hnd⟩ := hW
  have hA : DataW.TrodAll enc Tryz.prog W 0 (fun _ => true) true Tryz.f9.params.toList args.toList ds p := hA0
  rw [Tryz.params9] at hA hval
  obtain ⟨v0, vs0, d0, ds0, p0, q0, hargs, rfl, rfl, h0, r0⟩ := trodAll_cons hA
  obtain ⟨rfl, rfl, rfl⟩ := trodAll_nil r0
  obtain rfl : args = #[v0] := by cases args; simp_all
  obtain ⟨rfl, rfl⟩ := trodVars_none hV
  have lt0 := lt_of h0
  obtain ⟨c, R0⟩ := rd_q29 (hval 0 58 v0 rfl rfl) h0
  clear hA0 hval0
  refine ((lawRValid_can c) (fun _ => False) W #[v0] (fun _ h => h.elim) (noGlob _ W) (RepL.cons R0 (RepL.nil _ _))).mono fun e W' ⟨x, he, bel, r, hr, hx⟩ => ?_
  subst hr
  cases hx
  subst he
  exact ⟨_, rfl, _, _, _, [], _, [], hW', trodAll_mk1 (shut_bool Tryz.underlying4 _), (trodAll_cons_mk (Below.trod laidOut (by kernel_rfl) (of_decide_eq_true (by kernel_rfl)) h0 bel lt0) trodAll_mk0), rfl, bel.frame _, fun h => by cases h⟩

theorem over : Rows.repairValidRow.holds Tryz.pinned (OpenSpec.ofChange Rows.repairValidSpec) :=
  OpenClaim.holds_of_wide 9 Tryz.f9 rfl rfl rfl rfl rfl rfl rfl ⟨rfl, rfl, rfl, rfl, rfl⟩ rfl rfl rfl rfl rfl (by kernel_rfl) Tryz.func9 (by kernel_rfl)
    (of_decide_eq_true (by kernel_rfl)) (by unfold Func.isWrapper; first | (rw [if_pos (by decide +kernel)]; kernel_rfl) | (rw [if_neg (by decide +kernel)]; exact ⟨rfl, rfl⟩))
    (fun os started H enc _ => lifted os started H enc)

theorem proved : Rows.RepairValidSaid := over
end Go.Proofs.YtbpgndbjbaoolaaGreat.repairValid
