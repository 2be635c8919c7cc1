/- Texts of the proof, part 5. -/
import Derived.Test.YtbpgndbjbaoolaaGreatCardPCB4
/- The contracts of packages graph and topology. -/
namespace Go.Proofs.YtbpgndbjbaoolaaGreat
set_option linter.unusedVariables false
set_option linter.unusedSimpArgs false
namespace PW
open Go.RowKit Reg Mem Net

theorem y_xor1 {P : Program} {σ : Sto} {t : Tms} {o : Oper} {x y : Operand} {ty tz : TypeId} {a : Nat} (ho : o.op = .binOp .xor ty x y tz) (hx : evalO t x = some (num a)) (hy : evalO t y = some (num 1)) (ha : a < 9223372036854775806) : Yield P σ t o (num (flip a : Int)) :=
  y_int ho hx hy fun w => by
    have h : IntKind.i64.wrap ((BitVec.ofInt IntKind.i64.bits (a : Int) ^^^ BitVec.ofInt IntKind.i64.bits 1).toNat : Int) = (flip a : Int) := xor_one a ha
    simp only [binOp, Op.intBits, h]
    rfl
theorem qdiv (a : Nat) : ((a : Int)).tdiv 2 = ((a / 2 : Nat) : Int) := rfl
theorem qmod (a : Nat) : ((a : Int)).tmod 2 = ((a % 2 : Nat) : Int) := rfl
theorem nodeB_iff {T : Topo} {n : Int} : nodeB T n = true ↔ 0 ≤ n ∧ n < T.nodes := by simp [nodeB]
theorem links_le {T : Topo} (h : validB T = true) : T.links.length ≤ 256 := (valid_bd h).2.2.1
theorem tt {b : Prop} [Decidable b] (h : decide b = true) : b := of_decide_eq_true h
theorem ff {b : Prop} [Decidable b] (h : decide b = false) : ¬ b := of_decide_eq_false h
/-- Slices that are there are not too long. -/
theorem rep_len {E : Env} {w : World} {v : Value} {n : Nat} {xs : List PV} (h : Rep E w v (.slice n xs)) : n ≤ maxLen := by
  obtain ⟨a, c, _, h1, h2⟩ := rep_cap h
  omega
theorem can_rep {P : Program} {f : FuncId} {ps : List PV} {R : PV → Prop} (h : (∃ E w vs, RepL E w vs ps) → Can P f ps R) : Can P f ps R := fun F w vs hF hG hR => h ⟨_, _, _, hR⟩ F w vs hF hG hR
theorem can_topo {P : Program} {f : FuncId} {T : Topo} {ps : List PV} {R : PV → Prop} (h : T.links.length ≤ maxLen → T.over.length ≤ maxLen → Can P f (topoV T :: ps) R) : Can P f (topoV T :: ps) R := by
  refine can_rep fun ⟨E, w, vs, hR⟩ => ?_
  obtain ⟨v, _, hv⟩ := hR.get (i := 0) rfl
  unfold topoV topoP at hv
  cases hv with
  | agg cs _ hl hr =>
    have hr : RepL E w cs.toList _ := ⟨by simpa using hl, fun i x u h1 h2 => hr i x u (by simpa using h1) h2⟩
    obtain ⟨v1, _, h1⟩ := hr.get (i := 1) rfl
    obtain ⟨v2, _, h2⟩ := hr.get (i := 2) rfl
    exact h (rep_len h2) (rep_len h1)

set_option maxRecDepth 10000 in
set_option maxHeartbeats 1000000 in
theorem arcs_can (T : Topo) (hl : T.links.length ≤ 4611686018427387903) : Can Tryz.prog 77 [topoV T] (· = num (2 * (T.links.length : Int))) := by
  refine can_of Tryz.func77 rfl Tryz.ntmps77 rfl ?_
  refine W_cs (.a 2 rfl <| .k [1] rfl) ?_
  refine W_cs (.a 3 rfl <| .v (y_ar rfl) rfl <| .a 1 rfl <| .k [2] rfl) ?_
  refine W_ret ?_
  exact ⟨_, _, ResL.of rfl, Pur.pure, rfl⟩
set_option maxRecDepth 10000 in
set_option maxHeartbeats 1000000 in
theorem tail_can (T : Topo) (a : Nat) (ha : a < 2 * T.links.length) : Can Tryz.prog 87 [topoV T, num a] (· = num (tailN T a)) := by
  have hi : a / 2 < T.links.length := by omega
  refine can_topo fun hm _ => ?_
  unfold maxLen at hm
  refine can_of Tryz.func87 rfl Tryz.ntmps87 rfl ?_
  refine W_cs (.a 2 rfl <| .k [1, 2] rfl) ?_
  refine W_seq ?_
  refine W_cs (.a 1 rfl <| .v (y_rem rfl rfl rfl (by decide) (qmod a)) rfl <| .a 1 rfl <| .k [1, 2, 7] rfl) ?_
  refine W_cond rfl (fun hc => ?_) (fun hc => ?_)
  · have h2 : a % 2 = 0 := by have := tt hc; omega
    unfold tailN
    rw [if_pos h2]
    refine W_cs (.a 3 rfl <| .v (y_quo rfl rfl rfl (by decide) (qdiv a) (by unfold In64; omega)) rfl <| .v (y_ix (a / 2 * 7) rfl) rfl <| .a 1 rfl <| .v (y_ld rfl (lnks_getP T.links (a / 2) 0 hi (by omega))) rfl <| .a 1 rfl <| .k [4] rfl) ?_
    refine W_ret ?_
    exact ⟨_, _, ResL.of rfl, Pur.pure, rfl⟩
  · have h2 : ¬ a % 2 = 0 := by have := ff hc; omega
    unfold tailN
    rw [if_neg h2]
    refine W_skip ?_
    refine W_cs (.a 3 rfl <| .v (y_quo rfl rfl rfl (by decide) (qdiv a) (by unfold In64; omega)) rfl <| .v (y_ix (a / 2 * 7) rfl) rfl <| .a 1 rfl <| .v (y_ld rfl (lnks_getP T.links (a / 2) 1 hi (by omega))) rfl <| .a 1 rfl <| .k [4] rfl) ?_
    refine W_ret ?_
    exact ⟨_, _, ResL.of rfl, Pur.pure, rfl⟩
set_option maxRecDepth 10000 in
set_option maxHeartbeats 1000000 in
theorem head_can (T : Topo) (a : Nat) (ha : a < 2 * T.links.length) (hl : T.links.length ≤ 4611686018427387902) : Can Tryz.prog 127 [topoV T, num a] (· = num (headN T a)) := by
  refine can_of Tryz.func127 rfl Tryz.ntmps127 rfl ?_
  refine W_cs (.a 2 rfl <| .k [1, 2] rfl) ?_
  refine W_cs (.a 2 rfl <| .v (y_xor1 rfl rfl rfl (by omega)) rfl <| .c rfl (tail_can T (Net.flip a) (by unfold Net.flip; split <;> omega)) rfl <| .a 1 rfl <| .k [4] rfl) ?_
  refine W_ret ?_
  exact ⟨_, _, ResL.of rfl, Pur.pure, rfl⟩
theorem cost_get (T : Topo) (a : Nat) (hi : a / 2 < T.links.length) : (lnksP T.links)[a / 2 * 7 + 2 + a % 2]? = some (num (costN T a)) := by
  rw [Nat.add_assoc, lnks_getP T.links (a / 2) (2 + a % 2) hi (by omega)]
  unfold costN
  rcases Nat.mod_two_eq_zero_or_one a with h | h <;> rw [h]
  · rfl
  · rfl
set_option maxRecDepth 10000 in
set_option maxHeartbeats 1000000 in
theorem cost_can (T : Topo) (a : Nat) (ha : a < 2 * T.links.length) : Can Tryz.prog 157 [topoV T, num a] (· = num (costN T a)) := by
  have hi : a / 2 < T.links.length := by omega
  refine can_topo fun hm _ => ?_
  unfold maxLen at hm
  refine can_of Tryz.func157 rfl Tryz.ntmps157 rfl ?_
  refine W_cs (.a 2 rfl <| .k [1, 2] rfl) ?_
  refine W_cs (.a 3 rfl <| .v (y_quo rfl rfl rfl (by decide) (qdiv a) (by unfold In64; omega)) rfl <| .a 1 rfl <| .v (y_rem rfl rfl rfl (by decide) (qmod a)) rfl <| .v (y_ix (a / 2 * 7) rfl) rfl <| .a 1 rfl <| .v (y_ix (a % 2) rfl) rfl <| .v (y_ld rfl (cost_get T a hi)) rfl <| .a 1 rfl <| .k [4] rfl) ?_
  refine W_ret ?_
  exact ⟨_, _, ResL.of rfl, Pur.pure, rfl⟩
set_option maxRecDepth 10000 in
set_option maxHeartbeats 1000000 in
theorem over_can (T : Topo) (n : Nat) (hn : T.over.length = 0 ∨ n < T.over.length) : Can Tryz.prog 156 [topoV T, num n] (· = flag (overN T n)) := by
  obtain ⟨p1, hp1⟩ : ∃ q, decide (0 < (T.over.length : Int)) = q := ⟨_, rfl⟩
  obtain ⟨p2, hp2⟩ : ∃ q, T.over.getD n false = q := ⟨_, rfl⟩
  have he : overN T n = (p1 && p2) := by
    unfold overN
    cases p1
    · have := ff hp1
      rw [List.getD_eq_getElem?_getD, List.getElem?_eq_none (by omega)]; rfl
    · exact hp2
  rw [he]
  refine can_of Tryz.func156 rfl Tryz.ntmps156 rfl ?_
  refine W_cs (.a 2 rfl <| .k [1, 2] rfl) ?_
  refine W_csK 4 (.raw (.bool (p1 && p2))) [] rfl ?_ ?_
  · refine .a 3 rfl <| .v (y_q rfl (hp1)) rfl <| .a 1 rfl <| ?_
    cases p1
    · exact .a 7 rfl <| .k [4] rfl
    · exact .a 3 rfl <| .v (y_ix (n) rfl (by omega) (by have := tt hp1; omega)) rfl <| .v (y_ld rfl (show _ = some (flag p2) by rw [bools_getP _ n (by have := tt hp1; omega), hp2])) rfl <| .a 2 rfl <| .k [4] rfl
  refine W_ret ?_
  exact ⟨_, _, ResL.of rfl, Pur.pure, rfl⟩
set_option maxRecDepth 10000 in
set_option maxHeartbeats 1000000 in
theorem node_can (T : Topo) (n : Int) : Can Tryz.prog 76 [topoV T, num n] (· = flag (nodeB T n)) := by
  obtain ⟨p1, hp1⟩ : ∃ q, decide (0 ≤ n) = q := ⟨_, rfl⟩
  obtain ⟨p2, hp2⟩ : ∃ q, decide (n < T.nodes) = q := ⟨_, rfl⟩
  have he : nodeB T n = (p1 && p2) := by rw [← hp1, ← hp2]; unfold nodeB; exact Bool.decide_and _ _
  rw [he]
  refine can_of Tryz.func76 rfl Tryz.ntmps76 rfl ?_
  refine W_cs (.a 2 rfl <| .k [1, 2] rfl) ?_
  refine W_csK 4 (.raw (.bool (p1 && p2))) [] rfl ?_ ?_
  · refine .a 1 rfl <| .v (y_q rfl (hp1)) rfl <| .a 1 rfl <| ?_
    cases p1
    · exact .a 6 rfl <| .k [4] rfl
    · exact .a 3 rfl <| .v (y_q rfl (hp2)) rfl <| .a 2 rfl <| .k [4] rfl
  refine W_ret ?_
  exact ⟨_, _, ResL.of rfl, Pur.pure, rfl⟩
set_option maxRecDepth 10000 in
set_option maxHeartbeats 1000000 in
theorem arc_can (T : Topo) (hl : T.links.length ≤ 4611686018427387903) (a : Int) : Can Tryz.prog 94 [topoV T, num a] (· = flag (arcB T a)) := by
  obtain ⟨p1, hp1⟩ : ∃ q, decide (0 ≤ a) = q := ⟨_, rfl⟩
  obtain ⟨p2, hp2⟩ : ∃ q, decide (a < 2 * (T.links.length : Int)) = q := ⟨_, rfl⟩
  have he : arcB T a = (p1 && p2) := by rw [← hp1, ← hp2]; unfold arcB; exact Bool.decide_and _ _
  rw [he]
  refine can_of Tryz.func94 rfl Tryz.ntmps94 rfl ?_
  refine W_cs (.a 2 rfl <| .k [1, 2] rfl) ?_
  refine W_csK 4 (.raw (.bool (p1 && p2))) [] rfl ?_ ?_
  · refine .a 1 rfl <| .v (y_q rfl (hp1)) rfl <| .a 1 rfl <| ?_
    cases p1
    · exact .a 6 rfl <| .k [4] rfl
    · exact .a 2 rfl <| .c rfl (arcs_can T hl) rfl <| .v (y_q rfl (hp2)) rfl <| .a 2 rfl <| .k [4] rfl
  refine W_ret ?_
  exact ⟨_, _, ResL.of rfl, Pur.pure, rfl⟩
set_option maxRecDepth 10000 in
set_option maxHeartbeats 1000000 in
theorem fits_can (T : Topo) (D : List Bool) (hl : T.links.length ≤ 4611686018427387903) : Can Tryz.prog 101 [topoV T, boolsV D] (· = flag (fitsB T D)) := by
  obtain ⟨p1, hp1⟩ : ∃ q, decide ((D.length : Int) = 0) = q := ⟨_, rfl⟩
  obtain ⟨p2, hp2⟩ : ∃ q, decide ((D.length : Int) = 2 * (T.links.length : Int)) = q := ⟨_, rfl⟩
  have he : fitsB T D = (p1 || p2) := by rw [← hp1, ← hp2]; unfold fitsB; rw [← Bool.decide_or]; exact decide_eq_decide.2 (by omega)
  rw [he]
  refine can_of Tryz.func101 rfl Tryz.ntmps101 rfl ?_
  refine W_cs (.a 2 rfl <| .k [1, 2] rfl) ?_
  refine W_csK 4 (.raw (.bool (p1 || p2))) [] rfl ?_ ?_
  · refine .a 2 rfl <| .v (y_q rfl (hp1)) rfl <| .a 1 rfl <| ?_
    cases p1
    · exact .a 3 rfl <| .c rfl (arcs_can T hl) rfl <| .v (y_q rfl (hp2)) rfl <| .a 2 rfl <| .k [4] rfl
    · exact .a 7 rfl <| .k [4] rfl
  refine W_ret ?_
  exact ⟨_, _, ResL.of rfl, Pur.pure, rfl⟩
theorem down_eq {D : List Bool} {a : Nat} {p1 p2 : Bool} (hp1 : decide (0 < (D.length : Int)) = p1) (hp2 : D.getD a false = p2) : downN D a = (p1 && p2) := by
  unfold downN
  cases p1
  · have := ff hp1
    rw [List.getD_eq_getElem?_getD, List.getElem?_eq_none (by omega)]; rfl
  · exact hp2
set_option maxRecDepth 10000 in
set_option maxHeartbeats 1000000 in
theorem down_can (D : List Bool) (a : Nat) (ha : D.length = 0 ∨ a < D.length) : Can Tryz.prog 103 [boolsV D, num a] (· = flag (downN D a)) := by
  obtain ⟨p1, hp1⟩ : ∃ q, decide (0 < (D.length : Int)) = q := ⟨_, rfl⟩
  obtain ⟨p2, hp2⟩ : ∃ q, D.getD a false = q := ⟨_, rfl⟩
  rw [down_eq hp1 hp2]
  refine can_of Tryz.func103 rfl Tryz.ntmps103 rfl ?_
  refine W_cs (.a 1 rfl <| .k [0, 1] rfl) ?_
  refine W_csK 4 (.raw (.bool (p1 && p2))) [] rfl ?_ ?_
  · refine .a 2 rfl <| .v (y_q rfl (hp1)) rfl <| .a 1 rfl <| ?_
    cases p1
    · exact .a 6 rfl <| .k [4] rfl
    · exact .a 2 rfl <| .v (y_ix (a) rfl (by omega) (by have := tt hp1; omega)) rfl <| .v (y_ld rfl (show _ = some (flag p2) by rw [bools_getP _ a (by have := tt hp1; omega), hp2])) rfl <| .a 2 rfl <| .k [4] rfl
  refine W_ret ?_
  exact ⟨_, _, ResL.of rfl, Pur.pure, rfl⟩
set_option maxRecDepth 10000 in
set_option maxHeartbeats 1000000 in
theorem within_can (n lo hi : Int) : Can Tryz.prog 141 [num n, num lo, num hi] (· = flag (withinB n lo hi)) := by
  obtain ⟨p1, hp1⟩ : ∃ q, decide (lo ≤ n) = q := ⟨_, rfl⟩
  obtain ⟨p2, hp2⟩ : ∃ q, decide (n ≤ hi) = q := ⟨_, rfl⟩
  have he : withinB n lo hi = (p1 && p2) := by rw [← hp1, ← hp2]; unfold withinB; exact Bool.decide_and _ _
  rw [he]
  refine can_of Tryz.func141 rfl Tryz.ntmps141 rfl ?_
  refine W_cs (.a 1 rfl <| .k [0, 1, 2] rfl) ?_
  refine W_csK 6 (.raw (.bool (p1 && p2))) [] rfl ?_ ?_
  · refine .a 2 rfl <| .v (y_q rfl (hp1)) rfl <| .a 1 rfl <| ?_
    cases p1
    · exact .a 5 rfl <| .k [6] rfl
    · exact .a 2 rfl <| .v (y_q rfl (hp2)) rfl <| .a 2 rfl <| .k [6] rfl
  refine W_ret ?_
  exact ⟨_, _, ResL.of rfl, Pur.pure, rfl⟩
set_option maxRecDepth 10000 in
set_option maxHeartbeats 2000000 in
theorem valid_can (T : Topo) : Can Tryz.prog 100 [topoV T] (· = flag (validB T)) := by
  obtain ⟨p0, hp0⟩ : ∃ q, withinB T.nodes 1 64 = q := ⟨_, rfl⟩
  obtain ⟨p1, hp1⟩ : ∃ q, decide ((T.over.length : Int) ≠ 0) = q := ⟨_, rfl⟩
  obtain ⟨p2, hp2⟩ : ∃ q, decide ((T.over.length : Int) ≠ T.nodes) = q := ⟨_, rfl⟩
  obtain ⟨p3, hp3⟩ : ∃ q, decide (256 < (T.links.length : Int)) = q := ⟨_, rfl⟩
  have hw : Can Tryz.prog 141 [num T.nodes, num 1, num 64] (· = flag p0) := by rw [← hp0]; exact within_can _ _ _
  refine can_of Tryz.func100 rfl Tryz.ntmps100 rfl ?_
  refine W_cs (.a 2 rfl <| .k [1] rfl) ?_
  refine W_seq ?_
  refine W_csK 14 (.raw (.bool ((!p0) || p3))) [1] rfl ?_ ?_
  · refine .a 2 rfl <| .c rfl (hw) rfl <| .a 2 rfl <| ?_
    cases p0
    · exact .a 5 rfl <| .k [14, 1] rfl
    · exact .a 3 rfl <| .v (y_q rfl (hp3)) rfl <| .a 1 rfl <| .k [14, 1] rfl
  refine W_cond rfl (fun hc => ?_) (fun hc => ?_)
  · have hv : validB T = false := by
      rcases Bool.or_eq_true_iff.1 hc with h | h
      · exact (valid_none T (.inl (by rw [hp0]; simpa using h))).symm
      · rw [h] at hp3; exact (valid_none T (.inr (.inl (by have := tt hp3; omega)))).symm
    rw [hv]
    refine W_cs (.a 1 rfl <| .k [2] rfl) ?_
    refine W_ret ?_
    exact ⟨_, _, ResL.of rfl, Pur.pure, rfl⟩
  · obtain ⟨c1, c2⟩ := Bool.or_eq_false_iff.1 hc
    have h0 : p0 = true := by simpa using c1
    rw [h0] at hp0
    rw [c2] at hp3
    have hle : T.links.length ≤ 256 := by have := ff hp3; omega
    clear hw hc c1
    refine W_skip ?_
    refine W_seq ?_
    refine W_csK 26 (.raw (.bool (p1 && p2))) [1] rfl ?_ ?_
    · refine .a 3 rfl <| .v (y_q rfl (hp1)) rfl <| .a 1 rfl <| ?_
      cases p1
      · exact .a 7 rfl <| .k [26, 1] rfl
      · exact .a 5 rfl <| .v (y_q rfl (hp2)) rfl <| .a 1 rfl <| .k [26, 1] rfl
    refine W_cond rfl (fun hc => ?_) (fun hc => ?_)
    · have hv : validB T = false := by
        obtain ⟨a1, a2⟩ := Bool.and_eq_true_iff.1 hc
        rw [a1] at hp1
        rw [a2] at hp2
        exact (valid_none T (.inr (.inr ⟨by have := tt hp1; omega, tt hp2⟩))).symm
      rw [hv]
      refine W_cs (.a 1 rfl <| .k [2] rfl) ?_
      refine W_ret ?_
      exact ⟨_, _, ResL.of rfl, Pur.pure, rfl⟩
    · have hov : T.over.length = 0 ∨ (T.over.length : Int) = T.nodes := by
        rcases Bool.and_eq_false_iff.1 hc with h | h
        · rw [h] at hp1; exact .inl (by have := ff hp1; omega)
        · rw [h] at hp2; exact .inr (by have := ff hp2; omega)
      rw [valid_some T hp0 hle hov]
      clear hc hp1 hp2
      refine W_skip ?_
      refine W_seq ?_
      refine W_cs (.a 4 rfl <| .k [1, 29, 30] rfl) ?_
      refine W_block ?_
      refine W_k [1, 29, 30] rfl ?_
      refine W_loop (fun r s => ∃ k, k ≤ T.links.length ∧ r = T.links.length - k ∧ (T.links.take k).all (linkOK T) = true ∧ s = ⟨[(1, .pin (topoP T) 0), (29, num T.links.length), (30, num k)], []⟩) T.links.length ⟨0, by omega, by omega, by simp, rfl⟩ ?_
      rintro r s ⟨k, hk, rfl, hall, rfl⟩
      refine W_cs (.a 1 rfl <| .k [1, 29, 30, 31] rfl) ?_
      refine W_seq ?_
      refine W_cond rfl (fun hc => ?_) (fun hc => ?_)
      · have hlt : k < T.links.length := by have := tt hc; omega
        have g : ∀ j, j < 7 → (lnksP T.links)[k * 7 + j]? = (lnkP (lnk T.links k))[j]? := fun j hj => lnks_getP T.links k j hlt hj
        obtain ⟨q1, g1⟩ : ∃ q, decide ((lnk T.links k).a = (lnk T.links k).b) = q := ⟨_, rfl⟩
        obtain ⟨q2, g2⟩ : ∃ q, nodeB T (lnk T.links k).a = q := ⟨_, rfl⟩
        obtain ⟨q3, g3⟩ : ∃ q, nodeB T (lnk T.links k).b = q := ⟨_, rfl⟩
        obtain ⟨q4, g4⟩ : ∃ q, withinB (lnk T.links k).c0 1 65535 = q := ⟨_, rfl⟩
        obtain ⟨q5, g5⟩ : ∃ q, withinB (lnk T.links k).c1 1 65535 = q := ⟨_, rfl⟩
        obtain ⟨q6, g6⟩ : ∃ q, withinB (lnk T.links k).cap 0 1048576 = q := ⟨_, rfl⟩
        obtain ⟨q7, g7⟩ : ∃ q, withinB (lnk T.links k).delay 1 65536 = q := ⟨_, rfl⟩
        obtain ⟨q8, g8⟩ : ∃ q, withinB (lnk T.links k).grp 0 64 = q := ⟨_, rfl⟩
        have hOK := linkOK_eq (T := T) (l := lnk T.links k) (q1 := q1) (by rw [← g1]; exact Bool.eq_iff_iff.2 (by simp)) g2 g3 g4 g5 g6 g7 g8
        have hall' := all_take (linkOK T) T.links k hlt
        have hno := all_fail (linkOK T) T.links k hlt
        rw [hOK] at hall' hno
        have n2 := node_can T (lnk T.links k).a
        rw [g2] at n2
        have n3 := node_can T (lnk T.links k).b
        rw [g3] at n3
        have n4 := within_can (lnk T.links k).c0 1 65535
        rw [g4] at n4
        have n5 := within_can (lnk T.links k).c1 1 65535
        rw [g5] at n5
        have n6 := within_can (lnk T.links k).cap 0 1048576
        rw [g6] at n6
        have n7 := within_can (lnk T.links k).delay 1 65536
        rw [g7] at n7
        have n8 := within_can (lnk T.links k).grp 0 64
        rw [g8] at n8
        clear hOK g2 g3 g4 g5 g6 g7 g8
        refine W_skip ?_
        refine W_seq ?_
        refine W_block ?_
        refine W_cs (.a 2 rfl <| .k [1, 3, 29, 30] rfl) ?_
        refine W_cs (.a 3 rfl <| .v (y_ix (k * 7) rfl) rfl <| .a 1 rfl <| .k [1, 4, 29, 30] rfl) ?_
        refine W_seq ?_
        refine W_drsK mixed (by kernel_rfl) 63 (.raw (.bool ((q1 || !q2) || !q3))) [1, 4, 29, 30] rfl ?_ ?_
        · refine .a 3 rfl <| .v [39] (y_ld rfl (g 0 (by omega))) rfl rfl <| .a 3 rfl <| .v [43] (y_ld rfl (g 1 (by omega))) rfl rfl <| .v [40, 44] (y_q rfl (g1)) rfl rfl <| .a 1 rfl <| ?_
          cases q1
          · refine .a 4 rfl <| .v [50] (y_ld rfl (g 0 (by omega))) rfl rfl <| .v [47, 51] (y_c rfl (n2)) rfl rfl <| .a 3 rfl <| ?_
            cases q2
            · exact .a 8 rfl <| .k [63, 1, 4, 29, 30] rfl
            · exact .a 4 rfl <| .v [59] (y_ld rfl (g 1 (by omega))) rfl rfl <| .v [56, 60] (y_c rfl (n3)) rfl rfl <| .a 2 rfl <| .k [63, 1, 4, 29, 30] rfl
          · exact .a 17 rfl <| .k [63, 1, 4, 29, 30] rfl
        refine W_cond rfl (fun hx => ?_) (fun hx => ?_)
        · have hno' := hno (by cases q1 <;> cases q2 <;> cases q3 <;> simp_all)
          rw [hno']
          refine W_cs (.a 1 rfl <| .k [2] rfl) ?_
          refine W_ret ?_
          exact ⟨_, _, ResL.of rfl, Pur.pure, rfl⟩
        · have e1 : q1 = false := by cases q1 <;> simp_all
          have e2 : q2 = true := by cases q2 <;> simp_all
          have e3 : q3 = true := by cases q3 <;> simp_all
          subst e1 e2 e3
          clear n2 n3 hx
          refine W_skip ?_
          refine W_seq ?_
          refine W_csK 79 (.raw (.bool ((!q4) || !q5))) [1, 4, 29, 30] rfl ?_ ?_
          · refine .a 3 rfl <| .v (y_ix (0) rfl) rfl <| .v (y_ld rfl (g 2 (by omega))) rfl <| .c rfl (n4) rfl <| .a 2 rfl <| ?_
            cases q4
            · exact .a 8 rfl <| .k [79, 1, 4, 29, 30] rfl
            · exact .a 3 rfl <| .v (y_ix (1) rfl) rfl <| .v (y_ld rfl (g 3 (by omega))) rfl <| .c rfl (n5) rfl <| .a 2 rfl <| .k [79, 1, 4, 29, 30] rfl
          refine W_cond rfl (fun hx => ?_) (fun hx => ?_)
          · have hno' := hno (by cases q4 <;> cases q5 <;> simp_all)
            rw [hno']
            refine W_cs (.a 1 rfl <| .k [2] rfl) ?_
            refine W_ret ?_
            exact ⟨_, _, ResL.of rfl, Pur.pure, rfl⟩
          · have e1 : q4 = true := by cases q4 <;> simp_all
            have e2 : q5 = true := by cases q5 <;> simp_all
            subst e1 e2
            clear n4 n5 hx
            refine W_skip ?_
            refine W_csK 101 (.raw (.bool (((!q6) || !q7) || !q8))) [1, 29, 30] rfl ?_ ?_
            · refine .a 3 rfl <| .v (y_ld rfl (g 4 (by omega))) rfl <| .c rfl (n6) rfl <| .a 2 rfl <| ?_
              cases q6
              · exact .a 15 rfl <| .k [101, 1, 29, 30] rfl
              · refine .a 3 rfl <| .v (y_ld rfl (g 5 (by omega))) rfl <| .c rfl (n7) rfl <| .a 3 rfl <| ?_
                cases q7
                · exact .a 7 rfl <| .k [101, 1, 29, 30] rfl
                · exact .a 3 rfl <| .v (y_ld rfl (g 6 (by omega))) rfl <| .c rfl (n8) rfl <| .a 2 rfl <| .k [101, 1, 29, 30] rfl
            refine W_cond rfl (fun hx => ?_) (fun hx => ?_)
            · have hno' := hno (by cases q6 <;> cases q7 <;> cases q8 <;> simp_all)
              rw [hno']
              refine W_cs (.a 1 rfl <| .k [2] rfl) ?_
              refine W_ret ?_
              exact ⟨_, _, ResL.of rfl, Pur.pure, rfl⟩
            · have e1 : q6 = true := by cases q6 <;> simp_all
              have e2 : q7 = true := by cases q7 <;> simp_all
              have e3 : q8 = true := by cases q8 <;> simp_all
              subst e1 e2 e3
              clear n6 n7 n8 hx
              refine W_skip ?_
              refine W_chain (.v (y_ar rfl) rfl <| .a 1 rfl <| .k [1, 29, 30] rfl) ?_
              exact ⟨T.links.length - (k + 1), by omega, k + 1, by omega, rfl, by rw [hall', hall]; rfl, rfl⟩
      · have hke : k = T.links.length := by have := ff hc; omega
        subst hke
        rw [List.take_length] at hall
        rw [hall]
        refine W_exit ?_
        refine W_cs (.a 1 rfl <| .k [2] rfl) ?_
        refine W_ret ?_
        exact ⟨_, _, ResL.of rfl, Pur.pure, rfl⟩
end PW
end Go.Proofs.YtbpgndbjbaoolaaGreat

/- Pure walks: all orders of a region, to one state; a row is sealed. No program in sight. -/
namespace Go.Proofs.YtbpgndbjbaoolaaGreat
set_option linter.unusedVariables false
set_option linter.unusedSimpArgs false
namespace PW
open Go.RowKit Reg Mem
section
variable {P : Program} {N L : Nat} {ops : Array Oper}
theorem WA.mono : ∀ {n : Nat} {ls : Array Bool} {st : St} {K K' : St → Prop}, WA P N L ops n ls st K → (∀ s, K s → K' s) → WA P N L ops n ls st K'
  | 0, _, _, _, _, h, hk => ⟨h.1, hk _ h.2⟩
  | _ + 1, _, _, _, _, h, hk => ⟨h.1, fun i hi => by
      obtain ⟨o, h1, h2, h3⟩ := h.2 i hi
      exact ⟨o, h1, h2, h3.mono fun s hs => WA.mono hs hk⟩⟩
/-- Whatever the order, the state is the same one. -/
theorem W_ordersTo {id : Nat} {l : List Oper} {y : Code} {st : St} {Q : Exit → St → Prop} (t' : Tms) (σ' : Sto) (hm : P.follows .mixedOrders = true) (h : WA P N L l.toArray l.length (Array.replicate l.length false) st (fun s => s.σ = σ' ∧ Sub s.t t')) (hq : W P N L y ⟨t', σ'⟩ Q) : W P N L (.seq (.region id l.toArray true) y) st Q :=
  W_orders1 hm (h.mono fun s hs => by
    obtain ⟨t, σ⟩ := s
    obtain ⟨h1, h2⟩ := hs
    subst h1
    exact W_sub h2 hq)
/-- A row of the call's own is no longer written to. -/
theorem Sat.seal {F : Nat → Prop} {base : Nat} {σ : Sto} {E : Env} {w : World} (hS : Sat F base σ E w) {i e s n : Nat} {xs : List PV} (hi : σ[i]? = some (some (.row e s n xs))) {v : Value} (hv : Rep E w v (.own i)) : Rep (E.kill i) w v (.slice n xs) := by
  obtain ⟨_, g⟩ := hS.kill i hi
  cases hv with
  | own _ hiL _ h _ =>
    obtain ⟨cs, k1, k2⟩ := hS.blk i _ hi
    rw [h] at k1
    have k3 := k1
    rcases k1.2 with ⟨rfl, h0⟩ | ⟨b, cap, cur, rfl, hb, hg, hn, hc, hs', ht⟩
    · subst h0
      have : xs = [] := by
        have := k3.1; simp at this; subst this
        exact List.eq_nil_of_length_eq_zero k2.1.symm
      subst this
      exact .nils
    · by_cases h0 : n = 0
      · subst h0
        have : xs = [] := by
          have := k3.1; simp at this; subst this
          exact List.eq_nil_of_length_eq_zero k2.1.symm
        subst this
        exact .empty _ _ hc
      · refine .slice b 0 n cap cs xs (by omega) hn hc (Array.getElem?_eq_some_iff.1 hg).1 (fun hM => hM.2 (by rw [h]; rfl)) (fun j x hx => ?_) k2.1 (fun j x u h1 h2 => (k2.2 j x u h1 h2).goes g)
        have := k3.cells (g := b) rfl j x hx
        rw [Addr.add_lit] at this
        exact this
theorem W_seal {c : Code} {t : Tms} {σ : Sto} {Q : Exit → St → Prop} (k i : Nat) {e s n : Nat} {xs : List PV} (hk : look k t = some (.own i)) (hi : σ[i]? = some (some (.row e s n xs))) (h : W P N L c ⟨(k, .slice n xs) :: t, σ.set i none⟩ Q) : W P N L c ⟨t, σ⟩ Q := fun F base E₀ w₀ E a w hc hs => by
  obtain ⟨a1, a2⟩ := hs.sat.kill i hi
  exact h F base E₀ w₀ _ a w (hc.on a2 (Below.refl _ _)) ⟨a1, (hs.tmp.goes a2).put' (hs.sat.seal hi (hs.tmp k _ hk)), hs.dfr, hs.size⟩
theorem W_sealPtr {c : Code} {t : Tms} {σ : Sto} {Q : Exit → St → Prop} (k i off : Nat) {ty : TypeId} {xs : List PV} (hk : look k t = some (.ptr i off)) (hi : σ[i]? = some (some (.cells ty xs))) (h : W P N L c ⟨(k, .pin xs off) :: t, σ.set i none⟩ Q) : W P N L c ⟨t, σ⟩ Q := fun F base E₀ w₀ E a w hc hs => by
  obtain ⟨a1, a2⟩ := hs.sat.kill i hi
  have hv := hs.tmp k _ hk
  obtain ⟨b, cs, h1, h2, h3, h4⟩ := hs.sat.blk i _ hi
  have hp : Rep (E.kill i) w (a.eval (.tmp k)) (.pin xs off) := by
    generalize a.eval (.tmp k) = z at hv
    cases hv with
    | ptr _ _ b' hi' h =>
      have hb : b' = b := by
        rcases h with h | ⟨n, c, h⟩ <;> rw [h1] at h <;> cases h
        rfl
      subst hb
      have := Rep.pin (E := E.kill i) (w := w) b' 0 off cs.toList xs (Array.getElem?_eq_some_iff.1 h3).1 (fun hM => hM.2 (by rw [h1]; rfl)) (fun j x hx => by rw [Nat.zero_add]; unfold World.cell?; simp only [h3]; simpa using hx) h4.1 (fun j x u k1 k2 => (h4.2 j x u k1 k2).goes a2)
      rw [Nat.zero_add] at this
      exact this
  exact h F base E₀ w₀ _ a w (hc.on a2 (Below.refl _ _)) ⟨a1, (hs.tmp.goes a2).put' hp, hs.dfr, hs.size⟩
end
end PW
end Go.Proofs.YtbpgndbjbaoolaaGreat

/- The contracts of the reference of layers 9 and 11: Valid, Arcs, Tail, Head, Cost, Overloaded, SameInts, Fits, Up, transit. -/
namespace Go.Proofs.YtbpgndbjbaoolaaGreat
set_option linter.unusedVariables false
set_option linter.unusedSimpArgs false
namespace PW
open Go.RowKit Reg Mem Net

set_option maxRecDepth 10000 in
set_option maxHeartbeats 1000000 in
theorem rwithin_can (n lo hi : Int) : Can Tryz.prog 105 [num n, num lo, num hi] (· = flag (withinB n lo hi)) := by
  obtain ⟨p1, hp1⟩ : ∃ q, decide (lo ≤ n) = q := ⟨_, rfl⟩
  obtain ⟨p2, hp2⟩ : ∃ q, decide (n ≤ hi) = q := ⟨_, rfl⟩
  have he : withinB n lo hi = (p1 && p2) := by rw [← hp1, ← hp2]; unfold withinB; exact Bool.decide_and _ _
  rw [he]
  refine can_of Tryz.func105 rfl Tryz.ntmps105 rfl ?_
  refine W_cs (.a 1 rfl <| .k [0, 1, 2] rfl) ?_
  refine W_csK 6 (.raw (.bool (p1 && p2))) [] rfl ?_ ?_
  · refine .a 2 rfl <| .v (y_q rfl (hp1)) rfl <| .a 1 rfl <| ?_
    cases p1
    · exact .a 5 rfl <| .k [6] rfl
    · exact .a 2 rfl <| .v (y_q rfl (hp2)) rfl <| .a 2 rfl <| .k [6] rfl
  refine W_ret ?_
  exact ⟨_, _, ResL.of rfl, Pur.pure, rfl⟩
set_option maxRecDepth 10000 in
set_option maxHeartbeats 2000000 in
theorem rvalid_can (T : Topo) : Can Tryz.prog 58 [topoV T] (· = flag (validB T)) := by
  obtain ⟨p0, hp0⟩ : ∃ q, withinB T.nodes 1 64 = q := ⟨_, rfl⟩
  obtain ⟨p1, hp1⟩ : ∃ q, decide ((T.over.length : Int) ≠ 0) = q := ⟨_, rfl⟩
  obtain ⟨p2, hp2⟩ : ∃ q, decide ((T.over.length : Int) ≠ T.nodes) = q := ⟨_, rfl⟩
  obtain ⟨p3, hp3⟩ : ∃ q, decide (256 < (T.links.length : Int)) = q := ⟨_, rfl⟩
  have hw : Can Tryz.prog 105 [num T.nodes, num 1, num 64] (· = flag p0) := by rw [← hp0]; exact rwithin_can _ _ _
  refine can_of Tryz.func58 rfl Tryz.ntmps58 rfl ?_
  refine W_cs (.a 2 rfl <| .k [1] rfl) ?_
  refine W_seq ?_
  refine W_csK 28 (.raw (.bool (((!p0) || (p1 && p2)) || p3))) [1] rfl ?_ ?_
  · refine .a 2 rfl <| .c rfl (hw) rfl <| .a 2 rfl <| ?_
    cases p0
    · exact .a 19 rfl <| .k [28, 1] rfl
    · refine .a 3 rfl <| .v (y_q rfl (hp1)) rfl <| .a 1 rfl <| ?_
      cases p1
      · exact .a 12 rfl <| .v (y_q rfl (hp3)) rfl <| .a 1 rfl <| .k [28, 1] rfl
      · refine .a 5 rfl <| .v (y_q rfl (hp2)) rfl <| .a 3 rfl <| ?_
        cases p2
        · exact .a 3 rfl <| .v (y_q rfl (hp3)) rfl <| .a 1 rfl <| .k [28, 1] rfl
        · exact .a 5 rfl <| .k [28, 1] rfl
  refine W_cond rfl (fun hc => ?_) (fun hc => ?_)
  · have hv : validB T = false := by
      rcases Bool.or_eq_true_iff.1 hc with h | h
      · rcases Bool.or_eq_true_iff.1 h with h | h
        · exact (valid_none T (.inl (by rw [hp0]; simpa using h))).symm
        · obtain ⟨a1, a2⟩ := Bool.and_eq_true_iff.1 h
          rw [a1] at hp1
          rw [a2] at hp2
          exact (valid_none T (.inr (.inr ⟨by have := tt hp1; omega, tt hp2⟩))).symm
      · rw [h] at hp3; exact (valid_none T (.inr (.inl (by have := tt hp3; omega)))).symm
    rw [hv]
    refine W_cs (.a 1 rfl <| .k [2] rfl) ?_
    refine W_ret ?_
    exact ⟨_, _, ResL.of rfl, Pur.pure, rfl⟩
  · obtain ⟨c1, c2⟩ := Bool.or_eq_false_iff.1 hc
    obtain ⟨c1, c3⟩ := Bool.or_eq_false_iff.1 c1
    have h0 : p0 = true := by simpa using c1
    rw [h0] at hp0
    rw [c2] at hp3
    have hle : T.links.length ≤ 256 := by have := ff hp3; omega
    have hov : T.over.length = 0 ∨ (T.over.length : Int) = T.nodes := by
      rcases Bool.and_eq_false_iff.1 c3 with h | h
      · rw [h] at hp1; exact .inl (by have := ff hp1; omega)
      · rw [h] at hp2; exact .inr (by have := ff hp2; omega)
    rw [valid_some T hp0 hle hov]
    have hnd := bd_of_within hp0
    clear hw hc c1 c3 hp1 hp2
    refine W_skip ?_
    refine W_seq ?_
    refine W_cs (.a 1 rfl <| .k [1, 3] rfl) ?_
    refine W_block ?_
    refine W_k [1, 3] rfl ?_
    refine W_loop (fun r s => ∃ k, k ≤ T.links.length ∧ r = T.links.length - k ∧ (T.links.take k).all (linkOK T) = true ∧ s = ⟨[(1, .pin (topoP T) 0), (3, num k)], []⟩) T.links.length ⟨0, by omega, by omega, by simp, rfl⟩ ?_
    rintro r s ⟨k, hk, rfl, hall, rfl⟩
    refine W_seq ?_
    refine W_cs (.a 5 rfl <| .k [1, 3, 33] rfl) ?_
    refine W_cond rfl (fun hc => ?_) (fun hc => ?_)
    · have hlt : k < T.links.length := by have := tt hc; omega
      obtain ⟨q1, g1⟩ : ∃ q, decide ((lnk T.links k).a = (lnk T.links k).b) = q := ⟨_, rfl⟩
      obtain ⟨q2, g2⟩ : ∃ q, nodeB T (lnk T.links k).a = q := ⟨_, rfl⟩
      obtain ⟨q3, g3⟩ : ∃ q, nodeB T (lnk T.links k).b = q := ⟨_, rfl⟩
      obtain ⟨q4, g4⟩ : ∃ q, withinB (lnk T.links k).c0 1 65535 = q := ⟨_, rfl⟩
      obtain ⟨q5, g5⟩ : ∃ q, withinB (lnk T.links k).c1 1 65535 = q := ⟨_, rfl⟩
      obtain ⟨q6, g6⟩ : ∃ q, withinB (lnk T.links k).cap 0 1048576 = q := ⟨_, rfl⟩
      obtain ⟨q7, g7⟩ : ∃ q, withinB (lnk T.links k).delay 1 65536 = q := ⟨_, rfl⟩
      obtain ⟨q8, g8⟩ : ∃ q, withinB (lnk T.links k).grp 0 64 = q := ⟨_, rfl⟩
      have hOK := linkOK_eq (T := T) (l := lnk T.links k) (q1 := q1) (by rw [← g1]; exact Bool.eq_iff_iff.2 (by simp)) g2 g3 g4 g5 g6 g7 g8
      have hall' := all_take (linkOK T) T.links k hlt
      have hno := all_fail (linkOK T) T.links k hlt
      rw [hOK] at hall' hno
      have n2 := rwithin_can (lnk T.links k).a 0 (T.nodes - 1)
      rw [within_node, g2] at n2
      have n3 := rwithin_can (lnk T.links k).b 0 (T.nodes - 1)
      rw [within_node, g3] at n3
      have n4 := rwithin_can (lnk T.links k).c0 1 65535
      rw [g4] at n4
      have n5 := rwithin_can (lnk T.links k).c1 1 65535
      rw [g5] at n5
      have n6 := rwithin_can (lnk T.links k).cap 0 1048576
      rw [g6] at n6
      have n7 := rwithin_can (lnk T.links k).delay 1 65536
      rw [g7] at n7
      have n8 := rwithin_can (lnk T.links k).grp 0 64
      rw [g8] at n8
      clear hOK g2 g3 g4 g5 g6 g7 g8
      refine W_skip ?_
      refine W_seq ?_
      refine W_block ?_
      refine W_rs ?_
      refine WR_a 3 rfl <| WR_v (y_ix (k * 7) rfl) rfl <| WR_v (y_la rfl (lnk_drop T.links k hlt) rfl) rfl <| WR_a 2 rfl <| WR_k [1, 3, 4] rfl ?_
      refine W_sealPtr 4 0 0 rfl rfl ?_
      refine W_ren [] (.c 1 <| .c 3 <| .c 4 .nil) .nil rfl rfl ?_
      refine W_seq ?_
      refine W_csK 77 (.raw (.bool (((((!q2) || !q3) || q1) || !q4) || !q5))) [1, 3, 4] rfl ?_ ?_
      · refine .a 4 rfl <| .v (y_ar rfl) rfl <| .c rfl (n2) rfl <| .a 2 rfl <| ?_
        cases q2
        · exact .a 29 rfl <| .k [77, 1, 3, 4] rfl
        · refine .a 4 rfl <| .v (y_ar rfl) rfl <| .c rfl (n3) rfl <| .a 3 rfl <| ?_
          cases q3
          · exact .a 20 rfl <| .k [77, 1, 3, 4] rfl
          · refine .a 4 rfl <| .v (y_q rfl (g1)) rfl <| .a 2 rfl <| ?_
            cases q1
            · refine .a 1 rfl <| .v (y_ix (0) rfl) rfl <| .a 1 rfl <| .c rfl (n4) rfl <| .a 3 rfl <| ?_
              cases q4
              · exact .a 6 rfl <| .k [77, 1, 3, 4] rfl
              · exact .a 1 rfl <| .v (y_ix (1) rfl) rfl <| .a 1 rfl <| .c rfl (n5) rfl <| .a 2 rfl <| .k [77, 1, 3, 4] rfl
            · exact .a 13 rfl <| .k [77, 1, 3, 4] rfl
      refine W_cond rfl (fun hx => ?_) (fun hx => ?_)
      · have hno' := hno (by cases q1 <;> cases q2 <;> cases q3 <;> cases q4 <;> cases q5 <;> simp_all)
        rw [hno']
        refine W_cs (.a 1 rfl <| .k [2] rfl) ?_
        refine W_ret ?_
        exact ⟨_, _, ResL.of rfl, Pur.pure, rfl⟩
      · have e1 : q1 = false := by cases q1 <;> simp_all
        have e2 : q2 = true := by cases q2 <;> simp_all
        have e3 : q3 = true := by cases q3 <;> simp_all
        have e4 : q4 = true := by cases q4 <;> simp_all
        have e5 : q5 = true := by cases q5 <;> simp_all
        subst e1 e2 e3 e4 e5
        clear n2 n3 n4 n5 hx
        refine W_skip ?_
        refine W_csK 93 (.raw (.bool (((!q6) || !q7) || !q8))) [1, 3] rfl ?_ ?_
        · refine .a 2 rfl <| .c rfl (n6) rfl <| .a 2 rfl <| ?_
          cases q6
          · exact .a 11 rfl <| .k [93, 1, 3] rfl
          · refine .a 2 rfl <| .c rfl (n7) rfl <| .a 3 rfl <| ?_
            cases q7
            · exact .a 5 rfl <| .k [93, 1, 3] rfl
            · exact .a 2 rfl <| .c rfl (n8) rfl <| .a 2 rfl <| .k [93, 1, 3] rfl
        refine W_cond rfl (fun hx => ?_) (fun hx => ?_)
        · have hno' := hno (by cases q6 <;> cases q7 <;> cases q8 <;> simp_all)
          rw [hno']
          refine W_cs (.a 1 rfl <| .k [2] rfl) ?_
          refine W_ret ?_
          exact ⟨_, _, ResL.of rfl, Pur.pure, rfl⟩
        · have e1 : q6 = true := by cases q6 <;> simp_all
          have e2 : q7 = true := by cases q7 <;> simp_all
          have e3 : q8 = true := by cases q8 <;> simp_all
          subst e1 e2 e3
          clear n6 n7 n8 hx
          refine W_skip ?_
          refine W_chain (.a 1 rfl <| .v (y_ar rfl) rfl <| .a 1 rfl <| .k [1, 3] rfl) ?_
          exact ⟨T.links.length - (k + 1), by omega, k + 1, by omega, rfl, by rw [hall', hall]; rfl, rfl⟩
    · have hke : k = T.links.length := by have := ff hc; omega
      subst hke
      rw [List.take_length] at hall
      rw [hall]
      refine W_exit ?_
      refine W_cs (.a 1 rfl <| .k [2] rfl) ?_
      refine W_ret ?_
      exact ⟨_, _, ResL.of rfl, Pur.pure, rfl⟩
set_option maxRecDepth 10000 in
set_option maxHeartbeats 1000000 in
theorem rsame_can (L M : List Int) : Can Tryz.prog 25 [intsV L, intsV M] (· = flag (sameB L M)) := by
  refine can_rep fun ⟨E, w, vs, hR⟩ => ?_
  obtain ⟨v, _, hv⟩ := hR.get (i := 0) rfl
  have hm := rep_len hv
  unfold maxLen at hm
  refine can_of Tryz.func25 rfl Tryz.ntmps25 rfl ?_
  refine W_cs (.a 1 rfl <| .k [0, 1] rfl) ?_
  refine W_seq ?_
  refine W_cs (.a 5 rfl <| .k [0, 1, 10] rfl) ?_
  refine W_cond rfl (fun hc => ?_) (fun hc => ?_)
  · rw [← same_len L M (by have := tt hc; omega)]
    refine W_cs (.a 1 rfl <| .k [4] rfl) ?_
    refine W_ret ?_
    exact ⟨_, _, ResL.of rfl, Pur.pure, rfl⟩
  · have hlen : M.length = L.length := by have := ff hc; omega
    refine W_skip ?_
    refine W_seq ?_
    refine W_cs (.a 1 rfl <| .k [0, 1, 5] rfl) ?_
    refine W_block ?_
    refine W_k [0, 1, 5] rfl ?_
    refine W_loop (fun r s => ∃ k, k ≤ L.length ∧ r = L.length - k ∧ (∀ i, i < k → L.getD i 0 = M.getD i 0) ∧ s = ⟨[(0, intsV L), (1, intsV M), (5, num k)], []⟩) L.length ⟨0, by omega, by omega, fun i hi => by omega, rfl⟩ ?_
    rintro r s ⟨k, hk, rfl, hall, rfl⟩
    refine W_seq ?_
    refine W_cs (.a 4 rfl <| .k [0, 1, 5, 14] rfl) ?_
    refine W_cond rfl (fun hc => ?_) (fun hc => ?_)
    · have hlt : k < L.length := by have := tt hc; omega
      refine W_skip ?_
      refine W_seq ?_
      refine W_block ?_
      refine W_drs mixed (by kernel_rfl) (.a 2 rfl <| .v [17, 18] (y_ix (k) rfl) rfl rfl <| .v [19] (y_ld rfl (ints_get L k hlt)) rfl rfl <| .a 2 rfl <| .v [21, 22] (y_ix (k) rfl) rfl rfl <| .v [23] (y_ld rfl (ints_get M k (by omega))) rfl rfl <| .a 1 rfl <| .k [0, 1, 5, 25] rfl) ?_
      refine W_cond rfl (fun hx => ?_) (fun hx => ?_)
      · rw [← same_at L M k (tt hx)]
        refine W_cs (.a 1 rfl <| .k [4] rfl) ?_
        refine W_ret ?_
        exact ⟨_, _, ResL.of rfl, Pur.pure, rfl⟩
      · have hx' : L.getD k 0 = M.getD k 0 := by have := ff hx; omega
        refine W_skip ?_
        refine W_chain (.a 1 rfl <| .v (y_ar rfl) rfl <| .a 1 rfl <| .k [0, 1, 5] rfl) ?_
        refine ⟨L.length - (k + 1), by omega, k + 1, by omega, rfl, fun i hi => ?_, rfl⟩
        by_cases h : i = k
        · rw [h]; exact hx'
        · exact hall i (by omega)
    · have hke : k = L.length := by have := ff hc; omega
      rw [← same_all L M hlen (fun i hi => hall i (by omega))]
      refine W_exit ?_
      refine W_cs (.a 1 rfl <| .k [4] rfl) ?_
      refine W_ret ?_
      exact ⟨_, _, ResL.of rfl, Pur.pure, rfl⟩
end PW
end Go.Proofs.YtbpgndbjbaoolaaGreat

/- Distances, as plain mathematics: what makes a list the list of all distances to (or from) a node; that there is one such list at most. No program in sight. -/
namespace Go.Proofs.YtbpgndbjbaoolaaGreat
set_option linter.unusedVariables false
set_option linter.unusedSimpArgs false
namespace Net

/-- The ends of an arc in the direction of a search: x is reached by way of y. -/
def arcX (T : Topo) (dir : Bool) (a : Nat) : Int := if dir then headN T a else tailN T a
def arcY (T : Topo) (dir : Bool) (a : Nat) : Int := if dir then tailN T a else headN T a
/-- The value of a list at a node. -/
def at' (l : List Int) (x : Int) : Int := l.getD x.toNat (-1)
/-- The arc may be used by way of y, which has been reached. -/
def Way (T : Topo) (D : List Bool) (n : Nat) (dir : Bool) (out : List Int) (a : Nat) : Prop :=
  downN D a = false ∧ 0 ≤ at' out (arcY T dir a) ∧ (arcY T dir a = (n : Int) ∨ overN T (arcY T dir a).toNat = false)

structure IsDist (T : Topo) (D : List Bool) (n : Nat) (dir : Bool) (out : List Int) : Prop where
  len : (out.length : Int) = T.nodes
  root : at' out (n : Int) = 0
  ge : ∀ x : Nat, (x : Int) < T.nodes → -1 ≤ at' out (x : Int)
  closed : ∀ a, a < 2 * T.links.length → Way T D n dir out a → 0 ≤ at' out (arcX T dir a) ∧ at' out (arcX T dir a) ≤ at' out (arcY T dir a) + costN T a
  supp : ∀ x : Nat, (x : Int) < T.nodes → 0 ≤ at' out (x : Int) → x = n ∨ ∃ a, a < 2 * T.links.length ∧ arcX T dir a = (x : Int) ∧ Way T D n dir out a ∧ at' out (x : Int) = at' out (arcY T dir a) + costN T a

/-- All that is used of a valid topology here. -/
structure Sound (T : Topo) : Prop where
  cost : ∀ a, a < 2 * T.links.length → 1 ≤ costN T a ∧ costN T a ≤ 65535
  tail : ∀ a, a < 2 * T.links.length → 0 ≤ tailN T a ∧ tailN T a < T.nodes
  head : ∀ a, a < 2 * T.links.length → 0 ≤ headN T a ∧ headN T a < T.nodes
  nodes : 1 ≤ T.nodes ∧ T.nodes ≤ 64
theorem Sound.x {T : Topo} (h : Sound T) (dir : Bool) (a : Nat) (ha : a < 2 * T.links.length) : 0 ≤ arcX T dir a ∧ arcX T dir a < T.nodes := by
  unfold arcX; cases dir
  · exact h.tail a ha
  · exact h.head a ha
theorem Sound.y {T : Topo} (h : Sound T) (dir : Bool) (a : Nat) (ha : a < 2 * T.links.length) : 0 ≤ arcY T dir a ∧ arcY T dir a < T.nodes := by
  unfold arcY; cases dir
  · exact h.head a ha
  · exact h.tail a ha

theorem dist_le {T : Topo} (hT : Sound T) {D : List Bool} {n : Nat} {dir : Bool} {out out' : List Int} (h : IsDist T D n dir out) (h' : IsDist T D n dir out') :
    ∀ (k : Nat) (x : Nat), (x : Int) < T.nodes → at' out (x : Int) = (k : Int) → 0 ≤ at' out' (x : Int) ∧ at' out' (x : Int) ≤ at' out (x : Int) := by
  intro k
  induction k using Nat.strongRecOn with
  | _ k ih =>
    intro x hx hk
    rcases h.supp x hx (by omega) with rfl | ⟨a, ha, hax, ⟨w1, w2, w3⟩, he⟩
    · rw [h'.root]; omega
    · have hc := hT.cost a ha
      obtain ⟨y, hy⟩ := Int.eq_ofNat_of_zero_le (hT.y dir a ha).1
      have hyn := (hT.y dir a ha).2
      rw [hy] at w2 w3 he hyn
      obtain ⟨j, hj⟩ := Int.eq_ofNat_of_zero_le w2
      have hlt : j < k := by omega
      have h1 := ih j hlt y hyn hj
      have h2 := h'.closed a ha ⟨w1, by rw [hy]; exact h1.1, by rw [hy]; exact w3⟩
      rw [hax, hy] at h2
      exact ⟨h2.1, by omega⟩

theorem at_eq (out : List Int) (x : Nat) (hx : x < out.length) : at' out (x : Int) = out[x] := by
  simp [at', hx]

/-- There is one list of distances at most. -/
theorem dist_unique {T : Topo} (hT : Sound T) {D : List Bool} {n : Nat} {dir : Bool} {out out' : List Int} (h : IsDist T D n dir out) (h' : IsDist T D n dir out') : out = out' := by
  have hl : out.length = out'.length := by have := h.len; have := h'.len; omega
  refine List.ext_getElem hl fun x h1 h2 => ?_
  have hx : (x : Int) < T.nodes := by have := h.len; omega
  rw [← at_eq out x h1, ← at_eq out' x h2]
  have g1 := h.ge x hx
  have g2 := h'.ge x hx
  by_cases c1 : 0 ≤ at' out (x : Int)
  · obtain ⟨k, hk⟩ := Int.eq_ofNat_of_zero_le c1
    have a1 := dist_le hT h h' k x hx hk
    obtain ⟨k', hk'⟩ := Int.eq_ofNat_of_zero_le a1.1
    have a2 := dist_le hT h' h k' x hx hk'
    omega
  · by_cases c2 : 0 ≤ at' out' (x : Int)
    · obtain ⟨k, hk⟩ := Int.eq_ofNat_of_zero_le c2
      have a1 := dist_le hT h' h k x hx hk
      omega
    · omega

open Classical in
/-- The list of distances, if there is one. -/
noncomputable def distL (T : Topo) (D : List Bool) (n : Nat) (dir : Bool) : List Int := if h : ∃ out, IsDist T D n dir out then h.choose else []
theorem distL_eq {T : Topo} (hT : Sound T) {D : List Bool} {n : Nat} {dir : Bool} {out : List Int} (h : IsDist T D n dir out) : distL T D n dir = out := by
  unfold distL
  rw [dif_pos ⟨out, h⟩]
  exact dist_unique hT (Exists.choose_spec (⟨out, h⟩ : ∃ out, IsDist T D n dir out)) h

end Net
end Go.Proofs.YtbpgndbjbaoolaaGreat

/- Relaxation of arcs, as plain mathematics: what holds while distances are improved arc by arc; that it ends; that the end is the list of distances. No program in sight. -/
namespace Go.Proofs.YtbpgndbjbaoolaaGreat
set_option linter.unusedVariables false
set_option linter.unusedSimpArgs false
namespace Net

/-- How many nodes are reached. -/
def cnt : List Int → Nat
  | [] => 0
  | v :: l => (if 0 ≤ v then 1 else 0) + cnt l
theorem cnt_le (l : List Int) : cnt l ≤ l.length := by
  induction l with
  | nil => exact Nat.le_refl _
  | cons v l ih => simp only [cnt, List.length_cons]; split <;> omega
theorem cnt_set : ∀ (l : List Int) (i : Nat) (c : Int), i < l.length → 0 ≤ c → cnt (l.set i c) = cnt l + (if 0 ≤ l.getD i (-1) then 0 else 1)
  | [], i, c, h, _ => by simp at h
  | v :: l, 0, c, _, hc => by
    simp only [List.set_cons_zero, cnt, List.getD_cons_zero]
    rw [if_pos hc]
    by_cases h : 0 ≤ v
    · rw [if_pos h, if_pos h]; omega
    · rw [if_neg h, if_neg h]; omega
  | v :: l, i + 1, c, h, hc => by
    simp only [List.set_cons_succ, cnt, List.getD_cons_succ]
    rw [cnt_set l i c (by simpa using h) hc]
    omega

/-- What is still to be gained. -/
def wgt (v : Int) : Nat := if v < 0 then 4194241 else v.toNat
def mu : List Int → Nat
  | [] => 0
  | v :: l => wgt v + mu l
theorem mu_set : ∀ (l : List Int) (i : Nat) (c : Int), i < l.length → mu (l.set i c) + wgt (l.getD i (-1)) = mu l + wgt c
  | [], i, c, h => by simp at h
  | v :: l, 0, c, _ => by simp only [List.set_cons_zero, mu, List.getD_cons_zero]; omega
  | v :: l, i + 1, c, h => by
    have := mu_set l i c (by simpa using h)
    simp only [List.set_cons_succ, mu, List.getD_cons_succ]
    omega

structure Inv (T : Topo) (D : List Bool) (n : Nat) (dir : Bool) (out : List Int) : Prop where
  len : (out.length : Int) = T.nodes
  root : at' out (n : Int) = 0
  ge : ∀ x : Nat, (x : Int) < T.nodes → -1 ≤ at' out (x : Int)
  bnd : ∀ x : Nat, (x : Int) < T.nodes → at' out (x : Int) ≤ 65535 * (cnt out : Int)
  supp : ∀ x : Nat, (x : Int) < T.nodes → 0 ≤ at' out (x : Int) → x = n ∨ ∃ a, a < 2 * T.links.length ∧ arcX T dir a = (x : Int) ∧ Way T D n dir out a ∧ at' out (arcY T dir a) + costN T a ≤ at' out (x : Int)

/-- The arc a improves what is known of its end. -/
def Gains (T : Topo) (D : List Bool) (n : Nat) (dir : Bool) (out : List Int) (a : Nat) : Prop :=
  Way T D n dir out a ∧ (at' out (arcX T dir a) < 0 ∨ at' out (arcY T dir a) + costN T a < at' out (arcX T dir a))
def gain (T : Topo) (dir : Bool) (out : List Int) (a : Nat) : List Int := out.set (arcX T dir a).toNat (at' out (arcY T dir a) + costN T a)

theorem at_set (out : List Int) (x y : Nat) (c : Int) (hx : x < out.length) : at' (out.set x c) (y : Int) = if y = x then c else at' out (y : Int) := by
  simp only [at', Int.toNat_natCast, List.getD_eq_getElem?_getD, List.getElem?_set]
  by_cases h : x = y
  · subst h; simp [hx]
  · rw [if_neg h, if_neg (Ne.symm h)]

theorem gain_inv {T : Topo} (hT : Sound T) {D : List Bool} {n : Nat} {dir : Bool} {out : List Int} (h : Inv T D n dir out) (a : Nat) (ha : a < 2 * T.links.length) (hg : Gains T D n dir out a) :
    Inv T D n dir (gain T dir out a) ∧ mu (gain T dir out a) < mu out := by
  obtain ⟨⟨w1, w2, w3⟩, hb⟩ := hg
  have hc := hT.cost a ha
  obtain ⟨x, hx⟩ := Int.eq_ofNat_of_zero_le (hT.x dir a ha).1
  obtain ⟨y, hy⟩ := Int.eq_ofNat_of_zero_le (hT.y dir a ha).1
  have hxn := (hT.x dir a ha).2
  have hyn := (hT.y dir a ha).2
  unfold gain
  rw [hx, hy, Int.toNat_natCast]
  rw [hx, hy] at hb
  rw [hy] at w2 w3
  rw [hx] at hxn
  rw [hy] at hyn
  have hlen := h.len
  have hxl : x < out.length := by omega
  generalize hcc : at' out (y : Int) + costN T a = c at *
  have hby := h.bnd y hyn
  have hxr : x ≠ n := fun e => by
    rw [e, h.root] at hb
    omega
  have hcs := cnt_set out x c hxl (by omega)
  have hgx : out.getD x (-1) = at' out (x : Int) := by simp [at']
  rw [hgx] at hcs
  have at1 := fun z => at_set out x z c hxl
  have reach : ∀ z : Nat, (z : Int) < T.nodes → 0 ≤ at' out (z : Int) → 0 ≤ at' (out.set x c) (z : Int) := fun z _ hz => by
    rw [at1 z]; split <;> omega
  have less : ∀ z : Nat, (z : Int) < T.nodes → 0 ≤ at' out (z : Int) → at' (out.set x c) (z : Int) ≤ at' out (z : Int) := fun z _ hz => by
    rw [at1 z]
    split
    · rename_i e; subst e; omega
    · omega
  have way : ∀ b, b < 2 * T.links.length → Way T D n dir out b → Way T D n dir (out.set x c) b := fun b hbl ⟨v1, v2, v3⟩ => by
    obtain ⟨z, hz⟩ := Int.eq_ofNat_of_zero_le (hT.y dir b hbl).1
    have hzn := (hT.y dir b hbl).2
    refine ⟨v1, ?_, v3⟩
    rw [hz] at v2 hzn ⊢
    exact reach z hzn v2
  refine ⟨⟨by rw [List.length_set]; exact hlen, ?_, fun z hz => ?_, fun z hz => ?_, fun z hz h0 => ?_⟩, ?_⟩
  · rw [at1 n, if_neg (Ne.symm hxr)]; exact h.root
  · rw [at1 z]; split
    · omega
    · exact h.ge z hz
  · rw [at1 z]
    have hbz := h.bnd z hz
    have : (cnt out : Int) ≤ (cnt (out.set x c) : Int) := by rw [hcs]; split <;> omega
    split
    · rw [hcs]
      rename_i e
      subst e
      by_cases hr : 0 ≤ at' out (z : Int)
      · rw [if_pos hr]; omega
      · rw [if_neg hr]; omega
    · omega
  · by_cases e : z = x
    · subst e
      refine .inr ⟨a, ha, hx, way a ha ⟨w1, by rw [hy]; exact w2, by rw [hy]; exact w3⟩, ?_⟩
      rw [hy, at1 z, if_pos rfl]
      have := less y hyn w2
      omega
    · rw [at1 z, if_neg e] at h0
      rcases h.supp z hz h0 with e2 | ⟨b, hbl, hbx, hbw, hbe⟩
      · exact .inl e2
      · refine .inr ⟨b, hbl, hbx, way b hbl hbw, ?_⟩
        rw [at1 z, if_neg e]
        obtain ⟨u, hu⟩ := Int.eq_ofNat_of_zero_le (hT.y dir b hbl).1
        have hun := (hT.y dir b hbl).2
        have hw2 := hbw.2.1
        rw [hu] at hun hbe hw2 ⊢
        have := less u hun hw2
        omega
  · have hm := mu_set out x c hxl
    rw [hgx] at hm
    have hcl := cnt_le out
    have hnn := hT.nodes
    have hcb : c ≤ 4194240 := by
      rcases hb with hb | hb
      · have hlt : cnt out < out.length := by
          have := cnt_le (out.set x c)
          rw [List.length_set, hcs, if_neg (by omega)] at this
          omega
        omega
      · have := h.bnd x hxn; omega
    have hw1 : wgt c = c.toNat := by unfold wgt; rw [if_neg (by omega)]
    have hw2 : wgt (at' out (x : Int)) = if at' out (x : Int) < 0 then 4194241 else (at' out (x : Int)).toNat := rfl
    rw [hw1, hw2] at hm
    rcases hb with hb | hb
    · rw [if_pos hb] at hm; omega
    · by_cases hr : at' out (x : Int) < 0
      · rw [if_pos hr] at hm; omega
      · rw [if_neg hr] at hm; omega

theorem inv_dist {T : Topo} {D : List Bool} {n : Nat} {dir : Bool} {out : List Int} (h : Inv T D n dir out) (hn : ∀ a, a < 2 * T.links.length → ¬ Gains T D n dir out a) : IsDist T D n dir out := by
  have closed : ∀ a, a < 2 * T.links.length → Way T D n dir out a → 0 ≤ at' out (arcX T dir a) ∧ at' out (arcX T dir a) ≤ at' out (arcY T dir a) + costN T a := fun a ha hw => by
    have := hn a ha
    unfold Gains at this
    have h2 : ¬ (at' out (arcX T dir a) < 0 ∨ at' out (arcY T dir a) + costN T a < at' out (arcX T dir a)) := fun e => this ⟨hw, e⟩
    omega
  refine ⟨h.len, h.root, h.ge, closed, fun x hx h0 => ?_⟩
  rcases h.supp x hx h0 with e | ⟨a, ha, hax, hw, he⟩
  · exact .inl e
  · refine .inr ⟨a, ha, hax, hw, ?_⟩
    have := closed a ha hw
    rw [hax] at this
    omega

/-- The list with which a search begins. -/
def start (N n : Nat) : List Int := (List.replicate N (-1)).set n 0
theorem at_start (N n : Nat) (hn : n < N) (x : Nat) (hx : x < N) : at' (start N n) (x : Int) = if x = n then 0 else -1 := by
  unfold start
  rw [at_set _ n x 0 (by simpa using hn)]
  split
  · rfl
  · simp [at', hx]
theorem start_inv {T : Topo} {D : List Bool} {N n : Nat} {dir : Bool} (hN : (N : Int) = T.nodes) (hn : n < N) : Inv T D n dir (start N n) := by
  have hc : 1 ≤ cnt (start N n) := by
    unfold start
    rw [cnt_set _ n 0 (by simpa using hn) (by omega)]
    have : (List.replicate N (-1 : Int)).getD n (-1) = -1 := by simp [hn]
    rw [this]
    simp
  refine ⟨by simp [start]; exact hN, by rw [at_start N n hn n hn, if_pos rfl], fun x hx => ?_, fun x hx => ?_, fun x hx h0 => ?_⟩
  · rw [at_start N n hn x (by omega)]; split <;> omega
  · rw [at_start N n hn x (by omega)]; split <;> omega
  · rw [at_start N n hn x (by omega)] at h0
    by_cases e : x = n
    · exact .inl e
    · rw [if_neg e] at h0; omega

theorem dist_exists_of {T : Topo} (hT : Sound T) {D : List Bool} {n : Nat} {dir : Bool} : ∀ (k : Nat) (out : List Int), mu out = k → Inv T D n dir out → ∃ out', IsDist T D n dir out' ∧ Inv T D n dir out' := by
  intro k
  induction k using Nat.strongRecOn with
  | _ k ih =>
    intro out hk hi
    by_cases h : ∃ a, a < 2 * T.links.length ∧ Gains T D n dir out a
    · obtain ⟨a, ha, hg⟩ := h
      obtain ⟨h1, h2⟩ := gain_inv hT hi a ha hg
      exact ih _ (by omega) _ rfl h1
    · exact ⟨out, inv_dist hi fun a ha hg => h ⟨a, ha, hg⟩, hi⟩
theorem distL_is {T : Topo} (hT : Sound T) (D : List Bool) {n : Nat} (dir : Bool) (hn : (n : Int) < T.nodes) : IsDist T D n dir (distL T D n dir) := by
  obtain ⟨N, hN⟩ := Int.eq_ofNat_of_zero_le (by have := hT.nodes.1; omega : 0 ≤ T.nodes)
  obtain ⟨out, ho, _⟩ := dist_exists_of hT _ (start N n) rfl (start_inv (D := D) (dir := dir) hN.symm (by omega))
  rw [distL_eq hT ho]
  exact ho
theorem distL_inv {T : Topo} (hT : Sound T) (D : List Bool) {n : Nat} (dir : Bool) (hn : (n : Int) < T.nodes) : Inv T D n dir (distL T D n dir) := by
  obtain ⟨N, hN⟩ := Int.eq_ofNat_of_zero_le (by have := hT.nodes.1; omega : 0 ≤ T.nodes)
  obtain ⟨out, ho, hi⟩ := dist_exists_of hT _ (start N n) rfl (start_inv (D := D) (dir := dir) hN.symm (by omega))
  rw [distL_eq hT ho]
  exact hi

end Net
end Go.Proofs.YtbpgndbjbaoolaaGreat

/- What a valid topology gives to a search. No program in sight. -/
namespace Go.Proofs.YtbpgndbjbaoolaaGreat
set_option linter.unusedVariables false
set_option linter.unusedSimpArgs false
namespace Net

theorem sound_of {T : Topo} (h : validB T = true) : Sound T := by
  have hb := valid_bd h
  have lk : ∀ i, i < T.links.length → (0 ≤ (lnk T.links i).a ∧ (lnk T.links i).a < T.nodes) ∧ (0 ≤ (lnk T.links i).b ∧ (lnk T.links i).b < T.nodes) ∧ (1 ≤ (lnk T.links i).c0 ∧ (lnk T.links i).c0 ≤ 65535) ∧ (1 ≤ (lnk T.links i).c1 ∧ (lnk T.links i).c1 ≤ 65535) := fun i hi => by
    have := valid_link h i hi
    simp only [linkOK, nodeB, withinB, Bool.and_eq_true, decide_eq_true_eq] at this
    obtain ⟨⟨⟨⟨⟨⟨⟨_, h1⟩, h2⟩, h3⟩, h4⟩, _⟩, _⟩, _⟩ := this
    exact ⟨h1, h2, h3, h4⟩
  have fl : ∀ a, a < 2 * T.links.length → flip a < 2 * T.links.length := fun a ha => by unfold flip; split <;> omega
  have tl : ∀ a, a < 2 * T.links.length → 0 ≤ tailN T a ∧ tailN T a < T.nodes := fun a ha => by
    have := lk (a / 2) (by omega)
    unfold tailN; split
    · exact this.1
    · exact this.2.1
  refine ⟨fun a ha => ?_, tl, fun a ha => tl _ (fl a ha), ⟨hb.1, hb.2.1⟩⟩
  have := lk (a / 2) (by omega)
  unfold costN; split
  · exact this.2.2.1
  · exact this.2.2.2

theorem Inv.ub {T : Topo} {D : List Bool} {n : Nat} {dir : Bool} {out : List Int} (h : Inv T D n dir out) (x : Nat) (hx : (x : Int) < T.nodes) (hN : T.nodes ≤ 64) : at' out (x : Int) ≤ 4194240 := by
  have h1 := h.bnd x hx
  have h2 := cnt_le out
  have h3 := h.len
  omega
end Net
end Go.Proofs.YtbpgndbjbaoolaaGreat

/- graph.Entering and graph.Leaving: for each node its arcs. -/
namespace Go.Proofs.YtbpgndbjbaoolaaGreat
set_option linter.unusedVariables false
set_option linter.unusedSimpArgs false
namespace PW
open Go.RowKit Reg Mem Net

set_option maxRecDepth 10000 in
set_option maxHeartbeats 1000000 in
theorem entering_can (T : Topo) (hv : validB T = true) : Can Tryz.prog 167 [topoV T] (· = rowsV (rowsL (headN T) T.nodes.toNat (2 * T.links.length))) := by
  have hbd := valid_bd hv
  have hS := sound_of hv
  obtain ⟨n, hn⟩ : ∃ n : Nat, T.nodes = (n : Int) := ⟨T.nodes.toNat, by omega⟩
  rw [show T.nodes.toNat = n by omega]
  refine can_of Tryz.func167 rfl Tryz.ntmps167 rfl ?_
  refine W_cs (.a 2 rfl <| .k [1] rfl) ?_
  refine W_rs ?_
  refine WR_a 2 rfl <| WR_l (l_make rfl (fok.rk.get rfl) rfl rfl hn hn ⟨by unfold maxLen; omega, by omega⟩) rfl <| WR_a 1 rfl <| WR_k [1, 3] rfl ?_
  refine W_adoptRows 33 3 n ?_
  refine W_seq ?_
  refine W_cs (.a 1 rfl <| .c rfl (arcs_can T (by omega)) rfl <| .a 1 rfl <| .k [1, 3, 10, 11] rfl) ?_
  refine W_block ?_
  refine W_k [1, 3, 10, 11] rfl ?_
  refine W_loop (fun r s => ∃ k, k ≤ 2 * T.links.length ∧ r = 2 * T.links.length - k ∧ s = ⟨[(1, .pin (topoP T) 0), (3, .own 0), (10, num (2 * (T.links.length : Int))), (11, num k)], rsto 33 3 (rowsL (headN T) n k)⟩) (2 * T.links.length) ⟨0, by omega, by omega, by rw [rowsL_zero]; rfl⟩ ?_
  rintro r s ⟨k, hk, rfl, rfl⟩
  refine W_cs (.a 1 rfl <| .k [1, 3, 10, 11, 12] rfl) ?_
  refine W_seq ?_
  refine W_cond rfl (fun hc => ?_) (fun hc => ?_)
  · have hlt : k < 2 * T.links.length := by have := of_decide_eq_true hc; omega
    obtain ⟨hd0, hhN⟩ := hS.head k hlt
    obtain ⟨m, hm⟩ := Int.eq_ofNat_of_zero_le hd0
    have hmn : m < n := by omega
    have hrl := rowsL_len (headN T) n k
    have hgl : ((rowsL (headN T) n k).getD m []).length ≤ k := by
      rw [rowsL_get _ _ _ _ hmn]
      simp only [List.length_map]
      exact Nat.le_trans (List.length_filter_le _ _) (by simp)
    refine W_skip ?_
    refine W_seq ?_
    refine W_block ?_
    refine W_cs (.a 2 rfl <| .k [1, 3, 4, 10, 11] rfl) ?_
    refine W_cs (.a 2 rfl <| .c rfl (hm ▸ head_can T k hlt (by omega)) rfl <| .a 1 rfl <| .k [1, 3, 4, 5, 10, 11] rfl) ?_
    refine W_region ?_
    refine WR_a 4 rfl <| WR_v (y_ix (m) rfl) rfl <| WR_v (y_ld rfl (owns_get _ m (by omega))) rfl <| WR_a 2 rfl <| WR_l (l_append rfl (fok.rk.get rfl) rfl (rsto_get _ _ _ m (by omega)) rfl rfl ⟨by unfold maxLen; omega, by omega⟩) rfl <| WR_v (y_ix (m) rfl) rfl <| WR_loud0 (l_store1 rfl (fok.tk.get rfl) rfl rfl rfl (by show m < (ownsP _).length; simp [ownsP]; omega)) rfl rfl <| WR_k [1, 3, 10, 11] rfl ?_
    refine W_ren (rfs (rowsL (headN T) n k).length m) (.cons 1 rfl Ren.pure <| .cons 3 rfl (Ren.own (i := 0) rfl) <| .cons 10 rfl Ren.pure <| .cons 11 rfl Ren.pure <| .nil) (rsto_ren 33 3 (rowsL (headN T) n k) m (by omega) (k : Int)) (rfs_nodup _ _) rfl ?_
    rw [← rowsL_step (headN T) n k m hm hmn]
    refine W_chain (.v (y_ar rfl) rfl <| .a 1 rfl <| .k [1, 3, 10, 11] rfl) ?_
    exact ⟨2 * T.links.length - (k + 1), by omega, k + 1, by omega, rfl, rfl⟩
  · have hke : k = 2 * T.links.length := by have := of_decide_eq_false hc; omega
    subst hke
    refine W_exit ?_
    refine W_cs (.a 2 rfl <| .k [2] rfl) ?_
    refine W_ret ?_
    exact ⟨_, _, ResL.of rfl, rsto_pur _ _ _, rfl⟩

end PW
end Go.Proofs.YtbpgndbjbaoolaaGreat

/- Dijkstra's search, as plain mathematics. No program in sight. -/
namespace Go.Proofs.YtbpgndbjbaoolaaGreat
set_option linter.unusedVariables false
set_option linter.unusedSimpArgs false
namespace Net

/-- What is known between two steps of the search: out: the distances of the settled nodes, K: the keys, H: the nodes in the queue, S: arcs that have still to be looked at. -/
structure Dij (T : Topo) (D : List Bool) (n : Nat) (dir : Bool) (out K : List Int) (H : Nat → Prop) (S : Nat → Prop) : Prop where
  len : (out.length : Int) = T.nodes
  ge : ∀ x : Nat, (x : Int) < T.nodes → -1 ≤ at' out (x : Int)
  root : at' out (n : Int) = 0 ∨ (H n ∧ K.getD n 0 = 0)
  hneg : ∀ y, H y → (y : Int) < T.nodes ∧ at' out (y : Int) = -1
  mono : ∀ x y : Nat, (x : Int) < T.nodes → H y → at' out (x : Int) ≤ K.getD y 0
  suppH : ∀ y, H y → (y = n ∧ K.getD y 0 = 0) ∨ ∃ a, a < 2 * T.links.length ∧ arcX T dir a = (y : Int) ∧ Way T D n dir out a ∧ K.getD y 0 = at' out (arcY T dir a) + costN T a
  supp : ∀ x : Nat, (x : Int) < T.nodes → 0 ≤ at' out (x : Int) → x = n ∨ ∃ a, a < 2 * T.links.length ∧ arcX T dir a = (x : Int) ∧ Way T D n dir out a ∧ at' out (x : Int) = at' out (arcY T dir a) + costN T a
  closed : ∀ a, a < 2 * T.links.length → ¬ S a → Way T D n dir out a → (0 ≤ at' out (arcX T dir a) ∧ at' out (arcX T dir a) ≤ at' out (arcY T dir a) + costN T a) ∨ (H (arcX T dir a).toNat ∧ K.getD (arcX T dir a).toNat 0 ≤ at' out (arcY T dir a) + costN T a)
  ub : ∀ x : Nat, (x : Int) < T.nodes → at' out (x : Int) ≤ 65535 * (cnt out : Int)
  ubH : ∀ y, H y → K.getD y 0 ≤ 65535 * (cnt out : Int)
theorem Dij.key {T : Topo} (hT : Sound T) {D : List Bool} {n : Nat} {dir : Bool} {out K : List Int} {H S : Nat → Prop} (h : Dij T D n dir out K H S) {y : Nat} (hy : H y) : 0 ≤ K.getD y 0 := by
  rcases h.suppH y hy with ⟨_, h0⟩ | ⟨a, ha, _, hw, he⟩
  · omega
  · have := hT.cost a ha
    have := hw.2.1
    omega

theorem getK (L : List Int) (i j : Nat) (c : Int) (hi : i < L.length) : (L.set i c).getD j 0 = if j = i then c else L.getD j 0 := by
  by_cases h : j = i
  · subst h; simp [List.getD_eq_getElem?_getD, hi]
  · simp [List.getD_eq_getElem?_getD, List.getElem?_set, Ne.symm h, h]

theorem cnt_neg (N : Nat) : cnt (List.replicate N (-1)) = 0 := by
  induction N with
  | zero => rfl
  | succ N ih => rw [List.replicate_succ]; simp [cnt, ih]
theorem at_neg (N x : Nat) : at' (List.replicate N (-1)) (x : Int) = -1 := by
  unfold at'
  rw [List.getD_eq_getElem?_getD, List.getElem?_replicate]
  split <;> rfl

/-- At first the root alone is in the queue. -/
theorem dij_start {T : Topo} {D : List Bool} {N n : Nat} {dir : Bool} (hN : (N : Int) = T.nodes) (hn : n < N) {K : List Int} {H : Nat → Prop} (hK : K.getD n 0 = 0) (hH : ∀ y, H y ↔ y = n) : Dij T D n dir (List.replicate N (-1)) K H (fun _ => False) where
  len := by simpa using hN
  ge x _ := by rw [at_neg]; omega
  root := .inr ⟨(hH n).2 rfl, hK⟩
  hneg y hy := by have := (hH y).1 hy; subst this; exact ⟨by omega, at_neg N y⟩
  mono x y _ hy := by have := (hH y).1 hy; subst this; rw [at_neg, hK]; omega
  suppH y hy := by have := (hH y).1 hy; subst this; exact .inl ⟨rfl, hK⟩
  supp x _ h := by rw [at_neg] at h; omega
  closed a _ _ hw := by
    have := hw.2.1
    have h2 : at' (List.replicate N (-1)) (arcY T dir a) = -1 := by
      unfold at'
      rw [List.getD_eq_getElem?_getD, List.getElem?_replicate]
      split <;> rfl
    rw [h2] at this; omega
  ub x _ := by rw [at_neg, cnt_neg]; omega
  ubH y hy := by have := (hH y).1 hy; subst this; rw [hK, cnt_neg]; omega

/-- The node with the least key is settled. -/
theorem dij_pop {T : Topo} (hT : Sound T) {D : List Bool} {n : Nat} {dir : Bool} {out K : List Int} {H : Nat → Prop} (h : Dij T D n dir out K H (fun _ => False)) {i : Nat} (hi : H i) (hmin : ∀ j, H j → K.getD i 0 ≤ K.getD j 0) (hKl : i < K.length) {H' : Nat → Prop} (hH' : ∀ j, H' j ↔ H j ∧ j ≠ i) :
    Dij T D n dir (out.set i (K.getD i 0)) (K.set i 0) H' (fun a => arcY T dir a = (i : Int)) ∧ cnt (out.set i (K.getD i 0)) = cnt out + 1 ∧ (∀ x : Nat, (x : Int) < T.nodes → at' (out.set i (K.getD i 0)) (x : Int) ≤ K.getD i 0) ∧ at' (out.set i (K.getD i 0)) (i : Int) = K.getD i 0 ∧ 0 ≤ K.getD i 0 ∧ K.getD i 0 ≤ 65535 * (cnt out : Int) := by
  obtain ⟨hin, hineg⟩ := h.hneg i hi
  have hil : i < out.length := by have := h.len; omega
  have hd := h.key hT hi
  have hdu := h.ubH i hi
  have hat := fun x : Nat => at_set out i x (K.getD i 0) hil
  have hK : ∀ j, j ≠ i → (K.set i 0).getD j 0 = K.getD j 0 := fun j hj => by rw [getK _ _ _ _ hKl, if_neg hj]
  have hcnt : cnt (out.set i (K.getD i 0)) = cnt out + 1 := by
    rw [cnt_set out i _ hil hd, if_neg]
    have : out.getD i (-1) = at' out (i : Int) := by simp [at']
    rw [this, hineg]; omega
  -- where a settled node was settled before
  have hy : ∀ a, a < 2 * T.links.length → Way T D n dir out a → Way T D n dir (out.set i (K.getD i 0)) a ∧ at' (out.set i (K.getD i 0)) (arcY T dir a) = at' out (arcY T dir a) := fun a ha hw => by
    obtain ⟨y, hy⟩ := Int.eq_ofNat_of_zero_le (hT.y dir a ha).1
    have hne : y ≠ i := fun e => by
      have := hw.2.1
      rw [hy, e, hineg] at this; omega
    have e1 : at' (out.set i (K.getD i 0)) (arcY T dir a) = at' out (arcY T dir a) := by rw [hy, hat y, if_neg hne]
    exact ⟨⟨hw.1, by rw [e1]; exact hw.2.1, hw.2.2⟩, e1⟩
  refine ⟨⟨by simpa using h.len, fun x hx => ?_, ?_, fun y hy' => ?_, fun x y hx hy' => ?_, fun y hy' => ?_, fun x hx h0 => ?_, fun a ha hs hw => ?_, fun x hx => ?_, fun y hy' => ?_⟩, hcnt, fun x hx => ?_, by rw [hat i, if_pos rfl], hd, hdu⟩
  · rw [hat x]; split
    · omega
    · exact h.ge x hx
  · by_cases e : n = i
    · subst e
      left
      rw [hat n, if_pos rfl]
      rcases h.root with h0 | ⟨_, h0⟩
      · omega
      · exact h0
    · rcases h.root with h0 | ⟨h1, h0⟩
      · left; rw [hat n, if_neg e]; exact h0
      · right; exact ⟨(hH' n).2 ⟨h1, e⟩, by rw [hK n e]; exact h0⟩
  · obtain ⟨h1, h2⟩ := (hH' y).1 hy'
    obtain ⟨h3, h4⟩ := h.hneg y h1
    exact ⟨h3, by rw [hat y, if_neg h2]; exact h4⟩
  · obtain ⟨h1, h2⟩ := (hH' y).1 hy'
    rw [hat x, hK y h2]
    split
    · exact hmin y h1
    · exact h.mono x y hx h1
  · obtain ⟨h1, h2⟩ := (hH' y).1 hy'
    rw [hK y h2]
    rcases h.suppH y h1 with h3 | ⟨a, ha, hx, hw, he⟩
    · exact .inl h3
    · obtain ⟨k1, k2⟩ := hy a ha hw
      exact .inr ⟨a, ha, hx, k1, by rw [k2]; exact he⟩
  · rw [hat x] at h0 ⊢
    by_cases e : x = i
    · subst e
      rw [if_pos rfl]
      rcases h.suppH x hi with ⟨h3, _⟩ | ⟨a, ha, hx, hw, he⟩
      · exact .inl h3
      · obtain ⟨k1, k2⟩ := hy a ha hw
        exact .inr ⟨a, ha, hx, k1, by rw [k2]; exact he⟩
    · rw [if_neg e] at h0 ⊢
      rcases h.supp x hx h0 with h3 | ⟨a, ha, hx, hw, he⟩
      · exact .inl h3
      · obtain ⟨k1, k2⟩ := hy a ha hw
        exact .inr ⟨a, ha, hx, k1, by rw [k2]; exact he⟩
  · obtain ⟨y, hya⟩ := Int.eq_ofNat_of_zero_le (hT.y dir a ha).1
    have hne : y ≠ i := fun e => hs (by rw [hya, e])
    have e1 : at' (out.set i (K.getD i 0)) (arcY T dir a) = at' out (arcY T dir a) := by rw [hya, hat y, if_neg hne]
    have hw0 : Way T D n dir out a := ⟨hw.1, by rw [← e1]; exact hw.2.1, hw.2.2⟩
    obtain ⟨x, hxa⟩ := Int.eq_ofNat_of_zero_le (hT.x dir a ha).1
    have hc := h.closed a ha (fun f => f) hw0
    rw [e1]
    rw [hxa] at hc ⊢
    rw [Int.toNat_natCast] at hc ⊢
    rw [hat x]
    by_cases e : x = i
    · subst e
      left
      rw [if_pos rfl]
      rcases hc with ⟨h1, _⟩ | ⟨_, h2⟩
      · rw [hineg] at h1; omega
      · exact ⟨hd, h2⟩
    · rw [if_neg e]
      rcases hc with h1 | ⟨h1, h2⟩
      · exact .inl h1
      · exact .inr ⟨(hH' x).2 ⟨h1, e⟩, by rw [hK x e]; exact h2⟩
  · rw [hat x, hcnt]
    split
    · omega
    · have := h.ub x hx; omega
  · obtain ⟨h1, h2⟩ := (hH' y).1 hy'
    rw [hK y h2, hcnt]
    have := h.ubH y h1; omega
  · rw [hat x]
    split
    · omega
    · exact h.mono x i hx hi

/-- No arc leads on from a node that is passed by no path. -/
theorem dij_over {T : Topo} {D : List Bool} {n : Nat} {dir : Bool} {out K : List Int} {H : Nat → Prop} {i : Nat} (h : Dij T D n dir out K H (fun a => arcY T dir a = (i : Int))) (hi : i ≠ n) (ho : overN T i = true) : Dij T D n dir out K H (fun _ => False) :=
  { h with closed := fun a ha _ hw => h.closed a ha (fun e => by
      rcases hw.2.2 with h1 | h1
      · rw [h1] at e; exact hi (by omega)
      · rw [e, Int.toNat_natCast, ho] at h1; cases h1) hw }
/-- An arc has been looked at, and tells nothing new. -/
theorem dij_old {T : Topo} {D : List Bool} {n : Nat} {dir : Bool} {out K : List Int} {H S S' : Nat → Prop} (h : Dij T D n dir out K H S) {a : Nat} (hS : ∀ b, b < 2 * T.links.length → S b → S' b ∨ b = a)
    (hc : Way T D n dir out a → (0 ≤ at' out (arcX T dir a) ∧ at' out (arcX T dir a) ≤ at' out (arcY T dir a) + costN T a) ∨ (H (arcX T dir a).toNat ∧ K.getD (arcX T dir a).toNat 0 ≤ at' out (arcY T dir a) + costN T a)) : Dij T D n dir out K H S' :=
  ⟨h.len, h.ge, h.root, h.hneg, h.mono, h.suppH, h.supp, fun b hb hs hw => by
      by_cases e : b = a
      · subst e
        exact hc hw
      · exact h.closed b hb (fun hb' => (hS b hb hb').elim hs e) hw, h.ub, h.ubH⟩
/-- An arc leads to a node with a new key. -/
theorem dij_set {T : Topo} (hT : Sound T) {D : List Bool} {n : Nat} {dir : Bool} {out K : List Int} {H H' S S' : Nat → Prop} (h : Dij T D n dir out K H S) {a m : Nat} (ha : a < 2 * T.links.length) (hS : ∀ b, b < 2 * T.links.length → S b → S' b ∨ b = a)
    (hw : Way T D n dir out a) (hm : arcX T dir a = (m : Int)) (hneg : at' out (m : Int) < 0) (htop : ∀ x : Nat, (x : Int) < T.nodes → at' out (x : Int) ≤ at' out (arcY T dir a)) (hub : at' out (arcY T dir a) + 65535 ≤ 65535 * (cnt out : Int))
    (hnew : ¬ H m ∨ at' out (arcY T dir a) + costN T a < K.getD m 0) (hml : m < K.length) (hH' : ∀ j, H' j ↔ H j ∨ j = m) :
    Dij T D n dir out (K.set m (at' out (arcY T dir a) + costN T a)) H' S' := by
  have hc := hT.cost a ha
  have hmN : (m : Int) < T.nodes := by have := (hT.x dir a ha).2; omega
  have hK : ∀ j, (K.set m (at' out (arcY T dir a) + costN T a)).getD j 0 = if j = m then at' out (arcY T dir a) + costN T a else K.getD j 0 := fun j => getK _ _ _ _ hml
  have hy0 := hw.2.1
  refine ⟨h.len, h.ge, ?_, fun y hy => ?_, fun x y hx hy => ?_, fun y hy => ?_, h.supp, fun b hb hs hwb => ?_, h.ub, fun y hy => ?_⟩
  · rcases h.root with h0 | ⟨h1, h0⟩
    · exact .inl h0
    · right
      refine ⟨(hH' n).2 (.inl h1), ?_⟩
      rw [hK n, if_neg, h0]
      intro e
      subst e
      rcases hnew with h2 | h2
      · exact h2 h1
      · omega
  · rcases (hH' y).1 hy with h1 | rfl
    · exact h.hneg y h1
    · have := h.ge y hmN
      exact ⟨hmN, by omega⟩
  · rw [hK y]
    have := htop x hx
    split
    · omega
    · rename_i e
      exact h.mono x y hx (((hH' y).1 hy).resolve_right e)
  · rw [hK y]
    by_cases e : y = m
    · subst e
      rw [if_pos rfl]
      exact .inr ⟨a, ha, hm, hw, rfl⟩
    · rw [if_neg e]
      exact h.suppH y (((hH' y).1 hy).resolve_right e)
  · obtain ⟨x, hx⟩ := Int.eq_ofNat_of_zero_le (hT.x dir b hb).1
    by_cases e : b = a
    · subst e
      right
      rw [hm, Int.toNat_natCast]
      exact ⟨(hH' m).2 (.inr rfl), by rw [hK m, if_pos rfl]; exact Int.le_refl _⟩
    · have h1 := h.closed b hb (fun hb' => (hS b hb hb').elim hs e) hwb
      rw [hx, Int.toNat_natCast] at h1 ⊢
      rcases h1 with h1 | ⟨h1, h2⟩
      · exact .inl h1
      · right
        refine ⟨(hH' x).2 (.inl h1), ?_⟩
        rw [hK x]
        split
        · rename_i e'
          subst e'
          rcases hnew with h3 | h3
          · exact absurd h1 h3
          · omega
        · exact h2
  · rw [hK y]
    split
    · omega
    · rename_i e
      exact h.ubH y (((hH' y).1 hy).resolve_right e)
/-- With an empty queue, the distances are found. -/
theorem dij_end {T : Topo} {D : List Bool} {n : Nat} {dir : Bool} {out K : List Int} {H : Nat → Prop} (h : Dij T D n dir out K H (fun _ => False)) (hH : ∀ y, ¬ H y) : IsDist T D n dir out :=
  ⟨h.len, h.root.resolve_right (fun k => hH n k.1), h.ge, fun a ha hw => (h.closed a ha (fun f => f) hw).resolve_right (fun k => hH _ k.1), h.supp⟩
end Net
end Go.Proofs.YtbpgndbjbaoolaaGreat

/- Package spf: run, the search by a queue. -/
namespace Go.Proofs.YtbpgndbjbaoolaaGreat
set_option linter.unusedVariables false
set_option linter.unusedSimpArgs false
namespace PW
open Go.RowKit Reg Mem Net Heap

theorem hok_min {N n : Nat} {K P O : List Int} (h : HOK N n K P O) (hN : N ≤ 65536) {i : Nat} (hi : O.getD 0 0 = (i : Int)) (j : Nat) (hj : Held O (j : Int)) : K.getD i 0 ≤ K.getD j 0 := by
  obtain ⟨hP, hO, hK, hH⟩ := h
  obtain ⟨p, hp, he⟩ := hj
  have h1 := heapy_min hH p (by omega)
  unfold rk at h1
  rw [hi, he] at h1
  have h2 := hP.item p hp
  have := rank_key (by omega) (by omega) h1
  simpa using this
theorem hok_new (N : Nat) : HOK N 0 (List.replicate N 0) (List.replicate N 0) [] :=
  ⟨⟨by simp, fun p hp => by simp at hp, fun i hi => .inl (by simp [List.getD_eq_getElem?_getD, List.getElem?_replicate, hi])⟩, rfl, by simp, fun q _ hq => by omega⟩
theorem W_norm {P : Program} {M : Nat} {c : Code} {t : Tms} {Q : Exit → St → Prop} {b : Bool} {d : Option Blk} {N n : Nat} {K Pl O : List Int} (hd : PureD d) (hT : TRen [0, 1, 2, 3, 5] t t) (h : W P M 0 c ⟨t, hsto false d N n K Pl O⟩ Q) : W P M 0 c ⟨t, hsto b d N n K Pl O⟩ Q := by
  cases b
  · exact h
  · exact W_ren [0, 1, 2, 3, 5] hT (.same hd rfl <| .kept rfl (.cells (RenL.cons (Ren.own (i := 2) rfl) <| RenL.cons (Ren.own (i := 3) rfl) <| RenL.cons (Ren.own (i := 4) rfl) RenL.nil)) <| .kept rfl (.row RenL.pure) <| .kept rfl (.row RenL.pure) <| .kept rfl (.row RenL.pure) <| .nil) rfl rfl h
theorem W_sto {P : Program} {M L : Nat} {c : Code} {t : Tms} {Q : Exit → St → Prop} {σ σ' : Sto} (he : σ = σ') (h : W P M L c ⟨t, σ'⟩ Q) : W P M L c ⟨t, σ⟩ Q := by subst he; exact h
/-- Pop in one form. -/
theorem pop_one {N n : Nat} (d : Option Blk) (hd : PureD d) (K P O : List Int) (h : HOK N n K P O) (hN : N ≤ 65536) :
    CanS Tryz.prog 155 [.ptr 1 0] (hsto false d N n K P O) (fun r σ' => ∃ (b ok : Bool) (i n' : Nat) (key : Int) (K' P' O' : List Int), r = .tuple [num i, num key, flag ok] ∧ σ' = hsto b d N n' K' P' O' ∧
      ((ok = false ∧ n = 0) ∨ (ok = true ∧ i < N ∧ Held O (i : Int) ∧ (∀ j : Nat, Held O (j : Int) → K.getD i 0 ≤ K.getD j 0) ∧ key = K.getD i 0 ∧ K' = K.set i 0 ∧ HOK N n' K' P' O' ∧ ∀ j : Nat, Held O' (j : Int) ↔ Held O (j : Int) ∧ j ≠ i))) := by
  refine (pop_can d hd K P O h hN).mono fun r σ' hr => ?_
  rcases hr with ⟨h1, rfl, rfl⟩ | ⟨n', i, P', O', h1, h2, h3, rfl, rfl, h4, h5⟩
  · exact ⟨false, false, 0, n, 0, K, P, O, rfl, rfl, .inl ⟨rfl, h1⟩⟩
  · refine ⟨true, true, i, n', K.getD i 0, K.set i 0, P', O', rfl, rfl, .inr ⟨rfl, h2, ⟨0, by have := h.2.1; omega, h3⟩, hok_min h hN h3, rfl, rfl, h4, fun j => (h5 j).trans ?_⟩⟩
    constructor <;> rintro ⟨a, b⟩ <;> exact ⟨a, by omega⟩

def searchP (T : Topo) (D : List Bool) (n : Nat) (f1 f2 : FuncId) (cap1 cap2 : List PV) : List PV := [.raw (.int .i64 T.nodes), boolsV T.over, .slice T.links.length (lnksP T.links), boolsV D, num n, .func f1 cap1, .func f2 cap2]
instance (T : Topo) (D : List Bool) (n : Nat) (f1 f2 : FuncId) (cap1 cap2 : List PV) [IsPureL cap1] [IsPureL cap2] : IsPureL (searchP T D n f1 f2 cap1 cap2) := by unfold searchP; infer_instance
/-- The arcs that are followed from i. -/
def arcsAt (T : Topo) (dir : Bool) (i : Nat) : List Int := ((List.range (2 * T.links.length)).filter fun a => decide (arcY T dir a = (i : Int))).map Int.ofNat
theorem arcsAt_mem (T : Topo) (dir : Bool) (i : Nat) (a : Nat) : (a : Int) ∈ arcsAt T dir i ↔ a < 2 * T.links.length ∧ arcY T dir a = (i : Int) := by
  unfold arcsAt
  simp only [List.mem_map, List.mem_filter, List.mem_range, decide_eq_true_eq]
  constructor
  · rintro ⟨b, h, e⟩
    have : b = a := Int.ofNat.inj e
    subst this; exact h
  · intro h; exact ⟨a, h, rfl⟩
theorem arcsAt_get (T : Topo) (dir : Bool) (i k : Nat) (h : k < (arcsAt T dir i).length) : ∃ a : Nat, (arcsAt T dir i).getD k 0 = (a : Int) ∧ a < 2 * T.links.length ∧ arcY T dir a = (i : Int) := by
  have hm : (arcsAt T dir i).getD k 0 ∈ arcsAt T dir i := getD_mem h
  have : ∃ a : Nat, (arcsAt T dir i).getD k 0 = (a : Int) := by
    unfold arcsAt at hm ⊢
    obtain ⟨b, _, e⟩ := List.mem_map.1 hm
    exact ⟨b, e.symm⟩
  obtain ⟨a, ha⟩ := this
  rw [ha] at hm
  exact ⟨a, ha, (arcsAt_mem T dir i a).1 hm⟩
theorem arcsAt_len (T : Topo) (dir : Bool) (i : Nat) : (arcsAt T dir i).length ≤ 2 * T.links.length := by
  unfold arcsAt
  rw [List.length_map]
  exact Nat.le_trans (List.length_filter_le _ _) (by simp)
theorem rep_step (N k : Nat) (h : k < N) : (List.replicate k (-1 : Int) ++ List.replicate (N - k) 0).set k (-1) = List.replicate (k + 1) (-1) ++ List.replicate (N - (k + 1)) 0 := by
  rw [List.set_append_right _ _ (by simp), List.length_replicate, Nat.sub_self, show N - k = (N - (k + 1)) + 1 by omega, List.replicate_succ, List.set_cons_zero, List.replicate_succ', List.append_assoc]
  rfl
theorem zeros_ints_pre (N : Nat) : zeros [.raw (.int .i64 0)] N = intsP (List.replicate 0 (-1) ++ List.replicate (N - 0) 0) := by simpa using zeros_ints N
theorem pureRow (n : Nat) (L : List Int) : PureD (some (.row 3 1 n (intsP L))) := fun b h => by
  cases h
  exact inferInstanceAs (IsPureL (intsP L))
theorem purKey {σ : Sto} {K P O : List Int} (h : Pur σ (.ptr 1 0) (hpin K P O)) (p : Int) : PurL σ ([.ptr 1 0, num p] ++ []) [hpin K P O, num p] := PurL.cons h (PurL.cons Pur.pure PurL.nil)

set_option maxRecDepth 10000 in
set_option maxHeartbeats 4000000 in
theorem run_can (T : Topo) (D : List Bool) (n : Nat) (dir : Bool) (f1 f2 : FuncId) (cap1 cap2 : List PV) [IsPureL cap1] [IsPureL cap2] (hv : validB T = true) (hf : fitsB T D = true) (hn : (n : Int) < T.nodes) (he1 : enters Tryz.prog f1 = true) (he2 : enters Tryz.prog f2 = true)
    (h1 : ∀ i : Nat, (i : Int) < T.nodes → Can Tryz.prog f1 ([num i] ++ cap1) (· = intsV (arcsAt T dir i))) (h2 : ∀ a : Nat, a < 2 * T.links.length → Can Tryz.prog f2 ([num a] ++ cap2) (· = num (arcX T dir a))) :
    Can Tryz.prog 128 [.agg (searchP T D n f1 f2 cap1 cap2)] (· = intsV (distL T D n dir)) := by
  have hbd := valid_bd hv
  have hS := sound_of hv
  obtain ⟨N, hN⟩ : ∃ N : Nat, T.nodes = (N : Int) := ⟨T.nodes.toNat, by omega⟩
  have hN64 : N ≤ 64 := by have := hS.nodes; omega
  have hnN : n < N := by omega
  refine can_of Tryz.func128 rfl Tryz.ntmps128 rfl ?_
  refine W_cs (.a 2 rfl <| .k [1] rfl) ?_
  refine W_rs ?_
  refine WR_a 3 rfl <| WR_l (l_make rfl (fok.rk.get rfl) rfl rfl hN hN ⟨by unfold maxLen; omega, by omega⟩) rfl <| WR_a 1 rfl <| WR_k [1, 3] rfl ?_
  refine W_seq ?_
  refine W_cs (.a 3 rfl <| .k [1, 3, 21, 22] rfl) ?_
  refine W_block ?_
  refine W_k [1, 3, 21, 22] rfl ?_
  refine W_loop (fun r s => ∃ k, k ≤ N ∧ r = N - k ∧ s = ⟨[(1, .pin (searchP T D n f1 f2 cap1 cap2) 0), (3, .own 0), (21, num N), (22, num k)], [some (.row 3 1 N (intsP (List.replicate k (-1) ++ List.replicate (N - k) 0)))]⟩) N ⟨0, by omega, by omega, by rw [← zeros_ints_pre N]; rfl⟩ ?_
  rintro r s ⟨k, hk, rfl, rfl⟩
  refine W_cs (.a 1 rfl <| .k [1, 3, 21, 22, 23] rfl) ?_
  refine W_seq ?_
  refine W_cond rfl (fun hc => ?_) (fun hc => ?_)
  · have hlt : k < N := by have := of_decide_eq_true hc; omega
    refine W_skip ?_
    refine W_seq ?_
    refine W_block ?_
    refine W_cs (.a 2 rfl <| .k [1, 3, 4, 21, 22] rfl) ?_
    refine W_region ?_
    refine WR_a 2 rfl <| WR_v (y_ix (k) rfl) rfl <| WR_loud0 ((by first | exact l_storeInts rfl (fok.tk.get rfl) rfl rfl rfl (by first | omega | (simp; omega)) | exact l_storeBools rfl (fok.tk.get rfl) rfl rfl rfl (by first | omega | (simp; omega)))) rfl rfl <| WR_k [1, 3, 21, 22] rfl ?_
    refine W_sto (σ' := [some (.row 3 1 N (intsP (List.replicate (k + 1) (-1) ++ List.replicate (N - (k + 1)) 0)))]) (by rw [← rep_step N k hlt]; rfl) ?_
    refine W_chain (.v (y_ar rfl) rfl <| .a 1 rfl <| .k [1, 3, 21, 22] rfl) ?_
    exact ⟨N - (k + 1), by omega, k + 1, by omega, rfl, rfl⟩
  · have hke : k = N := by have := of_decide_eq_false hc; omega
    subst hke
    refine W_sto (σ' := [some (.row 3 1 k (intsP (List.replicate k (-1))))]) (by simp) ?_
    refine W_exit ?_
    refine W_rs ?_
    refine WR_a 2 rfl <| WR_v (y_ld rfl ((show some (num T.nodes) = some (num (k : Int)) by rw [hN]))) rfl <| WR_cS rfl rfl (CanS.mono (new_can k (some (.row 3 1 k (intsP (List.replicate k (-1))))) (pureRow _ _) (by omega)) (fun _ σ' h => ?_))
    obtain ⟨rfl, rfl⟩ := h
    refine WR_a 5 rfl <| WR_k [1, 3, 5] rfl ?_
    refine W_rs ?_
    refine WR_a 3 rfl <| WR_cS rfl rfl (CanS.mono (set_can (some (.row 3 1 k (intsP (List.replicate k (-1))))) (pureRow _ _) _ _ _ (hok_new k) (by omega) n hnN 0) (fun _ σ' h => ?_))
    obtain ⟨b, n1, P1, O1, rfl, hok, hheld⟩ := h
    refine WR_k [1, 3, 5] rfl ?_
    refine W_norm (pureRow _ _) (.cons 1 rfl Ren.pure <| .cons 3 rfl (Ren.own (i := 0) rfl) <| .cons 5 rfl (Ren.ptr (i := 1) rfl) <| .nil) ?_
    have hD0 := dij_start (T := T) (D := D) (N := k) (n := n) (dir := dir) hN.symm hnN (K := (List.replicate k (0 : Int)).set n 0) (H := fun y => Held O1 (y : Int)) (by rw [getK _ _ _ _ (by simpa using hnN), if_pos rfl]) (fun y => (hheld y).trans ⟨fun h => h.elim (fun ⟨p, hp, _⟩ => by simp at hp) (fun e => by omega), fun e => .inr (by omega)⟩)
    generalize (List.replicate k (0 : Int)).set n 0 = K1 at hok hD0
    generalize List.replicate k (-1 : Int) = out1 at hD0
    clear hheld
    refine W_block ?_
    refine W_k [1, 3, 5] rfl ?_
    refine W_loop (fun r s => ∃ out K P O q, Dij T D n dir out K (fun y => Held O (y : Int)) (fun _ => False) ∧ HOK k q K P O ∧ r = k + 1 - cnt out ∧ s = ⟨[(1, .pin (searchP T D n f1 f2 cap1 cap2) 0), (3, .own 0), (5, .ptr 1 0)], hsto false (some (.row 3 1 k (intsP out))) k q K P O⟩) (k + 1 - cnt out1) ⟨out1, K1, P1, O1, n1, hD0, hok, rfl, rfl⟩ ?_
    clear hD0 hok out1 K1 P1 O1 n1 b
    rintro r s ⟨out, K, P, O, q, hD, hok, rfl, rfl⟩
    refine W_block ?_
    refine W_rs ?_
    refine WR_a 1 rfl <| WR_cS rfl rfl (CanS.mono (pop_one (some (.row 3 1 k (intsP out))) (pureRow _ _) K P O hok (by omega)) (fun _ σ' h => ?_))
    obtain ⟨b, ok, i, n1, key, K1, P1, O1, rfl, rfl, hpop⟩ := h
    refine WR_a 7 rfl <| WR_k [1, 3, 5, 7, 8, 9] rfl ?_
    refine W_norm (pureRow _ _) (.cons 1 rfl Ren.pure <| .cons 3 rfl (Ren.own (i := 0) rfl) <| .cons 5 rfl (Ren.ptr (i := 1) rfl) <| .cons 7 rfl Ren.pure <| .cons 8 rfl Ren.pure <| .cons 9 rfl Ren.pure <| .nil) ?_
    refine W_seq ?_
    refine W_cs (.a 2 rfl <| .k [1, 3, 5, 7, 8, 47] rfl) ?_
    refine W_cond rfl (fun hc => ?_) (fun hc => ?_)
    · have hok0 : ok = false := by cases ok; rfl; cases hc
      have hq0 : q = 0 := by
        rcases hpop with ⟨_, h⟩ | ⟨h, _⟩
        · exact h
        · rw [hok0] at h; cases h
      have hdist : distL T D n dir = out := distL_eq hS (dij_end hD (fun y ⟨p, hp, _⟩ => by have := hok.2.1; omega))
      refine W_cs (.a 2 rfl <| .k [2] rfl) ?_
      refine W_ret ?_
      exact ⟨_, _, ResL.of rfl, Pur.ownL rfl PurL.pure, by rw [hdist]; unfold intsV; rw [show out.length = k by have := hD.len; omega]⟩
    · have hok1 : ok = true := by cases ok; cases hc; rfl
      rcases hpop with ⟨h, _⟩ | ⟨_, hiN, hHi, hmin, rfl, rfl, hok', hH'⟩
      · rw [hok1] at h; cases h
      obtain ⟨hD1, hcnt, htop, hati, hk0, hku⟩ := dij_pop hS hD hHi hmin (by rw [hok.2.2.1]; exact hiN) hH'
      have hol : out.length = k := by have := hD.len; omega
      have hcl := cnt_le (out.set i (K.getD i 0))
      have hiT : (i : Int) < T.nodes := by omega
      refine W_skip ?_
      refine W_rs ?_
      refine WR_a 3 rfl <| WR_v (y_ix (i) rfl) rfl <| WR_loud0 ((by first | exact l_storeInts rfl (fok.tk.get rfl) rfl rfl rfl (by first | omega | (simp; omega)) | exact l_storeBools rfl (fok.tk.get rfl) rfl rfl rfl (by first | omega | (simp; omega)))) rfl rfl <| WR_k [1, 3, 5, 7, 8] rfl ?_
      refine W_sto (σ' := hsto false (some (.row 3 1 k (intsP (out.set i (K.getD i 0))))) k n1 (K.set i 0) P1 O1) rfl ?_
      have ho1 : (out.set i (K.getD i 0)).length = k := by simpa using hol
      have hmeas : k + 1 - cnt (out.set i (K.getD i 0)) < k + 1 - cnt out := by have := cnt_le (out.set i (K.getD i 0)); omega
      generalize K.getD i 0 = d at hD1 hcnt htop hati hk0 hku ho1 hcl hmeas
      generalize out.set i d = out1 at hD1 hcnt htop hati ho1 hcl hmeas
      generalize K.set i 0 = K1 at hD1 hok'
      refine W_seq ?_
      obtain ⟨q1, hq1⟩ : ∃ q, decide ((i : Int) ≠ (n : Int)) = q := ⟨_, rfl⟩
      obtain ⟨q2, hq2⟩ : ∃ q, overN T i = q := ⟨_, rfl⟩
      have hov : T.over.length = 0 ∨ i < T.over.length := by have := hbd.2.2.2; omega
      refine W_csK 62 (.raw (.bool (q1 && q2))) [1, 3, 5, 7, 8] rfl ?_ ?_
      · refine .a 3 rfl <| .v (y_q rfl (hq1)) rfl <| .a 1 rfl <| ?_
        cases q1
        · exact .a 5 rfl <| .k [62, 1, 3, 5, 7, 8] rfl
        · exact .a 3 rfl <| .c rfl (hq2 ▸ over_can T i hov) rfl <| .a 1 rfl <| .k [62, 1, 3, 5, 7, 8] rfl
      refine W_cond rfl (fun hc => ?_) (fun hc => ?_)
      · obtain ⟨c1, c2⟩ := Bool.and_eq_true_iff.1 hc
        rw [c1] at hq1
        rw [c2] at hq2
        have hDe := dij_over hD1 (by have := of_decide_eq_true hq1; omega) hq2
        refine W_sub (.cons (k := 1) rfl <| .cons (k := 3) rfl <| .cons (k := 5) rfl <| Sub.nil _) ?_
        refine W_exit ?_
        first
          | exact ⟨_, hmeas, out1, K2, P2, O2, q2, hDe, hok2, rfl, rfl⟩
          | exact ⟨_, hmeas, out1, K1, P1, O1, n1, hDe, hok', rfl, rfl⟩
      · have hfree : i = n ∨ overN T i = false := by
          by_cases e : i = n
          · exact .inl e
          · right
            have : q1 = true := by rw [← hq1]; simp; omega
            rw [this, Bool.true_and] at hc
            rw [hq2, hc]
        clear hq1 hq2 hc
        refine W_skip ?_
        refine W_cs (.a 3 rfl <| .v (y_call rfl he1 rfl rfl (h1 i hiT)) rfl <| .a 2 rfl <| .k [1, 3, 5, 8, 66, 67, 68] rfl) ?_
        have hll := arcsAt_len T dir i
        have hD2 : Dij T D n dir out1 K1 (fun y => Held O1 (y : Int)) (fun a => arcY T dir a = (i : Int) ∧ (a : Int) ∉ (arcsAt T dir i).take 0) := ⟨hD1.len, hD1.ge, hD1.root, hD1.hneg, hD1.mono, hD1.suppH, hD1.supp, fun a ha hs => hD1.closed a ha (fun e => hs ⟨e, by simp⟩), hD1.ub, hD1.ubH⟩
        refine W_block ?_
        refine W_k [1, 3, 5, 8, 66, 67, 68] rfl ?_
        refine W_loop (fun r s => ∃ j K P O q, j ≤ (arcsAt T dir i).length ∧ Dij T D n dir out1 K (fun y => Held O (y : Int)) (fun a => arcY T dir a = (i : Int) ∧ (a : Int) ∉ (arcsAt T dir i).take j) ∧ HOK k q K P O ∧ r = (arcsAt T dir i).length - j ∧ s = ⟨[(1, .pin (searchP T D n f1 f2 cap1 cap2) 0), (3, .own 0), (5, .ptr 1 0), (8, num d), (66, intsV (arcsAt T dir i)), (67, num (arcsAt T dir i).length), (68, num j)], hsto false (some (.row 3 1 k (intsP out1))) k q K P O⟩) (arcsAt T dir i).length ⟨0, K1, P1, O1, n1, by omega, hD2, hok', rfl, rfl⟩ ?_
        clear hD2 hok' hD1 K1 P1 O1 n1 hH' hmin hHi hD hok
        rintro r s ⟨j, K2, P2, O2, q2, hj, hD2, hok2, rfl, rfl⟩
        refine W_cs (.a 1 rfl <| .k [1, 3, 5, 8, 66, 67, 68, 69] rfl) ?_
        refine W_seq ?_
        refine W_cond rfl (fun hc => ?_) (fun hc => ?_)
        · have hlt : j < (arcsAt T dir i).length := by have := of_decide_eq_true hc; omega
          obtain ⟨a, ha, ham, hay⟩ := arcsAt_get T dir i j hlt
          obtain ⟨m, hm⟩ := Int.eq_ofNat_of_zero_le (hS.x dir a ham).1
          have hmN : m < k := by have := (hS.x dir a ham).2; omega
          have hcb := hS.cost a ham
          have hDl : D.length = 0 ∨ a < D.length := by simp only [fitsB, decide_eq_true_eq] at hf; omega
          have hSS : ∀ b, b < 2 * T.links.length → (arcY T dir b = (i : Int) ∧ (b : Int) ∉ (arcsAt T dir i).take j) → (arcY T dir b = (i : Int) ∧ (b : Int) ∉ (arcsAt T dir i).take (j + 1)) ∨ b = a := fun b _ ⟨e1, e2⟩ => by
            by_cases e : b = a
            · exact .inr e
            · left
              refine ⟨e1, fun hm' => ?_⟩
              rw [take_step _ j 0 hlt, ha] at hm'
              rcases List.mem_append.1 hm' with h | h
              · exact e2 h
              · simp at h; exact e (by omega)
          have hayi : at' out1 (arcY T dir a) = d := by rw [hay]; exact hati
          have hga : out1.getD m 0 = at' out1 (m : Int) := by simp [at', List.getD_eq_getElem?_getD, show m < out1.length by omega]
          refine W_skip ?_
          refine W_seq ?_
          refine W_block ?_
          refine W_cs (.v (y_ix (j) rfl) rfl <| .v (y_ld rfl ((ints_get _ j hlt).trans (by rw [ha]))) rfl <| .a 1 rfl <| .k [1, 3, 5, 8, 11, 66, 67, 68] rfl) ?_
          refine W_cs (.a 3 rfl <| .v (y_call rfl he2 rfl rfl (hm ▸ h2 a ham)) rfl <| .a 1 rfl <| .k [1, 3, 5, 8, 11, 12, 66, 67, 68] rfl) ?_
          refine W_seq ?_
          obtain ⟨p1, hp1⟩ : ∃ q, downN D a = q := ⟨_, rfl⟩
          obtain ⟨p2, hp2⟩ : ∃ q, decide (0 ≤ out1.getD m 0) = q := ⟨_, rfl⟩
          refine W_csK 86 (.raw (.bool (p1 || p2))) [1, 3, 5, 8, 11, 12, 66, 67, 68] rfl ?_ ?_
          · refine .a 3 rfl <| .c rfl (hp1 ▸ down_can D a hDl) rfl <| .a 1 rfl <| ?_
            cases p1
            · exact .a 2 rfl <| .v (y_ix (m) rfl) rfl <| .v (y_ld rfl (ints_get out1 m (by omega))) rfl <| .v (y_q rfl (hp2)) rfl <| .a 1 rfl <| .k [86, 1, 3, 5, 8, 11, 12, 66, 67, 68] rfl
            · exact .a 6 rfl <| .k [86, 1, 3, 5, 8, 11, 12, 66, 67, 68] rfl
          refine W_cond rfl (fun hc => ?_) (fun hc => ?_)
          · have hD3 := dij_old (S' := fun b => arcY T dir b = (i : Int) ∧ (b : Int) ∉ (arcsAt T dir i).take (j + 1)) hD2 hSS (fun hw => .inl (by
              rcases Bool.or_eq_true_iff.1 hc with h | h
              · rw [hw.1] at hp1; rw [h] at hp1; cases hp1
              · rw [h] at hp2
                have h3 := of_decide_eq_true hp2
                rw [hga] at h3
                rw [hm, hayi]
                have := htop m (by omega)
                exact ⟨h3, by omega⟩))
            refine W_exit ?_
            refine W_chain (.v (y_ar rfl) rfl <| .a 1 rfl <| .k [1, 3, 5, 8, 66, 67, 68] rfl) ?_
            first
              | exact ⟨(arcsAt T dir i).length - (j + 1), by omega, j + 1, _, P3, O3, n3, by omega, hD3, hok3, rfl, rfl⟩
              | exact ⟨(arcsAt T dir i).length - (j + 1), by omega, j + 1, K2, P2, O2, q2, by omega, hD3, hok2, rfl, rfl⟩
          · obtain ⟨c1, c2⟩ := Bool.or_eq_false_iff.1 hc
            rw [c1] at hp1
            rw [c2] at hp2
            have hmneg : at' out1 (m : Int) < 0 := by have := of_decide_eq_false hp2; rw [hga] at this; omega
            have hway : Net.Way T D n dir out1 a := ⟨hp1, by rw [hayi]; exact hk0, by rw [hay, Int.toNat_natCast]; rcases hfree with h | h; (exact .inl (by rw [h])); exact .inr h⟩
            refine W_skip ?_
            refine W_cs (.a 4 rfl <| .c rfl (cost_can T a ham) rfl <| .v (y_ar rfl) rfl <| .a 1 rfl <| .k [1, 3, 5, 8, 12, 13, 66, 67, 68] rfl) ?_
            obtain ⟨p3, hp3⟩ : ∃ q, (!decide (P2.getD m 0 = 0)) = q := ⟨_, rfl⟩
            obtain ⟨kv, hkv⟩ : ∃ z, (if P2.getD m 0 = 0 then 0 else K2.getD m 0) = z := ⟨_, rfl⟩
            have hkc := key_can K2 P2 O2 hok2.1.len hok2.2.2.1 (by omega) m hmN
            rw [hp3, hkv] at hkc
            refine W_cs (.a 2 rfl <| .v (y_cV rfl (purKey (pur_heap false _ hok2.2.2.1 hok2.1.len hok2.2.1) _) (hkc)) rfl <| .a 5 rfl <| .k [1, 3, 5, 8, 12, 13, 14, 15, 66, 67, 68] rfl) ?_
            obtain ⟨p4, hp4⟩ : ∃ q, decide (d + costN T a < kv) = q := ⟨_, rfl⟩
            refine W_csK 105 (.raw (.bool ((!p3) || p4))) [1, 3, 5, 8, 12, 13, 66, 67, 68] rfl ?_ ?_
            · refine .a 3 rfl <| ?_
              cases p3
              · exact .a 4 rfl <| .k [105, 1, 3, 5, 8, 12, 13, 66, 67, 68] rfl
              · exact .a 2 rfl <| .v (y_q rfl (hp4)) rfl <| .a 1 rfl <| .k [105, 1, 3, 5, 8, 12, 13, 66, 67, 68] rfl
            refine W_cond rfl (fun hc => ?_) (fun hc => ?_)
            · have hnew : ¬ Held O2 (m : Int) ∨ at' out1 (arcY T dir a) + costN T a < K2.getD m 0 := by
                rw [hayi]
                by_cases e : P2.getD m 0 = 0
                · exact .inl ((hok2.1.zero hmN).1 e)
                · right
                  have h3 : p3 = true := by rw [← hp3]; simp only [e]; rfl
                  rw [h3] at hc
                  have h4 : p4 = true := by simpa using hc
                  rw [h4] at hp4
                  have := of_decide_eq_true hp4
                  rw [if_neg e] at hkv
                  omega
              refine W_region ?_
              refine WR_a 3 rfl <| WR_cS rfl rfl (CanS.mono (set_can (some (.row 3 1 k (intsP out1))) (pureRow _ _) K2 P2 O2 hok2 (by omega) m hmN (d + costN T a)) (fun _ σ' h => ?_))
              obtain ⟨b3, n3, P3, O3, rfl, hok3, hH3⟩ := h
              refine WR_k [1, 3, 5, 8, 66, 67, 68] rfl ?_
              refine W_norm (pureRow _ _) (.cons 1 rfl Ren.pure <| .cons 3 rfl (Ren.own (i := 0) rfl) <| .cons 5 rfl (Ren.ptr (i := 1) rfl) <| .cons 8 rfl Ren.pure <| .cons 66 rfl Ren.pure <| .cons 67 rfl Ren.pure <| .cons 68 rfl Ren.pure <| .nil) ?_
              have hD3 := dij_set (S' := fun b => arcY T dir b = (i : Int) ∧ (b : Int) ∉ (arcsAt T dir i).take (j + 1)) (H' := fun y => Held O3 (y : Int)) hS hD2 ham hSS hway hm hmneg (fun x hx => by rw [hayi]; exact htop x hx) (by rw [hayi]; omega) hnew (by rw [hok2.2.2.1]; exact hmN) (fun y => (hH3 y).trans ⟨fun h => h.imp id (fun e => by omega), fun h => h.imp id (fun e => by omega)⟩)
              rw [hayi] at hD3
              refine W_chain (.v (y_ar rfl) rfl <| .a 1 rfl <| .k [1, 3, 5, 8, 66, 67, 68] rfl) ?_
              first
                | exact ⟨(arcsAt T dir i).length - (j + 1), by omega, j + 1, _, P3, O3, n3, by omega, hD3, hok3, rfl, rfl⟩
                | exact ⟨(arcsAt T dir i).length - (j + 1), by omega, j + 1, K2, P2, O2, q2, by omega, hD3, hok2, rfl, rfl⟩
            · obtain ⟨c3, c4⟩ := Bool.or_eq_false_iff.1 hc
              have h3 : p3 = true := by cases p3; cases c3; rfl
              rw [h3] at hp3
              rw [c4] at hp4
              have e : P2.getD m 0 ≠ 0 := fun e => by rw [e] at hp3; cases hp3
              have hD3 := dij_old (S' := fun b => arcY T dir b = (i : Int) ∧ (b : Int) ∉ (arcsAt T dir i).take (j + 1)) hD2 hSS (fun hw => .inr (by
                rw [hm, Int.toNat_natCast, hayi]
                refine ⟨Classical.byContradiction fun hh => e ((hok2.1.zero hmN).2 hh), ?_⟩
                rw [if_neg e] at hkv
                have := of_decide_eq_false hp4
                omega))
              refine W_skip ?_
              refine W_chain (.v (y_ar rfl) rfl <| .a 1 rfl <| .k [1, 3, 5, 8, 66, 67, 68] rfl) ?_
              first
                | exact ⟨(arcsAt T dir i).length - (j + 1), by omega, j + 1, _, P3, O3, n3, by omega, hD3, hok3, rfl, rfl⟩
                | exact ⟨(arcsAt T dir i).length - (j + 1), by omega, j + 1, K2, P2, O2, q2, by omega, hD3, hok2, rfl, rfl⟩
        · have hje : j = (arcsAt T dir i).length := by have := of_decide_eq_false hc; omega
          have hDe : Dij T D n dir out1 K2 (fun y => Held O2 (y : Int)) (fun _ => False) := ⟨hD2.len, hD2.ge, hD2.root, hD2.hneg, hD2.mono, hD2.suppH, hD2.supp, fun a ha _ => hD2.closed a ha (fun ⟨e1, e2⟩ => e2 (by rw [hje, List.take_length]; exact (arcsAt_mem T dir i a).2 ⟨ha, e1⟩)), hD2.ub, hD2.ubH⟩
          refine W_sub (.cons (k := 1) rfl <| .cons (k := 3) rfl <| .cons (k := 5) rfl <| Sub.nil _) ?_
          refine W_exit ?_
          first
            | exact ⟨_, hmeas, out1, K2, P2, O2, q2, hDe, hok2, rfl, rfl⟩
            | exact ⟨_, hmeas, out1, K1, P1, O1, n1, hDe, hok', rfl, rfl⟩
end PW
end Go.Proofs.YtbpgndbjbaoolaaGreat

/- The contract of package dag's next arcs. -/
namespace Go.Proofs.YtbpgndbjbaoolaaGreat
set_option linter.unusedVariables false
set_option linter.unusedSimpArgs false
namespace PW
open Go.RowKit Reg Mem Net

/-- Whether the arc a is a next arc of a node with distance dn towards d, by the distances L. -/
def passB (T : Topo) (D : List Bool) (L : List Int) (dn : Int) (d a : Nat) : Bool :=
  !(downN D a || decide (L.getD (headN T a).toNat 0 < 0) || (decide (headN T a ≠ (d : Int)) && overN T (headN T a).toNat)) && decide (L.getD (headN T a).toNat 0 + costN T a = dn)
def passL (T : Topo) (D : List Bool) (L : List Int) (dn : Int) (d : Nat) (l : List Int) : List Int := l.filter fun a => passB T D L dn d a.toNat

set_option maxRecDepth 10000 in
set_option maxHeartbeats 1000000 in
theorem dnext_can (T : Topo) (D : List Bool) (L lv : List Int) (n d : Nat) (hv : validB T = true) (hf : fitsB T D = true) (hL : (L.length : Int) = T.nodes) (hub : ∀ x ∈ L, -1 ≤ x ∧ x ≤ 4194240) (hn : (n : Int) < T.nodes) (hd : (d : Int) < T.nodes)
    (hlv : ∀ a ∈ lv, 0 ≤ a ∧ a < 2 * (T.links.length : Int)) (hll : lv.length ≤ 100000) :
    Can Tryz.prog 143 [topoV T, boolsV D, intsV L, intsV lv, num n, num d] (· = intsV (if n = d ∨ L.getD n 0 < 0 then [] else passL T D L (L.getD n 0) d lv)) := by
  have hbd := valid_bd hv
  have hS := sound_of hv
  have hnL : n < L.length := by omega
  refine can_of Tryz.func143 rfl Tryz.ntmps143 rfl ?_
  refine W_cs (.a 2 rfl <| .k [1, 2, 3, 4, 5, 6] rfl) ?_
  refine W_cs (.a 1 rfl <| .k [1, 2, 3, 4, 5, 6, 13] rfl) ?_
  obtain ⟨q1, hq1⟩ : ∃ q, decide ((n : Int) = (d : Int)) = q := ⟨_, rfl⟩
  obtain ⟨q2, hq2⟩ : ∃ q, decide (L.getD n 0 < 0) = q := ⟨_, rfl⟩
  refine W_seq ?_
  refine W_csK 26 (.raw (.bool (q1 || q2))) [1, 2, 3, 4, 5, 6, 13] rfl ?_ ?_
  · refine .a 2 rfl <| .v (y_q rfl (hq1)) rfl <| .a 1 rfl <| ?_
    cases q1
    · exact .a 2 rfl <| .v (y_ix (n) rfl) rfl <| .v (y_ld rfl (ints_get L n hnL)) rfl <| .v (y_q rfl (hq2)) rfl <| .a 1 rfl <| .k [26, 1, 2, 3, 4, 5, 6, 13] rfl
    · exact .a 6 rfl <| .k [26, 1, 2, 3, 4, 5, 6, 13] rfl
  refine W_cond (b := q1 || q2) rfl (fun hc => ?_) (fun hc => ?_)
  · have : n = d ∨ L.getD n 0 < 0 := by
      rcases Bool.or_eq_true_iff.1 hc with h | h
      · rw [h] at hq1; exact .inl (by have := of_decide_eq_true hq1; omega)
      · rw [h] at hq2; exact .inr (of_decide_eq_true hq2)
    rw [if_pos this]
    refine W_cs (.a 2 rfl <| .k [12] rfl) ?_
    refine W_ret ⟨_, _, .cons (.tmp rfl) .nil, Pur.nils, rfl⟩
  · obtain ⟨c1, c2⟩ := Bool.or_eq_false_iff.1 hc
    rw [c1] at hq1
    rw [c2] at hq2
    have hnd : ¬ (n = d ∨ L.getD n 0 < 0) := by
      have := of_decide_eq_false hq1
      have := of_decide_eq_false hq2
      omega
    rw [if_neg hnd]
    refine W_skip ?_
    refine W_seq ?_
    refine W_cs (.a 3 rfl <| .k [1, 2, 4, 5, 6, 13, 28, 29, 30] rfl) ?_
    refine W_adopt 13 3 1 rfl ?_
    refine W_block ?_
    refine W_sub (.cons (k := 1) rfl <| .cons (k := 2) rfl <| .cons (k := 4) rfl <| .cons (k := 5) rfl <| .cons (k := 6) rfl <| .cons (k := 13) rfl <| .cons (k := 28) rfl <| .cons (k := 29) rfl <| .cons (k := 30) rfl <| Sub.nil _) ?_
    refine W_loop (fun r s => ∃ i, i ≤ lv.length ∧ r = lv.length - i ∧ s = ⟨[(1, boolsV D), (2, intsV L), (4, num n), (5, num d), (6, .pin (topoP T) 0), (13, .own 0), (28, intsV lv), (29, num lv.length), (30, num i)], [some (.row 3 1 (passL T D L (L.getD n 0) d (lv.take i)).length (intsP (passL T D L (L.getD n 0) d (lv.take i))))]⟩) lv.length ⟨0, by omega, by omega, ?_⟩ ?_
    · simp only [List.take_zero, passL, List.filter_nil]
      rfl
    · rintro r s ⟨i, hi, rfl, rfl⟩
      refine W_cs (.a 1 rfl <| .k [1, 2, 4, 5, 6, 13, 28, 29, 30, 31] rfl) ?_
      refine W_seq ?_
      refine W_cond (b := decide ((i : Int) < (lv.length : Int))) rfl (fun hc => ?_) (fun hc => ?_)
      · have hlt : i < lv.length := by have := of_decide_eq_true hc; omega
        refine W_skip ?_
        obtain ⟨a, ha⟩ : ∃ a : Nat, lv.getD i 0 = (a : Int) := Int.eq_ofNat_of_zero_le (hlv _ (getD_mem hlt)).1
        have ham : a < 2 * T.links.length := by
          have := (hlv (lv.getD i 0) (getD_mem hlt)).2
          omega
        have hstep : passL T D L (L.getD n 0) d (lv.take (i + 1)) = passL T D L (L.getD n 0) d (lv.take i) ++ (if passB T D L (L.getD n 0) d a then [(a : Int)] else []) := by
          unfold passL
          rw [List.take_add_one, List.filter_append, show lv[i]? = some (a : Int) by rw [← ha, List.getD_eq_getElem?_getD]; simp [hlt]]
          congr 1
          simp only [Option.toList_some, List.filter_cons, List.filter_nil, Int.toNat_natCast]
        have hlen : (passL T D L (L.getD n 0) d (lv.take i)).length ≤ 100000 := Nat.le_trans (List.length_filter_le _ _) (by rw [List.length_take]; omega)
        obtain ⟨hd0, hhN⟩ := hS.head a ham
        obtain ⟨h, hh⟩ := Int.eq_ofNat_of_zero_le hd0
        have hhL : h < L.length := by omega
        have hub1 : -1 ≤ L.getD h 0 ∧ L.getD h 0 ≤ 4194240 := hub _ (getD_mem hhL)
        have hcb := hS.cost a ham
        have hDl : D.length = 0 ∨ a < D.length := by simp only [fitsB, decide_eq_true_eq] at hf; omega
        have hov : T.over.length = 0 ∨ h < T.over.length := by have := hbd.2.2.2; omega
        refine W_seq ?_
        refine W_block ?_
        refine W_cs (.v (y_ix (i) rfl) rfl <| .v (y_ld rfl ((ints_get lv i hlt).trans (by rw [ha]))) rfl <| .a 1 rfl <| .k [1, 2, 4, 5, 6, 13, 15, 28, 29, 30] rfl) ?_
        refine W_cs (.a 2 rfl <| .c rfl (hh ▸ head_can T a ham (by omega)) rfl <| .a 1 rfl <| .k [1, 2, 4, 5, 6, 13, 15, 16, 28, 29, 30] rfl) ?_
        obtain ⟨p1, hp1⟩ : ∃ q, downN D a = q := ⟨_, rfl⟩
        obtain ⟨p2, hp2⟩ : ∃ q, decide (L.getD h 0 < 0) = q := ⟨_, rfl⟩
        obtain ⟨p3, hp3⟩ : ∃ q, decide ((h : Int) ≠ (d : Int)) = q := ⟨_, rfl⟩
        obtain ⟨p4, hp4⟩ : ∃ q, overN T h = q := ⟨_, rfl⟩
        obtain ⟨p5, hp5⟩ : ∃ q, decide (L.getD h 0 + costN T a = L.getD n 0) = q := ⟨_, rfl⟩
        have hpass : passB T D L (L.getD n 0) d a = (!((p1 || p2) || (p3 && p4)) && p5) := by
          unfold passB; rw [hh, Int.toNat_natCast, hp1, hp2, hp3, hp4, hp5]
        refine W_seq ?_
        refine W_csK 56 (.raw (.bool ((p1 || p2) || (p3 && p4)))) [1, 2, 4, 5, 6, 13, 15, 16, 28, 29, 30] rfl ?_ ?_
        · refine .a 2 rfl <| .c rfl (hp1 ▸ down_can D a hDl) rfl <| .a 1 rfl <| ?_
          cases p1
          · refine .a 2 rfl <| .v (y_ix (h) rfl) rfl <| .v (y_ld rfl (ints_get L h hhL)) rfl <| .v (y_q rfl (hp2)) rfl <| .a 2 rfl <| ?_
            cases p2
            · refine .a 2 rfl <| .v (y_q rfl (hp3)) rfl <| .a 1 rfl <| ?_
              cases p3
              · exact .a 5 rfl <| .k [56, 1, 2, 4, 5, 6, 13, 15, 16, 28, 29, 30] rfl
              · exact .a 2 rfl <| .c rfl (hp4 ▸ over_can T h hov) rfl <| .a 2 rfl <| .k [56, 1, 2, 4, 5, 6, 13, 15, 16, 28, 29, 30] rfl
            · exact .a 9 rfl <| .k [56, 1, 2, 4, 5, 6, 13, 15, 16, 28, 29, 30] rfl
          · exact .a 16 rfl <| .k [56, 1, 2, 4, 5, 6, 13, 15, 16, 28, 29, 30] rfl
        refine W_cond (b := (p1 || p2) || (p3 && p4)) rfl (fun hc => ?_) (fun hc => ?_)
        · rw [hc] at hpass
          refine W_exit ?_
          refine W_chain (.v (y_ar rfl) rfl <| .a 1 rfl <| .k [1, 2, 4, 5, 6, 13, 28, 29, 30] rfl) ?_
          refine ⟨lv.length - (i + 1), by omega, i + 1, by omega, rfl, ?_⟩
          rw [hstep, hpass]
          simp only [Bool.not_true, Bool.false_and, Bool.false_eq_true, if_false, List.append_nil]
          rfl
        · rw [hc] at hpass
          refine W_skip ?_
          refine W_drs mixed (by kernel_rfl) (.a 2 rfl <| .v [57, 58] (y_ix (h) rfl) rfl rfl <| .v [59] (y_ld rfl (ints_get L h hhL)) rfl rfl <| .a 2 rfl <| .v [61, 62] (y_c rfl (cost_can T a ham)) rfl rfl <| .v [60, 63] (y_ar rfl) rfl rfl <| .a 2 rfl <| .v [65, 66] (y_ix (n) rfl) rfl rfl <| .v [67] (y_ld rfl (ints_get L n hnL)) rfl rfl <| .v [64, 68] (y_q rfl (hp5)) rfl rfl <| .k [1, 2, 4, 5, 6, 13, 15, 28, 29, 30, 69] rfl) ?_
          refine W_cond (b := p5) rfl (fun hc5 => ?_) (fun hc5 => ?_)
          · rw [hc5] at hpass
            refine W_region ?_
            refine WR_a 3 rfl <| WR_l (l_append rfl (fok.rk.get rfl) rfl rfl rfl rfl (by unfold maxLen; omega)) rfl <| WR_a 1 rfl ?_
            refine WR_ren [1] (.c 1 <| .c 2 <| .c 4 <| .c 5 <| .c 6 <| .c 13 <| .c 28 <| .c 29 <| .c 30 <| .nil) (.kept rfl (.rowP rfl (intsP_snoc _ _)) <| .nil) rfl rfl (WR_nil ?_)
            refine W_chain (.v (y_ar rfl) rfl <| .a 1 rfl <| .k [1, 2, 4, 5, 6, 13, 28, 29, 30] rfl) ?_
            refine ⟨lv.length - (i + 1), by omega, i + 1, by omega, rfl, ?_⟩
            rw [hstep, hpass]
            simp only [Bool.not_false, Bool.true_and, if_true, List.length_append, List.length_singleton]
            rfl
          · rw [hc5] at hpass
            refine W_skip ?_
            refine W_chain (.v (y_ar rfl) rfl <| .a 1 rfl <| .k [1, 2, 4, 5, 6, 13, 28, 29, 30] rfl) ?_
            refine ⟨lv.length - (i + 1), by omega, i + 1, by omega, rfl, ?_⟩
            rw [hstep, hpass]
            simp only [Bool.not_false, Bool.true_and, Bool.false_eq_true, if_false, List.append_nil]
            rfl
      · have : i = lv.length := by have := of_decide_eq_false hc; omega
        subst this
        rw [List.take_length]
        refine W_exit ?_
        refine W_cs (.a 2 rfl <| .k [12] rfl) ?_
        exact W_ret ⟨_, _, .cons (.tmp rfl) .nil, Pur.ownL rfl PurL.pure, rfl⟩
end PW
end Go.Proofs.YtbpgndbjbaoolaaGreat
