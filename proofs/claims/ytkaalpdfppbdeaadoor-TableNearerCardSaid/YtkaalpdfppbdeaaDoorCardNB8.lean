/- Texts of the proof, part 8. -/
import Derived.Lib.AppendStr
import Derived.Lib.UnsafeStr
import Derived.Lib.Builder
import Derived.Test.YtkaalpdfppbdeaaDoorCardNB7
/- Valid segments and tables: graph.Segment, package table's leaving, proper, Valid; the reference's of layers 18 and 22. -/
namespace Go.Proofs.YtkaalpdfppbdeaaDoor
set_option linter.unusedVariables false
set_option linter.unusedSimpArgs false
namespace PW
open Go.RowKit Reg Mem Net

def segB (T : Topo) (s : Seg) : Bool := if s.kind = 1 then nodeB T s.num else if s.kind = 2 then arcB T s.num else if s.kind = 3 then withinB s.num 1 64 else if s.kind = 4 then withinB s.num 0 65535 else false
def leaveB (T : Topo) (n : Int) (L : List Int) : Bool := decide (∀ i, i < L.length → arcB T (L.getD i 0) = true ∧ tailN T (L.getD i 0).toNat = n ∧ (0 < i → L.getD (i - 1) 0 < L.getD i 0))
def entOK (T : Topo) (n d : Int) (e : Ent) : Bool := leaveB T n e.arcs && (!(decide (d = n) && decide (0 < (e.arcs.length : Int)))) && (if e.rep then decide ((e.arcs.length : Int) = 1) && decide ((e.push.length : Int) ≤ 32) && e.push.all (segB T) else decide ((e.push.length : Int) = 0))
def entD : Ent := ⟨[], false, []⟩
def entsOK (T : Topo) (n : Int) (l : List Ent) : Bool := decide (∀ d, d < l.length → entOK T n d (l.getD d entD) = true)
def tabOK (T : Topo) (x : Tab) : Bool := validB T && nodeB T x.node && decide ((x.ents.length : Int) = T.nodes) && leaveB T x.node x.down && entsOK T x.node x.ents
theorem arcB_iff {T : Topo} {a : Int} : arcB T a = true ↔ 0 ≤ a ∧ a < 2 * (T.links.length : Int) := by simp [arcB]
theorem tailI_can (T : Topo) (a : Int) (h : arcB T a = true) : Can Tryd.prog 61 [topoV T, num a] (· = num (tailN T a.toNat)) := by
  obtain ⟨h0, h1⟩ := arcB_iff.1 h
  obtain ⟨a, rfl⟩ := Int.eq_ofNat_of_zero_le h0
  exact tail_can T a (by omega)

set_option maxRecDepth 10000 in
set_option maxHeartbeats 1000000 in
theorem segm_can (T : Topo) (hl : T.links.length ≤ 4611686018427387903) (s : Seg) : Can Tryd.prog 71 [topoV T, segV s] (· = flag (segB T s)) := by
  unfold segB
  refine can_of Tryd.func71 rfl Tryd.ntmps71 rfl ?_
  refine W_cs (.a 3 rfl <| .k [2, 3] rfl) ?_
  refine W_seq ?_
  refine W_cs (.a 2 rfl <| .k [2, 3, 6] rfl) ?_
  refine W_block ?_
  refine W_cs (.a 2 rfl <| .k [2, 3, 6, 7] rfl) ?_
  refine W_cond rfl (fun hc => ?_) (fun hc => ?_)
  · rw [if_pos (tt hc)]
    refine W_cs (.a 3 rfl <| .c rfl (node_can T s.num) rfl <| .a 1 rfl <| .k [4] rfl) ?_
    refine W_ret ?_
    exact ⟨_, _, ResL.of rfl, Pur.pure, rfl⟩
  · rw [if_neg (ff hc)]
    refine W_cs (.a 2 rfl <| .k [2, 3, 6, 13] rfl) ?_
    refine W_cond rfl (fun hc => ?_) (fun hc => ?_)
    · rw [if_pos (tt hc)]
      refine W_cs (.a 3 rfl <| .c rfl (arc_can T hl s.num) rfl <| .a 1 rfl <| .k [4] rfl) ?_
      refine W_ret ?_
      exact ⟨_, _, ResL.of rfl, Pur.pure, rfl⟩
    · rw [if_neg (ff hc)]
      refine W_cs (.a 2 rfl <| .k [3, 6, 19] rfl) ?_
      refine W_cond rfl (fun hc => ?_) (fun hc => ?_)
      · rw [if_pos (tt hc)]
        obtain ⟨p1, hp1⟩ : ∃ q, decide (1 ≤ s.num) = q := ⟨_, rfl⟩
        obtain ⟨p2, hp2⟩ : ∃ q, decide (s.num ≤ 64) = q := ⟨_, rfl⟩
        have he : withinB s.num 1 64 = (p1 && p2) := by rw [← hp1, ← hp2]; unfold withinB; exact Bool.decide_and _ _
        rw [he]
        refine W_csK 4 (.raw (.bool (p1 && p2))) [] rfl ?_ ?_
        · refine .a 2 rfl <| .v (y_q rfl (hp1)) rfl <| .a 1 rfl <| ?_
          cases p1
          · exact .a 5 rfl <| .k [4] rfl
          · exact .a 2 rfl <| .v (y_q rfl (hp2)) rfl <| .a 2 rfl <| .k [4] rfl
        refine W_ret ?_
        exact ⟨_, _, ResL.of rfl, Pur.pure, rfl⟩
      · rw [if_neg (ff hc)]
        refine W_cs (.a 2 rfl <| .k [3, 29] rfl) ?_
        refine W_cond rfl (fun hc => ?_) (fun hc => ?_)
        · rw [if_pos (tt hc)]
          obtain ⟨p1, hp1⟩ : ∃ q, decide (0 ≤ s.num) = q := ⟨_, rfl⟩
          obtain ⟨p2, hp2⟩ : ∃ q, decide (s.num ≤ 65535) = q := ⟨_, rfl⟩
          have he : withinB s.num 0 65535 = (p1 && p2) := by rw [← hp1, ← hp2]; unfold withinB; exact Bool.decide_and _ _
          rw [he]
          refine W_csK 4 (.raw (.bool (p1 && p2))) [] rfl ?_ ?_
          · refine .a 2 rfl <| .v (y_q rfl (hp1)) rfl <| .a 1 rfl <| ?_
            cases p1
            · exact .a 5 rfl <| .k [4] rfl
            · exact .a 2 rfl <| .v (y_q rfl (hp2)) rfl <| .a 2 rfl <| .k [4] rfl
          refine W_ret ?_
          exact ⟨_, _, ResL.of rfl, Pur.pure, rfl⟩
        · rw [if_neg (ff hc)]
          refine W_skip ?_
          refine W_cs (.a 1 rfl <| .k [4] rfl) ?_
          refine W_ret ?_
          exact ⟨_, _, ResL.of rfl, Pur.pure, rfl⟩
theorem segB_neg {T : Topo} {s : Seg} (h : s.num < 0) : segB T s = false := by
  unfold segB
  have h1 : nodeB T s.num = false := by unfold nodeB; exact decide_eq_false (by omega)
  have h2 : arcB T s.num = false := by unfold arcB; exact decide_eq_false (by omega)
  have h3 : withinB s.num 1 64 = false := by unfold withinB; exact decide_eq_false (by omega)
  have h4 : withinB s.num 0 65535 = false := by unfold withinB; exact decide_eq_false (by omega)
  rw [h1, h2, h3, h4]
  simp
set_option maxRecDepth 10000 in
set_option maxHeartbeats 1000000 in
theorem rseg_can (T : Topo) (hv : validB T = true) (s : Seg) : Can Tryd.prog 53 [topoV T, segV s] (· = flag (segB T s)) := by
  have h := rvalid_can T
  rw [hv] at h
  obtain ⟨p0, hp0⟩ : ∃ q, decide (s.num < 0) = q := ⟨_, rfl⟩
  refine can_of Tryd.func53 rfl Tryd.ntmps53 rfl ?_
  refine W_cs (.a 3 rfl <| .k [2, 3] rfl) ?_
  refine W_seq ?_
  refine W_csK 12 (.raw (.bool (p0))) [2, 3] rfl ?_ ?_
  · exact .a 1 rfl <| .c rfl (h) rfl <| .a 4 rfl <| .v (y_q rfl (hp0)) rfl <| .a 1 rfl <| .k [12, 2, 3] rfl
  refine W_cond rfl (fun hc => ?_) (fun hc => ?_)
  · rw [hc] at hp0
    rw [segB_neg (tt hp0)]
    refine W_cs (.a 1 rfl <| .k [4] rfl) ?_
    refine W_ret ?_
    exact ⟨_, _, ResL.of rfl, Pur.pure, rfl⟩
  · rw [hc] at hp0
    have h0 : 0 ≤ s.num := by have := ff hp0; omega
    unfold segB
    refine W_skip ?_
    refine W_seq ?_
    refine W_cs (.a 2 rfl <| .k [2, 3, 14] rfl) ?_
    refine W_block ?_
    refine W_cs (.a 2 rfl <| .k [2, 3, 14, 15] rfl) ?_
    refine W_cond rfl (fun hc => ?_) (fun hc => ?_)
    · rw [if_pos (tt hc), show nodeB T s.num = decide (s.num < T.nodes) by unfold nodeB; exact decide_eq_decide.2 (by omega)]
      refine W_cs (.a 6 rfl <| .k [4] rfl) ?_
      refine W_ret ?_
      exact ⟨_, _, ResL.of rfl, Pur.pure, rfl⟩
    · rw [if_neg (ff hc)]
      refine W_cs (.a 2 rfl <| .k [2, 3, 14, 22] rfl) ?_
      refine W_cond rfl (fun hc => ?_) (fun hc => ?_)
      · rw [if_pos (tt hc), show arcB T s.num = decide (s.num < 2 * (T.links.length : Int)) by unfold arcB; exact decide_eq_decide.2 (by omega)]
        refine W_drs mixed (by kernel_rfl) (.a 3 rfl <| .v [26] (y_c rfl (rarcs_can T hv)) rfl rfl <| .a 2 rfl <| .k [4] rfl) ?_
        refine W_ret ?_
        exact ⟨_, _, ResL.of rfl, Pur.pure, rfl⟩
      · rw [if_neg (ff hc)]
        refine W_cs (.a 2 rfl <| .k [3, 14, 29] rfl) ?_
        refine W_cond rfl (fun hc => ?_) (fun hc => ?_)
        · rw [if_pos (tt hc)]
          obtain ⟨p1, hp1⟩ : ∃ q, decide (1 ≤ s.num) = q := ⟨_, rfl⟩
          obtain ⟨p2, hp2⟩ : ∃ q, decide (s.num ≤ 64) = q := ⟨_, rfl⟩
          have he : withinB s.num 1 64 = (p1 && p2) := by rw [← hp1, ← hp2]; unfold withinB; exact Bool.decide_and _ _
          rw [he]
          refine W_csK 4 (.raw (.bool (p1 && p2))) [] rfl ?_ ?_
          · refine .a 2 rfl <| .v (y_q rfl (hp1)) rfl <| .a 1 rfl <| ?_
            cases p1
            · exact .a 5 rfl <| .k [4] rfl
            · exact .a 2 rfl <| .v (y_q rfl (hp2)) rfl <| .a 2 rfl <| .k [4] rfl
          refine W_ret ?_
          exact ⟨_, _, ResL.of rfl, Pur.pure, rfl⟩
        · rw [if_neg (ff hc)]
          refine W_cs (.a 2 rfl <| .k [3, 39] rfl) ?_
          refine W_cond rfl (fun hc => ?_) (fun hc => ?_)
          · rw [if_pos (tt hc), show withinB s.num 0 65535 = decide (s.num ≤ 65535) by unfold withinB; exact decide_eq_decide.2 (by omega)]
            refine W_cs (.a 4 rfl <| .k [4] rfl) ?_
            refine W_ret ?_
            exact ⟨_, _, ResL.of rfl, Pur.pure, rfl⟩
          · rw [if_neg (ff hc)]
            refine W_skip ?_
            refine W_cs (.a 1 rfl <| .k [4] rfl) ?_
            refine W_ret ?_
            exact ⟨_, _, ResL.of rfl, Pur.pure, rfl⟩
/-- One step of the check of a list of arcs. -/
def stepB (T : Topo) (n : Int) (L : List Int) (i : Nat) : Bool := decide (arcB T (L.getD i 0) = true ∧ tailN T (L.getD i 0).toNat = n ∧ (0 < i → L.getD (i - 1) 0 < L.getD i 0))
theorem leave_all {T : Topo} {n : Int} {L : List Int} (h : ∀ i, i < L.length → stepB T n L i = true) : leaveB T n L = true := decide_eq_true fun i hi => tt (h i hi)
theorem leave_fail {T : Topo} {n : Int} {L : List Int} {i : Nat} (hi : i < L.length) (h : stepB T n L i = false) : leaveB T n L = false := decide_eq_false fun ha => ff h (ha i hi)
set_option maxRecDepth 10000 in
set_option maxHeartbeats 1000000 in
theorem leaving_can (T : Topo) (hv : validB T = true) (n : Int) (L : List Int) : Can Tryd.prog 49 [topoV T, num n, intsV L] (· = flag (leaveB T n L)) := by
  have hll := links_le hv
  refine can_rep fun ⟨E, w, vs, hR⟩ => ?_
  obtain ⟨v, _, hv⟩ := hR.get (i := 2) rfl
  have hm := rep_len hv
  unfold maxLen at hm
  refine can_of Tryd.func49 rfl Tryd.ntmps49 rfl ?_
  refine W_cs (.a 2 rfl <| .k [1, 2, 3] rfl) ?_
  refine W_seq ?_
  refine W_cs (.a 3 rfl <| .k [1, 2, 3, 9, 10, 11] rfl) ?_
  refine W_block ?_
  refine W_k [1, 2, 3, 9, 10, 11] rfl ?_
  refine W_loop (fun r s => ∃ k, k ≤ L.length ∧ r = L.length - k ∧ (∀ i, i < k → stepB T n L i = true) ∧ s = ⟨[(1, num n), (2, intsV L), (3, .pin (topoP T) 0), (9, intsV L), (10, num L.length), (11, num k)], []⟩) L.length ⟨0, by omega, by omega, fun i hi => by omega, rfl⟩ ?_
  rintro r s ⟨k, hk, rfl, hall, rfl⟩
  refine W_cs (.a 1 rfl <| .k [1, 2, 3, 9, 10, 11, 12] rfl) ?_
  refine W_seq ?_
  refine W_cond rfl (fun hc => ?_) (fun hc => ?_)
  · have hlt : k < L.length := by have := tt hc; omega
    obtain ⟨p1, hp1⟩ : ∃ q, arcB T (L.getD k 0) = q := ⟨_, rfl⟩
    obtain ⟨p2, hp2⟩ : ∃ q, decide (tailN T (L.getD k 0).toNat ≠ n) = q := ⟨_, rfl⟩
    obtain ⟨p3, hp3⟩ : ∃ q, decide (0 < (k : Int)) = q := ⟨_, rfl⟩
    obtain ⟨p4, hp4⟩ : ∃ q, decide (L.getD k 0 ≤ L.getD (k - 1) 0) = q := ⟨_, rfl⟩
    refine W_skip ?_
    refine W_seq ?_
    refine W_block ?_
    refine W_cs (.a 1 rfl <| .v (y_ix (k) rfl) rfl <| .v (y_ld rfl (ints_get L k hlt)) rfl <| .a 2 rfl <| .k [1, 2, 3, 7, 8, 9, 10, 11] rfl) ?_
    refine W_csK 39 (.raw (.bool (((!p1) || p2) || (p3 && p4)))) [1, 2, 3, 9, 10, 11] rfl ?_ ?_
    · refine .a 2 rfl <| .c rfl (hp1 ▸ arc_can T (by omega) (L.getD k 0)) rfl <| .a 2 rfl <| ?_
      cases p1
      · exact .a 19 rfl <| .k [39, 1, 2, 3, 9, 10, 11] rfl
      · refine .a 2 rfl <| .c rfl (tailI_can T _ hp1) rfl <| .a 1 rfl <| .v (y_q rfl (hp2)) rfl <| .a 2 rfl <| ?_
        cases p2
        · refine .a 1 rfl <| .v (y_q rfl (hp3)) rfl <| .a 1 rfl <| ?_
          cases p3
          · exact .a 9 rfl <| .k [39, 1, 2, 3, 9, 10, 11] rfl
          · exact .a 2 rfl <| .v (y_ar rfl) rfl <| .v (y_ix (k - 1) rfl (by have := tt hp3; omega) (by omega)) rfl <| .v (y_ld rfl (ints_get L (k - 1) (by omega))) rfl <| .a 1 rfl <| .v (y_q rfl (hp4)) rfl <| .a 2 rfl <| .k [39, 1, 2, 3, 9, 10, 11] rfl
        · exact .a 12 rfl <| .k [39, 1, 2, 3, 9, 10, 11] rfl
    refine W_cond rfl (fun hx => ?_) (fun hx => ?_)
    · have hno : stepB T n L k = false := by
        refine decide_eq_false fun ⟨h1, h2, h3⟩ => ?_
        rw [h1] at hp1
        rw [decide_eq_false (by simpa using h2)] at hp2
        subst hp1 hp2
        simp only [Bool.not_true, Bool.false_or, Bool.and_eq_true] at hx
        rw [hx.1] at hp3
        rw [hx.2] at hp4
        have := h3 (by have := tt hp3; omega)
        have := tt hp4
        omega
      rw [leave_fail hlt hno]
      refine W_cs (.a 1 rfl <| .k [6] rfl) ?_
      refine W_ret ?_
      exact ⟨_, _, ResL.of rfl, Pur.pure, rfl⟩
    · have hyes : stepB T n L k = true := by
        obtain ⟨c1, c3⟩ := Bool.or_eq_false_iff.1 hx
        obtain ⟨c1, c2⟩ := Bool.or_eq_false_iff.1 c1
        refine decide_eq_true ⟨?_, ?_, fun h0 => ?_⟩
        · rw [hp1]; simpa using c1
        · rw [c2] at hp2; exact Classical.byContradiction (ff hp2)
        · rw [decide_eq_true (by omega)] at hp3
          subst hp3
          rw [Bool.true_and] at c3
          rw [c3] at hp4
          have := ff hp4
          omega
      refine W_skip ?_
      refine W_chain (.v (y_ar rfl) rfl <| .a 1 rfl <| .k [1, 2, 3, 9, 10, 11] rfl) ?_
      refine ⟨L.length - (k + 1), by omega, k + 1, by omega, rfl, fun i hi => ?_, rfl⟩
      by_cases h : i = k
      · rw [h]; exact hyes
      · exact hall i (by omega)
  · have hke : k = L.length := by have := ff hc; omega
    subst hke
    rw [leave_all hall]
    refine W_exit ?_
    refine W_cs (.a 1 rfl <| .k [6] rfl) ?_
    refine W_ret ?_
    exact ⟨_, _, ResL.of rfl, Pur.pure, rfl⟩
theorem rtail_step {T : Topo} (a n : Int) (hn : 0 ≤ n) : (rtail T a = n) ↔ (arcB T a = true ∧ tailN T a.toNat = n) := by
  unfold rtail
  rw [arcB_iff]
  split
  · rename_i h; exact ⟨fun e => ⟨h, e⟩, fun e => e.2⟩
  · rename_i h; exact ⟨fun e => by omega, fun e => absurd e.1 h⟩
set_option maxRecDepth 10000 in
set_option maxHeartbeats 1000000 in
theorem outgoing_can (T : Topo) (hv : validB T = true) (n : Int) (hn : 0 ≤ n) (L : List Int) : Can Tryd.prog 52 [topoV T, num n, intsV L] (· = flag (leaveB T n L)) := by
  have hll := links_le hv
  refine can_rep fun ⟨E, w, vs, hR⟩ => ?_
  obtain ⟨v, _, hvv⟩ := hR.get (i := 2) rfl
  have hm := rep_len hvv
  unfold maxLen at hm
  refine can_of Tryd.func52 rfl Tryd.ntmps52 rfl ?_
  refine W_cs (.a 2 rfl <| .k [1, 2, 3] rfl) ?_
  refine W_seq ?_
  refine W_cs (.a 1 rfl <| .k [1, 2, 3, 7] rfl) ?_
  refine W_block ?_
  refine W_k [1, 2, 3, 7] rfl ?_
  refine W_loop (fun r s => ∃ k, k ≤ L.length ∧ r = L.length - k ∧ (∀ i, i < k → stepB T n L i = true) ∧ s = ⟨[(1, num n), (2, intsV L), (3, .pin (topoP T) 0), (7, num k)], []⟩) L.length ⟨0, by omega, by omega, fun i hi => by omega, rfl⟩ ?_
  rintro r s ⟨k, hk, rfl, hall, rfl⟩
  refine W_seq ?_
  refine W_cs (.a 4 rfl <| .k [1, 2, 3, 7, 11] rfl) ?_
  refine W_cond rfl (fun hc => ?_) (fun hc => ?_)
  · have hlt : k < L.length := by have := tt hc; omega
    obtain ⟨p1, hp1⟩ : ∃ q, decide (rtail T (L.getD k 0) ≠ n) = q := ⟨_, rfl⟩
    obtain ⟨p3, hp3⟩ : ∃ q, decide (0 < (k : Int)) = q := ⟨_, rfl⟩
    obtain ⟨p4, hp4⟩ : ∃ q, decide (L.getD k 0 ≤ L.getD (k - 1) 0) = q := ⟨_, rfl⟩
    refine W_skip ?_
    refine W_seq ?_
    refine W_block ?_
    refine W_drsK mixed (by kernel_rfl) 37 (.raw (.bool (p1 || (p3 && p4)))) [1, 2, 3, 7] rfl ?_ ?_
    · refine .a 3 rfl <| .v [15, 16] (y_ix (k) rfl) rfl rfl <| .v [17] (y_ld rfl (ints_get L k hlt)) rfl rfl <| .v [14, 18] (y_c rfl (rtail_can T hv (L.getD k 0))) rfl rfl <| .a 1 rfl <| .v [19, 20] (y_q rfl (hp1)) rfl rfl <| .a 1 rfl <| ?_
      cases p1
      · refine .a 1 rfl <| .v [23] (y_q rfl (hp3)) rfl rfl <| .a 1 rfl <| ?_
        cases p3
        · exact .a 12 rfl <| .k [37, 1, 2, 3, 7] rfl
        · exact .a 2 rfl <| .v [26, 27] (y_ix (k) rfl) rfl rfl <| .v [28] (y_ld rfl (ints_get L k hlt)) rfl rfl <| .a 2 rfl <| .v [31] (y_ar rfl) rfl rfl <| .v [30, 32] (y_ix (k - 1) rfl (by have := tt hp3; omega) (by omega)) rfl rfl <| .v [33] (y_ld rfl (ints_get L (k - 1) (by omega))) rfl rfl <| .v [29, 34] (y_q rfl (hp4)) rfl rfl <| .a 2 rfl <| .k [37, 1, 2, 3, 7] rfl
      · exact .a 15 rfl <| .k [37, 1, 2, 3, 7] rfl
    refine W_cond rfl (fun hx => ?_) (fun hx => ?_)
    · have hno : stepB T n L k = false := by
        refine decide_eq_false fun ⟨h1, h2, h3⟩ => ?_
        rw [decide_eq_false (by have := (rtail_step _ n hn).2 ⟨h1, h2⟩; simpa using this)] at hp1
        subst hp1
        simp only [Bool.false_or, Bool.and_eq_true] at hx
        rw [hx.1] at hp3
        rw [hx.2] at hp4
        have := h3 (by have := tt hp3; omega)
        have := tt hp4
        omega
      rw [leave_fail hlt hno]
      refine W_cs (.a 1 rfl <| .k [6] rfl) ?_
      refine W_ret ?_
      exact ⟨_, _, ResL.of rfl, Pur.pure, rfl⟩
    · have hyes : stepB T n L k = true := by
        obtain ⟨c1, c3⟩ := Bool.or_eq_false_iff.1 hx
        rw [c1] at hp1
        obtain ⟨h1, h2⟩ := (rtail_step _ n hn).1 (Classical.byContradiction (ff hp1))
        refine decide_eq_true ⟨h1, h2, fun h0 => ?_⟩
        rw [decide_eq_true (by omega)] at hp3
        subst hp3
        rw [Bool.true_and] at c3
        rw [c3] at hp4
        have := ff hp4
        omega
      refine W_skip ?_
      refine W_chain (.a 1 rfl <| .v (y_ar rfl) rfl <| .a 1 rfl <| .k [1, 2, 3, 7] rfl) ?_
      refine ⟨L.length - (k + 1), by omega, k + 1, by omega, rfl, fun i hi => ?_, rfl⟩
      by_cases h : i = k
      · rw [h]; exact hyes
      · exact hall i (by omega)
  · have hke : k = L.length := by have := ff hc; omega
    subst hke
    rw [leave_all hall]
    refine W_exit ?_
    refine W_cs (.a 1 rfl <| .k [6] rfl) ?_
    refine W_ret ?_
    exact ⟨_, _, ResL.of rfl, Pur.pure, rfl⟩
theorem allT {α : Type} (p : α → Bool) (L : List α) (k : Nat) (a : α) (h : L[k]? = some a) : (L.take (k + 1)).all p = ((L.take k).all p && p a) := by
  rw [List.take_add_one, h, List.all_append]; simp
theorem allF {α : Type} (p : α → Bool) (L : List α) (k : Nat) (a : α) (h : L[k]? = some a) (hp : p a = false) : L.all p = false := by
  rw [Bool.eq_false_iff]
  intro ha
  have := List.all_eq_true.1 ha a (List.mem_of_getElem? h)
  rw [hp] at this
  cases this
set_option maxRecDepth 10000 in
set_option maxHeartbeats 1000000 in
theorem proper_can (T : Topo) (hv : validB T = true) (e : Ent) (n d : Int) : Can Tryd.prog 50 [topoV T, entV e, num n, num d] (· = flag (entOK T n d e)) := by
  have hll := links_le hv
  obtain ⟨p1, hp1⟩ : ∃ q, leaveB T n e.arcs = q := ⟨_, rfl⟩
  obtain ⟨p2, hp2⟩ : ∃ q, decide (d = n) = q := ⟨_, rfl⟩
  obtain ⟨p3, hp3⟩ : ∃ q, decide (0 < (e.arcs.length : Int)) = q := ⟨_, rfl⟩
  unfold entOK
  rw [hp1, hp2, hp3]
  refine can_of Tryd.func50 rfl Tryd.ntmps50 rfl ?_
  refine W_cs (.a 3 rfl <| .k [2, 3, 4, 5] rfl) ?_
  refine W_seq ?_
  refine W_csK 27 (.raw (.bool ((!p1) || (p2 && p3)))) [4, 5] rfl ?_ ?_
  · refine .a 4 rfl <| .c rfl (hp1 ▸ leaving_can T hv n e.arcs) rfl <| .a 2 rfl <| ?_
    cases p1
    · exact .a 10 rfl <| .k [27, 4, 5] rfl
    · refine .a 2 rfl <| .v (y_q rfl (hp2)) rfl <| .a 1 rfl <| ?_
      cases p2
      · exact .a 6 rfl <| .k [27, 4, 5] rfl
      · exact .a 3 rfl <| .v (y_q rfl (hp3)) rfl <| .a 2 rfl <| .k [27, 4, 5] rfl
  refine W_cond rfl (fun hc => ?_) (fun hc => ?_)
  · have he : (p1 && !(p2 && p3)) = false := by cases p1 <;> cases p2 <;> cases p3 <;> first | rfl | cases hc
    rw [he, Bool.false_and]
    refine W_cs (.a 1 rfl <| .k [8] rfl) ?_
    refine W_ret ?_
    exact ⟨_, _, ResL.of rfl, Pur.pure, rfl⟩
  · have he : (p1 && !(p2 && p3)) = true := by cases p1 <;> cases p2 <;> cases p3 <;> first | rfl | cases hc
    rw [he, Bool.true_and]
    refine W_skip ?_
    refine W_seq ?_
    refine W_cs (.a 3 rfl <| .k [4, 5, 30] rfl) ?_
    refine W_cond rfl (fun hc => ?_) (fun hc => ?_)
    · have hr : e.rep = false := by simpa using hc
      rw [hr, if_neg (by simp)]
      refine W_cs (.a 5 rfl <| .k [8] rfl) ?_
      refine W_ret ?_
      exact ⟨_, _, ResL.of rfl, Pur.pure, rfl⟩
    · have hr : e.rep = true := by simpa using hc
      rw [hr, if_pos rfl]
      refine W_skip ?_
      refine W_seq ?_
      obtain ⟨p4, hp4⟩ : ∃ q, decide ((e.arcs.length : Int) ≠ 1) = q := ⟨_, rfl⟩
      obtain ⟨p5, hp5⟩ : ∃ q, decide (32 < (e.push.length : Int)) = q := ⟨_, rfl⟩
      refine W_csK 44 (.raw (.bool (p4 || p5))) [4, 5] rfl ?_ ?_
      · refine .a 3 rfl <| .v (y_q rfl (hp4)) rfl <| .a 1 rfl <| ?_
        cases p4
        · exact .a 3 rfl <| .v (y_q rfl (hp5)) rfl <| .a 1 rfl <| .k [44, 4, 5] rfl
        · exact .a 5 rfl <| .k [44, 4, 5] rfl
      refine W_cond rfl (fun hx => ?_) (fun hx => ?_)
      · have hf : (decide ((e.arcs.length : Int) = 1) && decide ((e.push.length : Int) ≤ 32)) = false := by
          rcases Bool.or_eq_true_iff.1 hx with h | h
          · rw [h] at hp4; rw [decide_eq_false (tt hp4)]; rfl
          · rw [h] at hp5; rw [decide_eq_false (by have := tt hp5; omega : ¬ ((e.push.length : Int) ≤ 32)), Bool.and_false]
        rw [hf, Bool.false_and]
        refine W_cs (.a 1 rfl <| .k [8] rfl) ?_
        refine W_ret ?_
        exact ⟨_, _, ResL.of rfl, Pur.pure, rfl⟩
      · obtain ⟨c1, c2⟩ := Bool.or_eq_false_iff.1 hx
        rw [c1] at hp4
        rw [c2] at hp5
        have hlen : e.push.length ≤ 32 := by have := ff hp5; omega
        rw [decide_eq_true (Classical.byContradiction (ff hp4)), decide_eq_true (by omega : (e.push.length : Int) ≤ 32), Bool.true_and, Bool.true_and]
        refine W_skip ?_
        refine W_seq ?_
        refine W_cs (.a 4 rfl <| .k [4, 46, 47, 48] rfl) ?_
        refine W_block ?_
        refine W_k [4, 46, 47, 48] rfl ?_
        refine W_loop (fun r s => ∃ k, k ≤ e.push.length ∧ r = e.push.length - k ∧ (e.push.take k).all (segB T) = true ∧ s = ⟨[(4, .pin (topoP T) 0), (46, segsV e.push), (47, num e.push.length), (48, num k)], []⟩) e.push.length ⟨0, by omega, by omega, by simp, rfl⟩ ?_
        rintro r s ⟨k, hk, rfl, hall, rfl⟩
        refine W_cs (.a 1 rfl <| .k [4, 46, 47, 48, 49] rfl) ?_
        refine W_seq ?_
        refine W_cond rfl (fun hy => ?_) (fun hy => ?_)
        · have hlt : k < e.push.length := by have := tt hy; omega
          obtain ⟨a, ha⟩ : ∃ a, e.push[k]? = some a := ⟨e.push[k], by simp [hlt]⟩
          refine W_skip ?_
          refine W_seq ?_
          refine W_block ?_
          refine W_rs ?_
          refine WR_v (y_ix (k * 2) rfl) rfl <| WR_v (y_la rfl (segs_drop e.push k a ha) rfl) rfl <| WR_a 2 rfl <| WR_k [4, 10, 46, 47, 48] rfl ?_
          refine W_cs (.a 2 rfl <| .c rfl (segm_can T (by omega) a) rfl <| .a 1 rfl <| .k [4, 46, 47, 48, 55] rfl) ?_
          refine W_ren [] (.c 4 <| .c 46 <| .c 47 <| .c 48 <| .c 55 .nil) .nil rfl rfl ?_
          refine W_cond rfl (fun hz => ?_) (fun hz => ?_)
          · rw [allF _ _ k a ha (by simpa using hz)]
            refine W_cs (.a 1 rfl <| .k [8] rfl) ?_
            refine W_ret ?_
            exact ⟨_, _, ResL.of rfl, Pur.pure, rfl⟩
          · have hz' : segB T a = true := by simpa using hz
            refine W_skip ?_
            refine W_chain (.v (y_ar rfl) rfl <| .a 1 rfl <| .k [4, 46, 47, 48] rfl) ?_
            exact ⟨e.push.length - (k + 1), by omega, k + 1, by omega, rfl, by rw [allT _ _ k a ha, hall, hz']; rfl, rfl⟩
        · have hke : k = e.push.length := by have := ff hy; omega
          subst hke
          rw [List.take_length] at hall
          rw [hall]
          refine W_exit ?_
          refine W_cs (.a 1 rfl <| .k [8] rfl) ?_
          refine W_ret ?_
          exact ⟨_, _, ResL.of rfl, Pur.pure, rfl⟩
theorem ents_getD (l : List Ent) (k : Nat) (e : Ent) (h : l[k]? = some e) : l.getD k entD = e := by rw [List.getD_eq_getElem?_getD, h]; rfl
theorem entsOK_fail {T : Topo} {n : Int} {l : List Ent} {k : Nat} {e : Ent} (h : l[k]? = some e) (hf : entOK T n k e = false) : entsOK T n l = false := decide_eq_false fun ha => by
  have := ha k (List.getElem?_eq_some_iff.1 h).1
  rw [ents_getD l k e h, hf] at this
  cases this
theorem entsOK_all {T : Topo} {n : Int} {l : List Ent} (h : ∀ (k : Nat) e, l[k]? = some e → entOK T n k e = true) : entsOK T n l = true := decide_eq_true fun d hd => by
  have he : l[d]? = some l[d] := by simp [hd]
  rw [ents_getD l d _ he]
  exact h d _ he
set_option maxRecDepth 10000 in
set_option maxHeartbeats 1000000 in
theorem tvalid_can (T : Topo) (x : Tab) : Can Tryd.prog 19 [topoV T, tabV x] (· = flag (tabOK T x)) := by
  refine can_rep fun ⟨E, w, vs, hR⟩ => ?_
  obtain ⟨v, _, hvv⟩ := hR.get (i := 1) rfl
  have hm := (rep_tab hvv).1
  unfold maxLen at hm
  obtain ⟨p1, hp1⟩ : ∃ q, validB T = q := ⟨_, rfl⟩
  obtain ⟨p2, hp2⟩ : ∃ q, nodeB T x.node = q := ⟨_, rfl⟩
  obtain ⟨p3, hp3⟩ : ∃ q, decide ((x.ents.length : Int) ≠ T.nodes) = q := ⟨_, rfl⟩
  obtain ⟨p4, hp4⟩ : ∃ q, leaveB T x.node x.down = q := ⟨_, rfl⟩
  have he : decide ((x.ents.length : Int) = T.nodes) = !p3 := by rw [← hp3]; simp
  unfold tabOK
  rw [hp1, hp2, he, hp4]
  refine can_of Tryd.func19 rfl Tryd.ntmps19 rfl ?_
  refine W_cs (.a 3 rfl <| .k [2, 3] rfl) ?_
  refine W_seq ?_
  refine W_csK 33 (.raw (.bool ((((!p1) || !p2) || p3) || !p4))) [2, 3] rfl ?_ ?_
  · refine .a 1 rfl <| .c rfl (hp1 ▸ valid_can T) rfl <| .a 2 rfl <| ?_
    cases p1
    · exact .a 23 rfl <| .k [33, 2, 3] rfl
    · refine .a 3 rfl <| .c rfl (hp2 ▸ node_can T x.node) rfl <| .a 3 rfl <| ?_
      cases p2
      · exact .a 16 rfl <| .k [33, 2, 3] rfl
      · refine .a 5 rfl <| .v (y_q rfl (hp3)) rfl <| .a 2 rfl <| ?_
        cases p3
        · exact .a 5 rfl <| .c rfl (hp4 ▸ leaving_can T hp1 x.node x.down) rfl <| .a 2 rfl <| .k [33, 2, 3] rfl
        · exact .a 8 rfl <| .k [33, 2, 3] rfl
  refine W_cond rfl (fun hc => ?_) (fun hc => ?_)
  · have hf : (p1 && p2 && !p3 && p4) = false := by cases p1 <;> cases p2 <;> cases p3 <;> cases p4 <;> first | rfl | cases hc
    rw [hf, Bool.false_and]
    refine W_cs (.a 1 rfl <| .k [4] rfl) ?_
    refine W_ret ?_
    exact ⟨_, _, ResL.of rfl, Pur.pure, rfl⟩
  · have hf : (p1 && p2 && !p3 && p4) = true := by cases p1 <;> cases p2 <;> cases p3 <;> cases p4 <;> first | rfl | cases hc
    rw [hf, Bool.true_and]
    have e1 : p1 = true := by cases p1 <;> simp_all
    rw [e1] at hp1
    refine W_skip ?_
    refine W_seq ?_
    refine W_cs (.a 4 rfl <| .k [2, 3, 35, 36, 37] rfl) ?_
    refine W_block ?_
    refine W_k [2, 3, 35, 36, 37] rfl ?_
    refine W_loop (fun r s => ∃ k, k ≤ x.ents.length ∧ r = x.ents.length - k ∧ (∀ (i : Nat) e, i < k → x.ents[i]? = some e → entOK T x.node i e = true) ∧ s = ⟨[(2, .pin (topoP T) 0), (3, .pin (tabP x) 0), (35, entsV x.ents), (36, num x.ents.length), (37, num k)], []⟩) x.ents.length ⟨0, by omega, by omega, fun i e hi => by omega, rfl⟩ ?_
    rintro r s ⟨k, hk, rfl, hall, rfl⟩
    refine W_cs (.a 1 rfl <| .k [2, 3, 35, 36, 37, 38] rfl) ?_
    refine W_seq ?_
    refine W_cond rfl (fun hy => ?_) (fun hy => ?_)
    · have hlt : k < x.ents.length := by have := tt hy; omega
      obtain ⟨e, hek⟩ : ∃ a, x.ents[k]? = some a := ⟨x.ents[k], by simp [hlt]⟩
      refine W_skip ?_
      refine W_seq ?_
      refine W_block ?_
      refine W_rs ?_
      refine WR_a 1 rfl <| WR_v (y_ix (k * 3) rfl) rfl <| WR_v (y_la rfl (ents_drop x.ents k e hek) rfl) rfl <| WR_a 3 rfl <| WR_k [2, 3, 5, 6, 35, 36, 37] rfl ?_
      refine W_cs (.a 5 rfl <| .c rfl (proper_can T hp1 e x.node k) rfl <| .a 1 rfl <| .k [2, 3, 35, 36, 37, 48] rfl) ?_
      refine W_ren [] (.c 2 <| .c 3 <| .c 35 <| .c 36 <| .c 37 <| .c 48 .nil) .nil rfl rfl ?_
      refine W_cond rfl (fun hz => ?_) (fun hz => ?_)
      · rw [entsOK_fail hek (by simpa using hz)]
        refine W_cs (.a 1 rfl <| .k [4] rfl) ?_
        refine W_ret ?_
        exact ⟨_, _, ResL.of rfl, Pur.pure, rfl⟩
      · have hz' : entOK T x.node k e = true := by simpa using hz
        refine W_skip ?_
        refine W_chain (.v (y_ar rfl) rfl <| .a 1 rfl <| .k [2, 3, 35, 36, 37] rfl) ?_
        refine ⟨x.ents.length - (k + 1), by omega, k + 1, by omega, rfl, fun i e' hi he' => ?_, rfl⟩
        by_cases h : i = k
        · subst h; rw [hek] at he'; cases he'; exact hz'
        · exact hall i e' (by omega) he'
    · have hke : k = x.ents.length := by have := ff hy; omega
      rw [entsOK_all fun i e hi => hall i e (by have := (List.getElem?_eq_some_iff.1 hi).1; omega) hi]
      refine W_exit ?_
      refine W_cs (.a 1 rfl <| .k [4] rfl) ?_
      refine W_ret ?_
      exact ⟨_, _, ResL.of rfl, Pur.pure, rfl⟩
set_option maxRecDepth 10000 in
set_option maxHeartbeats 2000000 in
theorem rtvalid_can (T : Topo) (x : Tab) : Can Tryd.prog 20 [topoV T, tabV x] (· = flag (tabOK T x)) := by
  refine can_rep fun ⟨E, w, vs, hR⟩ => ?_
  obtain ⟨v, _, hvv⟩ := hR.get (i := 1) rfl
  have hm := (rep_tab hvv).1
  unfold maxLen at hm
  obtain ⟨p1, hp1⟩ : ∃ q, validB T = q := ⟨_, rfl⟩
  obtain ⟨p2, hp2⟩ : ∃ q, decide (x.node < 0) = q := ⟨_, rfl⟩
  obtain ⟨p5, hp5⟩ : ∃ q, decide (T.nodes ≤ x.node) = q := ⟨_, rfl⟩
  obtain ⟨p3, hp3⟩ : ∃ q, decide ((x.ents.length : Int) ≠ T.nodes) = q := ⟨_, rfl⟩
  obtain ⟨p4, hp4⟩ : ∃ q, leaveB T x.node x.down = q := ⟨_, rfl⟩
  have he : decide ((x.ents.length : Int) = T.nodes) = !p3 := by rw [← hp3]; simp
  have hn : nodeB T x.node = ((!p2) && !p5) := by rw [← hp2, ← hp5, ← decide_not, ← decide_not, ← Bool.decide_and]; unfold nodeB; exact decide_eq_decide.2 (by omega)
  unfold tabOK
  rw [hp1, hn, he, hp4]
  refine can_of Tryd.func20 rfl Tryd.ntmps20 rfl ?_
  refine W_cs (.a 3 rfl <| .k [2, 3] rfl) ?_
  refine W_seq ?_
  refine W_csK 39 (.raw (.bool (((((!p1) || p2) || p5) || p3) || !p4))) [2, 3] rfl ?_ ?_
  · refine .a 1 rfl <| .c rfl (hp1 ▸ rvalid_can T) rfl <| .a 2 rfl <| ?_
    cases p1
    · exact .a 28 rfl <| .k [39, 2, 3] rfl
    · refine .a 2 rfl <| .v (y_q rfl (hp2)) rfl <| .a 2 rfl <| ?_
      cases p2
      · refine .a 4 rfl <| .v (y_q rfl (hp5)) rfl <| .a 2 rfl <| ?_
        cases p5
        · refine .a 5 rfl <| .v (y_q rfl (hp3)) rfl <| .a 2 rfl <| ?_
          cases p3
          · exact .a 5 rfl <| .c rfl (hp4 ▸ outgoing_can T hp1 x.node (by have := ff hp2; omega) x.down) rfl <| .a 2 rfl <| .k [39, 2, 3] rfl
          · exact .a 8 rfl <| .k [39, 2, 3] rfl
        · exact .a 16 rfl <| .k [39, 2, 3] rfl
      · exact .a 23 rfl <| .k [39, 2, 3] rfl
  refine W_cond rfl (fun hc => ?_) (fun hc => ?_)
  · have hf : (p1 && ((!p2) && !p5) && !p3 && p4) = false := by cases p1 <;> cases p2 <;> cases p5 <;> cases p3 <;> cases p4 <;> first | rfl | cases hc
    rw [hf, Bool.false_and]
    refine W_cs (.a 1 rfl <| .k [4] rfl) ?_
    refine W_ret ?_
    exact ⟨_, _, ResL.of rfl, Pur.pure, rfl⟩
  · have hf : (p1 && ((!p2) && !p5) && !p3 && p4) = true := by cases p1 <;> cases p2 <;> cases p5 <;> cases p3 <;> cases p4 <;> first | rfl | cases hc
    rw [hf, Bool.true_and]
    have e1 : p1 = true := by cases p1 <;> simp_all
    have e2 : p2 = false := by cases p2 <;> simp_all
    rw [e1] at hp1
    rw [e2] at hp2
    have hn0 : 0 ≤ x.node := by have := ff hp2; omega
    refine W_skip ?_
    refine W_seq ?_
    refine W_cs (.a 1 rfl <| .k [2, 3, 5] rfl) ?_
    refine W_block ?_
    refine W_k [2, 3, 5] rfl ?_
    refine W_loop (fun r s => ∃ k, k ≤ x.ents.length ∧ r = x.ents.length - k ∧ (∀ (i : Nat) e, i < k → x.ents[i]? = some e → entOK T x.node i e = true) ∧ s = ⟨[(2, .pin (topoP T) 0), (3, .pin (tabP x) 0), (5, num k)], []⟩) x.ents.length ⟨0, by omega, by omega, fun i e hi => by omega, rfl⟩ ?_
    rintro r s ⟨k, hk, rfl, hall, rfl⟩
    refine W_seq ?_
    refine W_cs (.a 5 rfl <| .k [2, 3, 5, 44] rfl) ?_
    refine W_cond rfl (fun hy => ?_) (fun hy => ?_)
    · have hlt : k < x.ents.length := by have := tt hy; omega
      obtain ⟨e, hek⟩ : ∃ a, x.ents[k]? = some a := ⟨x.ents[k], by simp [hlt]⟩
      obtain ⟨q1, g1⟩ : ∃ q, leaveB T x.node e.arcs = q := ⟨_, rfl⟩
      obtain ⟨q2, g2⟩ : ∃ q, decide ((k : Int) = x.node) = q := ⟨_, rfl⟩
      obtain ⟨q3, g3⟩ : ∃ q, decide (0 < (e.arcs.length : Int)) = q := ⟨_, rfl⟩
      obtain ⟨q4, g4⟩ : ∃ q, e.rep = q := ⟨_, rfl⟩
      obtain ⟨q5, g5⟩ : ∃ q, decide (0 < (e.push.length : Int)) = q := ⟨_, rfl⟩
      obtain ⟨q6, g6⟩ : ∃ q, decide ((e.arcs.length : Int) ≠ 1) = q := ⟨_, rfl⟩
      obtain ⟨q7, g7⟩ : ∃ q, decide (32 < (e.push.length : Int)) = q := ⟨_, rfl⟩
      have hOK : entOK T x.node k e = ((q1 && !(q2 && q3)) && (if q4 then (!q6 && !q7) && e.push.all (segB T) else !q5)) := by
        unfold entOK
        rw [g1, g2, g3, g4, ← g5, ← g6, ← g7, ← decide_not, ← decide_not, ← decide_not]
        congr 2
        · congr 2
          · exact decide_eq_decide.2 (by omega)
          · exact decide_eq_decide.2 (by omega)
        · exact decide_eq_decide.2 (by omega)
      refine W_skip ?_
      refine W_seq ?_
      refine W_block ?_
      refine W_rs ?_
      refine WR_a 3 rfl <| WR_v (y_ix (k * 3) rfl) rfl <| WR_v (y_la rfl (ents_drop x.ents k e hek) rfl) rfl <| WR_a 2 rfl <| WR_k [2, 3, 5, 6] rfl ?_
      refine W_sealPtr 6 0 0 rfl rfl ?_
      refine W_ren [] (.c 2 <| .c 3 <| .c 5 <| .c 6 .nil) .nil rfl rfl ?_
      refine W_seq ?_
      refine W_csK 81 (.raw (.bool (((!q1) || (q2 && q3)) || ((!q4) && q5)))) [2, 3, 5, 6] rfl ?_ ?_
      · refine .a 5 rfl <| .c rfl (g1 ▸ outgoing_can T hp1 x.node hn0 e.arcs) rfl <| .a 2 rfl <| ?_
        cases q1
        · exact .a 22 rfl <| .k [81, 2, 3, 5, 6] rfl
        · refine .a 3 rfl <| .v (y_q rfl (g2)) rfl <| .a 1 rfl <| ?_
          cases q2
          · refine .a 8 rfl <| .v (y_ld rfl (show some (flag e.rep) = some (flag q4) by rw [g4])) rfl <| .a 2 rfl <| ?_
            cases q4
            · exact .a 3 rfl <| .v (y_q rfl (g5)) rfl <| .a 2 rfl <| .k [81, 2, 3, 5, 6] rfl
            · exact .a 6 rfl <| .k [81, 2, 3, 5, 6] rfl
          · refine .a 3 rfl <| .v (y_q rfl (g3)) rfl <| .a 3 rfl <| ?_
            cases q3
            · refine .a 1 rfl <| .v (y_ld rfl (show some (flag e.rep) = some (flag q4) by rw [g4])) rfl <| .a 2 rfl <| ?_
              cases q4
              · exact .a 3 rfl <| .v (y_q rfl (g5)) rfl <| .a 2 rfl <| .k [81, 2, 3, 5, 6] rfl
              · exact .a 6 rfl <| .k [81, 2, 3, 5, 6] rfl
            · exact .a 10 rfl <| .k [81, 2, 3, 5, 6] rfl
      refine W_cond rfl (fun hz => ?_) (fun hz => ?_)
      · rw [entsOK_fail hek (by rw [hOK]; revert hz; cases q1 <;> cases q2 <;> cases q3 <;> cases q4 <;> cases q5 <;> intro hz <;> first | rfl | (simp; done) | cases hz)]
        refine W_cs (.a 1 rfl <| .k [4] rfl) ?_
        refine W_ret ?_
        exact ⟨_, _, ResL.of rfl, Pur.pure, rfl⟩
      · skip
        refine W_skip ?_
        refine W_seq ?_
        refine W_csK 95 (.raw (.bool (q4 && (q6 || q7)))) [2, 3, 5, 6] rfl ?_ ?_
        · refine .a 1 rfl <| .v (y_ld rfl (show some (flag e.rep) = some (flag q4) by rw [g4])) rfl <| .a 1 rfl <| ?_
          cases q4
          · exact .a 11 rfl <| .k [95, 2, 3, 5, 6] rfl
          · refine .a 3 rfl <| .v (y_q rfl (g6)) rfl <| .a 1 rfl <| ?_
            cases q6
            · exact .a 3 rfl <| .v (y_q rfl (g7)) rfl <| .a 2 rfl <| .k [95, 2, 3, 5, 6] rfl
            · exact .a 6 rfl <| .k [95, 2, 3, 5, 6] rfl
        refine W_cond rfl (fun hz2 => ?_) (fun hz2 => ?_)
        · rw [entsOK_fail hek (by rw [hOK]; revert hz2; cases q4 <;> cases q6 <;> cases q7 <;> intro hz2 <;> first | rfl | (simp; done) | cases hz2)]
          refine W_cs (.a 1 rfl <| .k [4] rfl) ?_
          refine W_ret ?_
          exact ⟨_, _, ResL.of rfl, Pur.pure, rfl⟩
        · have hpl : e.push.length ≤ 32 ∨ e.push = [] := by
            cases q4
            · right
              have : q5 = false := by cases q5 <;> simp_all
              subst this
              have := ff g5
              exact List.eq_nil_of_length_eq_zero (by omega)
            · left
              have : q7 = false := by cases q7 <;> simp_all
              subst this
              have := ff g7
              omega
          have hpl' : e.push.length ≤ 32 := by rcases hpl with h | h; exact h; rw [h]; simp
          have hfin : e.push.all (segB T) = true → entOK T x.node k e = true := fun ha => by
            rw [hOK, ha]
            clear hOK g1 g2 g3 g4 g5 g6 g7 hpl hpl' hall
            revert hz hz2
            cases q1 <;> cases q2 <;> cases q3 <;> cases q4 <;> cases q5 <;> cases q6 <;> cases q7 <;> intro hz hz2 <;> first | rfl | (cases hz; done) | (cases hz2; done)
          have hfail : e.push.all (segB T) = false → entOK T x.node k e = false := fun ha => by
            rcases hpl with h | h
            · rw [hOK, ha]
              cases q4
              · have : q5 = true := by
                  cases q5
                  · have := ff g5
                    have h0 := List.eq_nil_of_length_eq_zero (by omega : e.push.length = 0)
                    rw [h0] at ha; cases ha
                  · rfl
                subst this
                simp
              · simp
            · rw [h] at ha; cases ha
          refine W_skip ?_
          refine W_cs (.a 1 rfl <| .k [2, 3, 5, 6, 7] rfl) ?_
          refine W_block ?_
          refine W_k [2, 3, 5, 6, 7] rfl ?_
          refine W_loop (fun r s => ∃ j, j ≤ e.push.length ∧ r = e.push.length - j ∧ (e.push.take j).all (segB T) = true ∧ s = ⟨[(2, .pin (topoP T) 0), (3, .pin (tabP x) 0), (5, num k), (6, .pin (entP e) 0), (7, num j)], []⟩) e.push.length ⟨0, by omega, by omega, by simp, rfl⟩ ?_
          rintro r s ⟨j, hj, rfl, hpall, rfl⟩
          refine W_seq ?_
          refine W_cs (.a 5 rfl <| .k [2, 3, 5, 6, 7, 100] rfl) ?_
          refine W_cond rfl (fun hw => ?_) (fun hw => ?_)
          · have hlt2 : j < e.push.length := by have := tt hw; omega
            obtain ⟨a, ha⟩ : ∃ a, e.push[j]? = some a := ⟨e.push[j], by simp [hlt2]⟩
            refine W_skip ?_
            refine W_seq ?_
            refine W_block ?_
            refine W_drs mixed (by kernel_rfl) (.a 4 rfl <| .v [105, 106] (y_ix (j * 2) rfl) rfl rfl <| .v [107] (y_la rfl (segs_drop e.push j a ha) rfl) rfl rfl <| .v [103, 108] (y_c rfl (rseg_can T hp1 a)) rfl rfl <| .a 1 rfl <| .k [2, 3, 5, 6, 7, 110] rfl) ?_
            refine W_cond rfl (fun hs => ?_) (fun hs => ?_)
            · rw [entsOK_fail hek (hfail (allF _ _ j a ha (by simpa using hs)))]
              refine W_cs (.a 1 rfl <| .k [4] rfl) ?_
              refine W_ret ?_
              exact ⟨_, _, ResL.of rfl, Pur.pure, rfl⟩
            · have hs' : segB T a = true := by simpa using hs
              refine W_skip ?_
              refine W_chain (.a 1 rfl <| .v (y_ar rfl) rfl <| .a 1 rfl <| .k [2, 3, 5, 6, 7] rfl) ?_
              exact ⟨e.push.length - (j + 1), by omega, j + 1, by omega, rfl, by rw [allT _ _ j a ha, hpall, hs']; rfl, rfl⟩
          · have hje : j = e.push.length := by have := ff hw; omega
            subst hje
            rw [List.take_length] at hpall
            have hyes := hfin hpall
            refine W_exit ?_
            refine W_chain (.a 1 rfl <| .v (y_ar rfl) rfl <| .a 1 rfl <| .k [2, 3, 5] rfl) ?_
            refine ⟨x.ents.length - (k + 1), by omega, k + 1, by omega, rfl, fun i e' hi he' => ?_, rfl⟩
            by_cases h : i = k
            · subst h; rw [hek] at he'; cases he'; exact hyes
            · exact hall i e' (by omega) he'
    · have hke : k = x.ents.length := by have := ff hy; omega
      rw [entsOK_all fun i e hi => hall i e (by have := (List.getElem?_eq_some_iff.1 hi).1; omega) hi]
      refine W_exit ?_
      refine W_cs (.a 1 rfl <| .k [4] rfl) ?_
      refine W_ret ?_
      exact ⟨_, _, ResL.of rfl, Pur.pure, rfl⟩
end PW
end Go.Proofs.YtkaalpdfppbdeaaDoor

/- The next arcs of a node, as plain mathematics: they lead to nodes that are nearer; a node that reaches has one; tables of routes are valid. -/
namespace Go.Proofs.YtkaalpdfppbdeaaDoor
set_option linter.unusedVariables false
set_option linter.unusedSimpArgs false
namespace PW
open Go.RowKit Reg Mem Net

theorem outL_sorted (T : Topo) (n : Int) : (outL T n).Pairwise (· < ·) := by
  unfold outL outTo
  refine List.Pairwise.map _ (fun a b h => ?_) ((List.pairwise_lt_range (n := 2 * T.links.length)).filter _)
  show (a : Int) < (b : Int)
  omega
theorem outL_iff {T : Topo} {n : Int} {a : Int} : a ∈ outL T n ↔ arcB T a = true ∧ tailN T a.toNat = n := by
  unfold outL outTo
  rw [List.mem_map, arcB_iff]
  constructor
  · rintro ⟨b, hb, rfl⟩
    obtain ⟨h1, h2⟩ := List.mem_filter.1 hb
    have := List.mem_range.1 h1
    refine ⟨⟨by simp, by simp; omega⟩, by simpa using h2⟩
  · rintro ⟨⟨h0, h1⟩, h2⟩
    refine ⟨a.toNat, List.mem_filter.2 ⟨List.mem_range.2 (by omega), by simpa using h2⟩, by simp; omega⟩
theorem leave_of {T : Topo} {n : Int} {L : List Int} (hs : L.Pairwise (· < ·)) (hm : ∀ a ∈ L, arcB T a = true ∧ tailN T a.toNat = n) : leaveB T n L = true := decide_eq_true fun i hi => by
  have h1 := hm _ (getD_mem (d := 0) hi)
  refine ⟨h1.1, h1.2, fun h0 => ?_⟩
  have := List.pairwise_iff_getElem.1 hs (i - 1) i (by omega) hi (by omega)
  rw [List.getD_eq_getElem?_getD, List.getD_eq_getElem?_getD, List.getElem?_eq_getElem hi, List.getElem?_eq_getElem (by omega : i - 1 < L.length)]
  exact this
theorem leave_out (T : Topo) (n : Int) (p : Int → Bool) : leaveB T n ((outL T n).filter p) = true := leave_of ((outL_sorted T n).filter p) fun _ ha => outL_iff.1 (List.mem_filter.1 ha).1
theorem leave_next (T : Topo) (D : List Bool) (n d : Nat) : leaveB T n (nextL T D n d) = true := by
  unfold nextL
  split
  · exact decide_eq_true fun i hi => by simp at hi
  · exact leave_out T n _
theorem next_self (T : Topo) (D : List Bool) (n : Nat) : nextL T D n n = [] := by unfold nextL; rw [if_pos (.inl rfl)]
/-- Tables of routes are valid. -/
theorem routes_valid {T : Topo} {D : List Bool} (hv : validB T = true) {n : Nat} (hn : (n : Int) < T.nodes) : tabOK T (routesT T D n) = true := by
  unfold tabOK routesT
  have h1 : nodeB T (n : Int) = true := nodeB_iff.2 ⟨by omega, hn⟩
  have hN := (sound_of hv).nodes
  have h2 : decide (((toL T D n T.nodes.toNat).length : Int) = T.nodes) = true := decide_eq_true (by rw [toL_len]; omega)
  have h3 : leaveB T n (downL D (outL T n)) = true := leave_out T n _
  have h4 : entsOK T n (toL T D n T.nodes.toNat) = true := entsOK_all fun d e he => by
    unfold toL at he
    rw [List.getElem?_map, Option.map_eq_some_iff] at he
    obtain ⟨d', hd', rfl⟩ := he
    have hd : d' = d := by
      have := List.getElem?_eq_some_iff.1 hd'
      obtain ⟨h, h'⟩ := this
      simpa using h'.symm
    subst hd
    unfold entOK
    simp only [leave_next, Bool.true_and]
    by_cases hdn : d' = n
    · subst hdn; rw [next_self]; simp
    · rw [decide_eq_false (by omega)]; simp
  rw [hv, h1, h2, h3, h4]
  rfl
theorem dist_at {T : Topo} {D : List Bool} (hv : validB T = true) {d x : Nat} (hd : (d : Int) < T.nodes) (hx : (x : Int) < T.nodes) : (distL T D d false).getD x 0 = at' (distL T D d false) (x : Int) := by
  have hl := (distL_bound (D := D) hv (dir := false) hd).1
  unfold at'
  rw [Int.toNat_natCast, List.getD_eq_getElem?_getD, List.getD_eq_getElem?_getD, List.getElem?_eq_getElem (by omega)]
  rfl
/-- What is known of a next arc. -/
structure Nearer (T : Topo) (D : List Bool) (n d a : Nat) : Prop where
  arc : a < 2 * T.links.length
  tail : tailN T a = (n : Int)
  up : downN D a = false
  ne : n ≠ d
  reach : 0 ≤ (distL T D d false).getD (headN T a).toNat 0
  pass : headN T a = (d : Int) ∨ overN T (headN T a).toNat = false
  sum : (distL T D d false).getD n 0 = (distL T D d false).getD (headN T a).toNat 0 + costN T a
theorem next_mem {T : Topo} {D : List Bool} {n d : Nat} {a : Int} (h : a ∈ nextL T D n d) : ∃ k : Nat, a = k ∧ Nearer T D n d k := by
  unfold nextL at h
  split at h
  · simp at h
  · rename_i hne
    obtain ⟨h1, h2⟩ := List.mem_filter.1 h
    obtain ⟨h3, h4⟩ := outL_iff.1 h1
    obtain ⟨h5, h6⟩ := arcB_iff.1 h3
    obtain ⟨k, rfl⟩ := Int.eq_ofNat_of_zero_le h5
    rw [Int.toNat_natCast] at h2 h4
    unfold passB at h2
    simp only [Bool.and_eq_true, Bool.not_eq_true', Bool.or_eq_false_iff, decide_eq_true_eq, decide_eq_false_iff_not] at h2
    obtain ⟨⟨⟨g1, g2⟩, g3⟩, g4⟩ := h2
    refine ⟨k, rfl, by omega, h4, g1, fun e => hne (.inl e), by omega, ?_, by omega⟩
    rcases Bool.and_eq_false_iff.1 g3 with g | g
    · exact .inl (Classical.byContradiction (ff g))
    · exact .inr g
theorem next_of {T : Topo} {D : List Bool} {n d k : Nat} (h : Nearer T D n d k) (hc : 1 ≤ costN T k) : (k : Int) ∈ nextL T D n d := by
  have hs := h.sum
  have hr := h.reach
  unfold nextL
  rw [if_neg (by rintro (e | e); exact h.ne e; omega)]
  refine List.mem_filter.2 ⟨outL_iff.2 ⟨arcB_iff.2 ⟨by omega, by have := h.arc; omega⟩, h.tail⟩, ?_⟩
  unfold passB
  rw [Int.toNat_natCast]
  simp only [Bool.and_eq_true, Bool.not_eq_true', Bool.or_eq_false_iff, decide_eq_true_eq, decide_eq_false_iff_not]
  refine ⟨⟨⟨h.up, by omega⟩, ?_⟩, by omega⟩
  rcases h.pass with g | g
  · rw [decide_eq_false (by simpa using g)]; rfl
  · rw [g, Bool.and_false]
theorem next_ex {T : Topo} {D : List Bool} (hv : validB T = true) {n d : Nat} (hn : (n : Int) < T.nodes) (hd : (d : Int) < T.nodes) (hne : n ≠ d) (h0 : 0 ≤ (distL T D d false).getD n 0) : ∃ k, Nearer T D n d k := by
  have hS := sound_of hv
  have hI := distL_is hS D false hd
  have e1 := dist_at (D := D) hv hd hn
  rcases hI.supp n hn (by rw [← e1]; exact h0) with h | ⟨a, ha, hx, ⟨w1, w2, w3⟩, hs⟩
  · exact absurd h hne
  · have hh := hS.head a ha
    obtain ⟨y, hy⟩ := Int.eq_ofNat_of_zero_le hh.1
    have e2 := dist_at (D := D) hv hd (x := y) (by omega)
    simp only [arcX, arcY, Bool.false_eq_true, if_false] at hx w2 w3 hs
    rw [hy] at w2 w3 hs
    refine ⟨a, ha, hx, w1, hne, ?_, ?_, ?_⟩
    · rw [hy, Int.toNat_natCast, e2]; exact w2
    · rw [hy]; exact w3
    · rw [hy, Int.toNat_natCast, e1, e2]; exact hs
theorem dist_self {T : Topo} {D : List Bool} (hv : validB T = true) {d : Nat} (hd : (d : Int) < T.nodes) : (distL T D d false).getD d 0 = 0 := by
  rw [dist_at hv hd hd]
  exact (distL_is (sound_of hv) D false hd).root
theorem next_pos {T : Topo} {D : List Bool} (hv : validB T = true) {n d : Nat} (hn : (n : Int) < T.nodes) (hd : (d : Int) < T.nodes) : decide (0 < ((nextL T D n d).length : Int)) = decide (0 < (distL T D d false).getD n 0) := by
  refine decide_eq_decide.2 ⟨fun h => ?_, fun h => ?_⟩
  · obtain ⟨a, l, hl⟩ : ∃ a l, nextL T D n d = a :: l := by
      cases hx : nextL T D n d with
      | nil => rw [hx] at h; simp at h
      | cons a l => exact ⟨a, l, rfl⟩
    obtain ⟨k, _, hk⟩ := next_mem (T := T) (D := D) (n := n) (d := d) (a := a) (by rw [hl]; simp)
    have := hk.sum
    have := hk.reach
    have := ((sound_of hv).cost k hk.arc).1
    omega
  · have hne : n ≠ d := fun e => by subst e; rw [dist_self hv hd] at h; omega
    obtain ⟨k, hk⟩ := next_ex (D := D) hv hn hd hne (by omega)
    have := next_of hk ((sound_of hv).cost k hk.arc).1
    have := List.length_pos_of_mem this
    omega
end PW
end Go.Proofs.YtkaalpdfppbdeaaDoor

/- Pure walks: strings: bytes appended to a row of the call's own. No program in sight. -/
namespace Go.Proofs.YtkaalpdfppbdeaaDoor
set_option linter.unusedVariables false
set_option linter.unusedSimpArgs false
namespace PW
open Go.RowKit Reg Mem
section
variable {P : Program} {σ : Sto} {t : Tms} {o : Oper}
def bytesP (l : List UInt8) : List PV := l.map fun b => .raw (.int .u8 b.toNat)
instance (l : List UInt8) : IsPureL (bytesP l) := IsPureL.map _ _ fun _ => inferInstance
instance (l : List UInt8) : IsOneL (bytesP l) := IsOneL.map _ _ fun _ => inferInstance
theorem bytesP_append (a b : List UInt8) : bytesP a ++ bytesP b = bytesP (a ++ b) := by simp [bytesP]
theorem run_append_whereS {w : World} (base : Nat) (t u ty e : TypeId) (i : TypeInfo) (ht : P.underlying t = some (.slice e)) (hu : P.underlying u = some .string) (hi : P.info? e = some i) (hz : i.zero = some (.int .u8 0))
    (hsize : i.size = 1) (hby : i.bytes = 1) (v : Value) (n : Nat) (xs : List Value) (hown : w.ownsRow base e 1 v n xs) (s : ByteArray)
    (h63 : n + s.size ≤ maxLen) (hbytes : n + s.size ≤ 140737488355328) (hbase : base ≤ w.heap.size) :
    ∃ v' w', (Builtin.append_ #[t, u] ty #[v, .string s]).run P w = .ok v' w' ∧ w'.ownsRow base e 1 v' (n + s.size) (xs ++ Lib.strCells s) ∧ w.grownBy w' v.ownBlock ∧ (v'.ownBlock = v.ownBlock ∨ v'.ownBlock = some w.heap.size) := by
  obtain ⟨v', w', hr, h2, h3, h4⟩ := Lib.run_append_own_string (P := P) w base t u ty e i ht hu hi hz hsize hby v n xs hown s h63 hbytes hbase
  refine ⟨v', w', hr, h2, h3, ?_⟩
  have hsmall : n + s.size ≤ 9223372036854775807 := by simp only [maxLen] at h63; omega
  rcases hown.2 with ⟨rfl, rfl⟩ | ⟨g, cap, cur, rfl, hbg, hg, hnc, hcm, hcs, htake⟩
  · by_cases hm : s.size = 0
    · rw [h4.2 ⟨rfl, hm⟩]; exact .inl rfl
    · have hr' := run_append_nil_string (P := P) w t u ty e i (.int .u8 0) ht hu hi hz s (by omega) (by omega) (by rw [hby]; omega)
      rw [hr'] at hr
      cases hr
      exact .inr rfl
  · by_cases hroom : n + s.size ≤ cap
    · have hr' := Lib.run_append_room_string (P := P) w t u ty e i ht hu hi hsize g n cap cur hg s hroom (by rw [hcs]; omega)
      rw [hr'] at hr
      cases hr
      exact .inl rfl
    · have holds : ∀ (j : Nat) u, xs[j]? = some u → w.cell? ((⟨g, 0, none⟩ : Addr).add j) = some u := hown.cells (g := g) rfl
      have hr' := Lib.run_append_grow_string (P := P) w t u ty e i (.int .u8 0) ht hu hi hz ⟨g, 0, none⟩ n cap xs (by rw [hsize]; exact hown.1) holds s (by omega) (by omega) (growslice_fits (by omega) (by rw [hby]; omega))
      rw [hr'] at hr
      cases hr
      exact .inr rfl
def byteK (P : Program) (ty sy : TypeId) : Option TypeId :=
  match P.underlying ty, P.underlying sy with
  | some (.slice e), some .string => match P.info? e with
    | some i => match i.zero with
      | some (.int .u8 0) => bif Nat.beq i.size 1 && Nat.beq i.bytes 1 then some e else none
      | _ => none
    | none => none
  | _, _ => none
theorem byteK_spec {ty sy e : TypeId} (h : byteK P ty sy = some e) : P.underlying ty = some (.slice e) ∧ P.underlying sy = some .string ∧ ∃ i, P.info? e = some i ∧ i.zero = some (.int .u8 0) ∧ i.size = 1 ∧ i.bytes = 1 := by
  unfold byteK at h
  split at h
  · rename_i e' h1 h2
    split at h
    · rename_i i hi
      split at h
      · rename_i hz
        rw [Bool.cond_eq_ite] at h
        split at h
        · rename_i hb
          cases h
          obtain ⟨b1, b2⟩ := Bool.and_eq_true_iff.1 hb
          exact ⟨h1, h2, i, hi, hz, Nat.eq_of_beq_eq_true b1, Nat.eq_of_beq_eq_true b2⟩
        · cases h
      · cases h
    · cases h
  · cases h
/-- Append of a string to a row of bytes of the call's own. -/
theorem l_appendStr {ty sy e n i : Nat} {xs : List PV} {x y : Operand} {s : ByteArray} (ho : o.op = .call { callee := .builtin .append, args := #[x, y], argTypes := #[ty, sy] }) (hk : byteK P ty sy = some e) (hx : evalO t x = some (.own i)) (hi : σ[i]? = some (some (.row e 1 n xs)))
    (hy : evalO t y = some (.raw (.string s))) (hn : n + s.size ≤ 140737488355328) :
    Loud P σ t o (.own σ.length) (σ.set i none ++ [some (.row e 1 (n + s.size) (xs ++ bytesP s.data.toList))]) := by
  intro F base E ρ w hρ hS hT
  have h1 := evalO_rep hρ hT hx
  have h2 := evalO_rep hρ hT hy
  generalize hz1 : ρ x = v at h1
  generalize hz2 : ρ y = u at h2
  cases h2
  obtain ⟨hu, hu2, inf, hinf, hz, hs, hby⟩ := byteK_spec hk
  cases h1 with
  | own _ hiL _ hat hone =>
    obtain ⟨cs, k1, k2⟩ := hS.blk i _ hi
    rw [hat] at k1
    have hob : blockOf (E.at_ i) = v.ownBlock := by rw [hat]; exact own_block k1
    obtain ⟨v', w', hrun, hown, hg, hw⟩ := run_append_whereS (P := P) (w := w) base ty sy o.type e inf hu hu2 hinf hz hs hby v n cs k1 s (by unfold maxLen; omega) hn hS.bl
    have hr : (execOp ρ o).run P w = .ok (.value v') w' := by
      simp only [execOp, ho, resolve, invoke, builtin, Sem.run_bind, Sem.run_pure, Result.andThen_ok, List.map_toArray, List.map_cons, List.map_nil, hz1, hz2, hrun]
    have hnw : RepL E w (Lib.strCells s) (bytesP s.data.toList) := by
      refine ⟨by simp [Lib.strCells, bytesP], fun j c u h1 h2 => ?_⟩
      simp only [Lib.strCells, bytesP, List.getElem?_map, Option.map_eq_some_iff] at h1 h2
      obtain ⟨b, hb, rfl⟩ := h1
      obtain ⟨b', hb', rfl⟩ := h2
      rw [hb] at hb'
      cases hb'
      exact .raw _
    have hv' : ∀ b, blockOf v' = some b → blockOf (E.at_ i) = some b ∨ w.heap.size ≤ b := fun b hb => by
      rw [own_block hown] at hb
      rcases hw with h | h
      · rw [hob, ← h]; exact .inl hb
      · rw [h] at hb; cases hb; exact .inr (Nat.le_refl _)
    obtain ⟨a1, a2⟩ := hS.swap (w' := w') (blk := .row e 1 (n + s.size) (xs ++ bytesP s.data.toList)) hi hg.size (fun k hk hne => hg.block k hk (by rw [← hob]; exact Ne.symm hne)) hv' (fun E' g => ⟨cs ++ Lib.strCells s, hown, (k2.append hnw).goes g⟩)
    refine ⟨v', w', _, .inl hr, a1, a2, ⟨hg.os, hg.tape, hg.output, hg.size, fun k hk => hg.block k (Nat.lt_of_lt_of_le hk hS.bl) (fun e => ?_)⟩, .own σ.length (by simp [Env.push, Env.kill, hS.len]) v' (by simp [Env.push, Env.kill, hS.len]) ?_⟩
    · have := (k1.lt k e.symm).1; omega
    · rcases hown.2 with ⟨rfl, _⟩ | ⟨g', cap, cur, rfl, _⟩ <;> rfl
theorem Sat.drop {F : Nat → Prop} {base : Nat} {E : Env} {w w' : World} (hS : Sat F base σ E w) {j g : Nat} {bj : Blk} (hj : σ[j]? = some (some bj)) (hb : blockOf (E.at_ j) = some g) (hs : w.heap.size ≤ w'.heap.size) (ho : ∀ k, k < w.heap.size → k ≠ g → w'.heap[k]? = w.heap[k]?) :
    Sat F base (σ.set j none) (E.kill j) w' ∧ Goes E w (E.kill j) w' := by
  have hgM : E.M g := (hS.mm g).2 (.inr ⟨j, bj, hj, hb⟩)
  obtain ⟨k1, _⟩ := hS.kill j hj
  have g' : Goes E w (E.kill j) w' := ⟨Nat.le_refl _, fun _ _ => rfl, fun b _ hM h => hM h.1, hs, fun k hk hM => ho k hk (fun e => hM (by rw [e]; exact hgM))⟩
  refine ⟨⟨Nat.le_trans hS.bl hs, fun b hb' => ⟨Nat.lt_of_lt_of_le (k1.fb b hb').1 hs, (k1.fb b hb').2⟩, k1.len, k1.mm, fun i bl hi => ?_, k1.inj⟩, g'⟩
  obtain ⟨hne, h3⟩ := set_none hi
  exact (hS.blk i bl h3).goes g' (fun k hk => ho k ((hS.blk i bl h3).lt hk).2 (fun e => hne (hS.inj i j bl bj g h3 hj (by rw [← e]; exact hk) hb)))
theorem y_lenStr {ty : TypeId} {x : Operand} {s : ByteArray} (ho : o.op = .call { callee := .builtin .len, args := #[x], argTypes := #[ty] }) (hu : P.underlying ty = some .string) (hx : evalO t x = some (.raw (.string s))) : Yield P σ t o (.raw (.int .i64 s.size)) := by
  intro F base E ρ w hρ _ hT
  have h1 := evalO_rep hρ hT hx
  generalize hz : ρ x = z at h1
  cases h1
  simp [execOp, ho, resolve, invoke, builtin, Builtin.len_, hz, run_underlying hu, goInt]
  exact upon_val (.raw _)
/-- unsafe.SliceData of a row of the call's own that is not empty. -/
theorem y_sliceData {ty : TypeId} {x : Operand} {j e s n : Nat} {xs : List PV} (ho : o.op = .call { callee := .builtin .unsafeSliceData, args := #[x], argTypes := #[ty] }) (hx : evalO t x = some (.own j)) (hj : σ[j]? = some (some (.row e s n xs))) (hn : 0 < n) : Yield P σ t o (.ptr j 0) := by
  intro F base E ρ w hρ hS hT
  have h1 := evalO_rep hρ hT hx
  generalize hz : ρ x = z at h1
  cases h1 with
  | own _ hi _ h hone =>
    obtain ⟨cs, k1, _⟩ := hS.blk j _ hj
    rw [h] at k1
    rcases k1.2 with ⟨_, h0⟩ | ⟨g, cap, cur, hv, _, _, hnc, _⟩
    · omega
    · subst hv
      have := Lib.run_unsafeSliceData_row (P := P) w #[ty] o.type ⟨g, 0, none⟩ n cap (by omega)
      simp only [execOp, ho, resolve, invoke, builtin, Sem.run_bind, Sem.run_pure, Result.andThen_ok, List.map_toArray, List.map_cons, List.map_nil, hz, this]
      exact upon_val (.ptr j 0 g hi (.inr ⟨n, cap, h⟩))
/-- unsafe.String over a row of bytes of the call's own: the row is no longer written to. -/
theorem l_unsafeStr {pt it : TypeId} {x y : Operand} {j e : Nat} {l : List UInt8} (ho : o.op = .call { callee := .builtin .unsafeString, args := #[x, y], argTypes := #[pt, it] }) (hp : P.underlying pt = some (.pointer e)) (hc : P.cellsOf e = 1) (hx : evalO t x = some (.ptr j 0)) (hy : evalO t y = some (.raw (.int .i64 l.length))) (hj : σ[j]? = some (some (.row e 1 l.length (bytesP l)))) (hl : 0 < l.length) :
    Loud P σ t o (.raw (.string ⟨l.toArray⟩)) (σ.set j none) := by
  intro F base E ρ w hρ hS hT
  have h1 := evalO_rep hρ hT hx
  have h2 := evalO_rep hρ hT hy
  generalize hz : ρ x = z at h1
  generalize hz' : ρ y = z' at h2
  cases h2
  cases h1 with
  | ptr _ _ b hi h =>
    obtain ⟨cs, k1, k2⟩ := hS.blk j _ hj
    have hcs : cs = Lib.byteCells l := by
      apply List.ext_getElem?
      intro i
      by_cases hi' : i < l.length
      · have h3 := k2.2 i (cs[i]'(by rw [k2.1]; simpa [bytesP] using hi')) (.raw (.int .u8 (l[i]).toNat)) (by simp) (by simp [bytesP, hi'])
        have h4 : cs[i]'(by rw [k2.1]; simpa [bytesP] using hi') = .int .u8 (l[i]).toNat := by
          generalize cs[i]'(by rw [k2.1]; simpa [bytesP] using hi') = q at h3
          cases h3; rfl
        rw [List.getElem?_eq_getElem (by rw [k2.1]; simpa [bytesP] using hi'), h4]
        simp [Lib.byteCells, hi']
      · rw [List.getElem?_eq_none (by rw [k2.1]; simp [bytesP]; omega), List.getElem?_eq_none (by simp [Lib.byteCells]; omega)]
    subst hcs
    have k3 := k1
    rcases k1.2 with ⟨hv, h0⟩ | ⟨g, cap, cur, hv, hbg, hg, hnc, hcm, hsz, htk⟩
    · omega
    · have hbeq : b = g := by
        rcases h with h | ⟨n, c, h⟩
        · rw [hv] at h; cases h
        · rw [hv] at h; cases h; rfl
      subst hbeq
      have hblk : blockOf (E.at_ j) = some b := by rw [hv]; rfl
      have hrun := Lib.run_unsafeString_row (P := P) w pt it o.type e hp hc b cur.size (by simp [World.shape?, hg]) l (by intro e'; rw [e'] at hl; simp at hl) (by omega) (by unfold maxLen at hcm; omega) (fun i x hx' => k3.cells (g := b) (by rw [hv]; rfl) i (.int .u8 x.toNat) (by simp [Lib.byteCells, hx']))
      have hr : (execOp ρ o).run P w = .ok (.value (.string ⟨l.toArray⟩)) (w.freeze ⟨b, 0, none⟩ l.length) := by
        simp only [execOp, ho, resolve, invoke, builtin, Sem.run_bind, Sem.run_pure, Result.andThen_ok, List.map_toArray, List.map_cons, List.map_nil, hz, hz', hrun]
      have hfz : ∀ k, k ≠ b → (w.freeze ⟨b, 0, none⟩ l.length).heap[k]? = w.heap[k]? := fun k hk => by
        unfold World.freeze
        split
        · rfl
        · simp only [Array.getElem?_modify]
          rw [if_neg (Ne.symm hk)]
      have hsz' : w.heap.size ≤ (w.freeze ⟨b, 0, none⟩ l.length).heap.size := by
        unfold World.freeze
        split <;> simp
      obtain ⟨a1, a2⟩ := Sat.drop (w' := w.freeze ⟨b, 0, none⟩ l.length) hS hj hblk hsz' (fun k _ hk => hfz k hk)
      exact ⟨_, _, _, .inl hr, a1, a2, Lib.below_freeze (Below.refl base w) (p := ⟨b, 0, none⟩) hbg _, .raw _⟩
theorem y_nilEql {x y : Operand} {ty tz : TypeId} (ho : o.op = .binOp .eql ty x y tz) (hk : ptrK P ty = true) (hx : evalO t x = some (.raw (.pointer none))) (hy : evalO t y = some (.raw (.pointer none))) : Yield P σ t o (.raw (.bool true)) := by
  refine y_bin ho hx hy fun w => ?_
  unfold ptrK at hk
  split at hk
  · rename_i e hu
    have key : ∀ d, (Op.equalIn (d + 1) ty (.pointer none) (.pointer none)).run P w = .ok true w := fun d => by
      simp only [Op.equalIn, Sem.run_bind, run_underlying hu, Result.andThen_ok, Sem.run_pure, Option.isNone_none]
    have := key 9999
    simp only [Nat.reduceAdd] at this
    simp [eqGuard, binOp, Op.equal, Op.maxDepth, this]
  · cases hk
theorem y_ptrSame {x y : Operand} {ty te tz : TypeId} {i k : Nat} {ji : TypeInfo} (ho : o.op = .binOp .neq ty x y tz) (hp : P.underlying ty = some (.pointer te)) (hte : P.info? te = some ji) (hx : evalO t x = some (.ptr i k)) (hy : evalO t y = some (.ptr i k)) : Yield P σ t o (.raw (.bool false)) := by
  intro F base E ρ w hρ hS hT
  have h1 := evalO_rep hρ hT hx
  have h2 := evalO_rep hρ hT hy
  have he : ρ x = ρ y := IsFix.det E w _ _ h1 h2
  generalize hz : ρ x = z at h1
  have hz' : ρ y = z := by rw [← he, hz]
  cases h1 with
  | ptr _ _ b hi h =>
    have hb := Lib.run_neq_ptr_same (P := P) w ⟨b, k, none⟩ hp hte
    have hr : (execOp ρ o).run P w = .ok (.value (.bool false)) w := by
      simp only [execOp, ho, hz, hz', Sem.run_bind, Sem.run_pure]
      have hg : (eqGuard .neq ty x y (.pointer (some ⟨b, k, none⟩)) (.pointer (some ⟨b, k, none⟩))).run P w = .ok () w := rfl
      rw [hg]
      simp only [Result.andThen_ok, hb]
    rw [hr]
    exact upon_val (.raw _)
theorem y_toUnsafe {src dst te ty : TypeId} {x : Operand} {i : Nat} {ji : TypeInfo} {xs : List PV} (ho : o.op = .convert src dst x) (hs : P.underlying src = some (.pointer te)) (hd : P.underlying dst = some .unsafePointer) (ht : P.info? te = some ji) (hj : ji.size ≠ 0) (hx : evalO t x = some (.ptr i 0)) (hi : σ[i]? = some (some (.cells ty xs))) (hl : 0 < xs.length) : Yield P σ t o (.ptr i 0) := by
  intro F base E ρ w hρ hS hT
  have h1 := evalO_rep hρ hT hx
  have h1' := h1
  generalize hz : ρ x = z at h1 h1'
  obtain ⟨b, cs, k1, k2, k3, k4⟩ := hS.blk i _ hi
  cases h1 with
  | ptr _ _ b' hi' h =>
    have hb : b' = b := by
      rcases h with h | ⟨n, c, h⟩ <;> rw [k1] at h <;> cases h
      rfl
    subst hb
    have := Lib.run_to_unsafe (P := P) w ⟨b', 0, none⟩ hs hd ht hj (e := ty) (cells := cs.size) (by simp [World.shape?, k3]) (by have := k4.1; simp at this ⊢; omega)
    simp only [execOp, ho, hz, Sem.run_bind, this, Result.andThen_ok, Sem.run_pure]
    exact upon_val h1'
theorem y_fromUnsafe {src dst u ty : TypeId} {x : Operand} {i : Nat} {ji : TypeInfo} {xs : List PV} (ho : o.op = .convert src dst x) (hs : P.underlying src = some .unsafePointer) (hd : P.underlying dst = some (.pointer u)) (ht : P.info? u = some ji) (hx : evalO t x = some (.ptr i 0)) (hi : σ[i]? = some (some (.cells ty xs))) (hl : liesAt P P.depth ty (xs.length / P.cellsOf ty) 0 u 1 = true) : Yield P σ t o (.ptr i 0) := by
  intro F base E ρ w hρ hS hT
  have h1 := evalO_rep hρ hT hx
  have h1' := h1
  generalize hz : ρ x = z at h1 h1'
  obtain ⟨b, cs, k1, k2, k3, k4⟩ := hS.blk i _ hi
  cases h1 with
  | ptr _ _ b' hi' h =>
    have hb : b' = b := by
      rcases h with h | ⟨n, c, h⟩ <;> rw [k1] at h <;> cases h
      rfl
    subst hb
    have hsz : cs.size = xs.length := by have := k4.1; simpa using this
    have := Lib.run_from_unsafe (P := P) w ⟨b', 0, none⟩ hs hd ht (e := ty) (cells := cs.size) (by simp [World.shape?, k3]) (by rw [hsz]; exact hl)
    simp only [execOp, ho, hz, Sem.run_bind, this, Result.andThen_ok, Sem.run_pure]
    exact upon_val h1'
/-- A function of the model's own that hands its argument back. -/
theorem y_callSame {f : FuncId} {x a : Operand} {ats : Array TypeId} {p : PV} (ho : o.op = .call { callee := .value x, args := #[a], argTypes := ats }) (hx : evalO t x = some (.func f [])) (ha : evalO t a = some p) (hr : ∀ v w, (callFunc f #[v]).run P w = .ok (.value v) w) : Yield P σ t o p := by
  intro F base E ρ w hρ hS hT
  have h1 := evalO_rep hρ hT hx
  have h2 := evalO_rep hρ hT ha
  generalize hz : ρ x = z at h1
  cases h1 with
  | func _ cs _ hl hr' =>
    have hcs : cs = #[] := Array.eq_empty_of_size_eq_zero (by simpa using hl)
    subst hcs
    have h3 : (execOp ρ o).run P w = .ok (.value (ρ a)) w := by
      have := hr (ρ a) w
      simp [execOp, ho, resolve, hz, Deferred.ofValue, invoke, this]
    rw [h3]
    exact upon_val h2
end
end PW
end Go.Proofs.YtkaalpdfppbdeaaDoor
