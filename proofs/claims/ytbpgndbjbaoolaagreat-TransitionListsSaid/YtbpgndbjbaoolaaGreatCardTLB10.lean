/- Texts of the proof, part 10. -/
import Derived.Test.YtbpgndbjbaoolaaGreatCardTLB9
/- Valid segments and tables: graph.Segment, package table's leaving, proper, Valid; the reference's of layers 18 and 22. -/
namespace Go.Proofs.YtbpgndbjbaoolaaGreat
set_option linter.unusedVariables false
set_option linter.unusedSimpArgs false
namespace PW
open Go.RowKit Reg Mem Net

def segB (T : Topo) (s : Seg) : Bool := if s.kind = 1 then nodeB T s.num else if s.kind = 2 then arcB T s.num else if s.kind = 3 then withinB s.num 1 64 else if s.kind = 4 then withinB s.num 0 65535 else false
def leaveB (T : Topo) (n : Int) (L : List Int) : Bool := decide (∀ i, i < L.length → arcB T (L.getD i 0) = true ∧ tailN T (L.getD i 0).toNat = n ∧ (0 < i → L.getD (i - 1) 0 < L.getD i 0))
def entOK (T : Topo) (n d : Int) (e : Ent) : Bool := leaveB T n e.arcs && (!(decide (d = n) && decide (0 < (e.arcs.length : Int)))) && (if e.rep then decide ((e.arcs.length : Int) = 1) && decide ((e.push.length : Int) ≤ 32) && e.push.all (segB T) else decide ((e.push.length : Int) = 0))
def entD : Ent := ⟨[], false, []⟩
def entsOK (T : Topo) (n : Int) (l : List Ent) : Bool := decide (∀ d, d < l.length → entOK T n d (l.getD d entD) = true)
def tabOK (T : Topo) (x : Tab) : Bool := validB T && nodeB T x.node && decide ((x.ents.length : Int) = T.nodes) && leaveB T x.node x.down && entsOK T x.node x.ents
theorem arcB_iff {T : Topo} {a : Int} : arcB T a = true ↔ 0 ≤ a ∧ a < 2 * (T.links.length : Int) := by simp [arcB]
theorem tailI_can (T : Topo) (a : Int) (h : arcB T a = true) : Can Tryz.prog 87 [topoV T, num a] (· = num (tailN T a.toNat)) := by
  obtain ⟨h0, h1⟩ := arcB_iff.1 h
  obtain ⟨a, rfl⟩ := Int.eq_ofNat_of_zero_le h0
  exact tail_can T a (by omega)

set_option maxRecDepth 10000 in
set_option maxHeartbeats 1000000 in
theorem segm_can (T : Topo) (hl : T.links.length ≤ 4611686018427387903) (s : Seg) : Can Tryz.prog 160 [topoV T, segV s] (· = flag (segB T s)) := by
  unfold segB
  refine can_of Tryz.func160 rfl Tryz.ntmps160 rfl ?_
  refine W_cs (.a 3 rfl <| .k [2, 3] rfl) ?_
  refine W_seq ?_
  refine W_cs (.a 2 rfl <| .k [2, 3, 6] rfl) ?_
  refine W_block ?_
  refine W_cs (.a 2 rfl <| .k [2, 3, 6, 7] rfl) ?_
  refine W_cond rfl (fun hc => ?_) (fun hc => ?_)
  · rw [if_pos (tt hc)]
    refine W_cs (.a 3 rfl <| .c rfl (node_can T s.num) rfl <| .a 1 rfl <| .k [4] rfl) ?_
    refine W_ret ?_
    exact ⟨_, _, ResL.of rfl, Pur.pure, rfl⟩
  · rw [if_neg (ff hc)]
    refine W_cs (.a 2 rfl <| .k [2, 3, 6, 13] rfl) ?_
    refine W_cond rfl (fun hc => ?_) (fun hc => ?_)
    · rw [if_pos (tt hc)]
      refine W_cs (.a 3 rfl <| .c rfl (arc_can T hl s.num) rfl <| .a 1 rfl <| .k [4] rfl) ?_
      refine W_ret ?_
      exact ⟨_, _, ResL.of rfl, Pur.pure, rfl⟩
    · rw [if_neg (ff hc)]
      refine W_cs (.a 2 rfl <| .k [3, 6, 19] rfl) ?_
      refine W_cond rfl (fun hc => ?_) (fun hc => ?_)
      · rw [if_pos (tt hc)]
        obtain ⟨p1, hp1⟩ : ∃ q, decide (1 ≤ s.num) = q := ⟨_, rfl⟩
        obtain ⟨p2, hp2⟩ : ∃ q, decide (s.num ≤ 64) = q := ⟨_, rfl⟩
        have he : withinB s.num 1 64 = (p1 && p2) := by rw [← hp1, ← hp2]; unfold withinB; exact Bool.decide_and _ _
        rw [he]
        refine W_csK 4 (.raw (.bool (p1 && p2))) [] rfl ?_ ?_
        · refine .a 2 rfl <| .v (y_q rfl (hp1)) rfl <| .a 1 rfl <| ?_
          cases p1
          · exact .a 5 rfl <| .k [4] rfl
          · exact .a 2 rfl <| .v (y_q rfl (hp2)) rfl <| .a 2 rfl <| .k [4] rfl
        refine W_ret ?_
        exact ⟨_, _, ResL.of rfl, Pur.pure, rfl⟩
      · rw [if_neg (ff hc)]
        refine W_cs (.a 2 rfl <| .k [3, 29] rfl) ?_
        refine W_cond rfl (fun hc => ?_) (fun hc => ?_)
        · rw [if_pos (tt hc)]
          obtain ⟨p1, hp1⟩ : ∃ q, decide (0 ≤ s.num) = q := ⟨_, rfl⟩
          obtain ⟨p2, hp2⟩ : ∃ q, decide (s.num ≤ 65535) = q := ⟨_, rfl⟩
          have he : withinB s.num 0 65535 = (p1 && p2) := by rw [← hp1, ← hp2]; unfold withinB; exact Bool.decide_and _ _
          rw [he]
          refine W_csK 4 (.raw (.bool (p1 && p2))) [] rfl ?_ ?_
          · refine .a 2 rfl <| .v (y_q rfl (hp1)) rfl <| .a 1 rfl <| ?_
            cases p1
            · exact .a 5 rfl <| .k [4] rfl
            · exact .a 2 rfl <| .v (y_q rfl (hp2)) rfl <| .a 2 rfl <| .k [4] rfl
          refine W_ret ?_
          exact ⟨_, _, ResL.of rfl, Pur.pure, rfl⟩
        · rw [if_neg (ff hc)]
          refine W_skip ?_
          refine W_cs (.a 1 rfl <| .k [4] rfl) ?_
          refine W_ret ?_
          exact ⟨_, _, ResL.of rfl, Pur.pure, rfl⟩
theorem segB_neg {T : Topo} {s : Seg} (h : s.num < 0) : segB T s = false := by
  unfold segB
  have h1 : nodeB T s.num = false := by unfold nodeB; exact decide_eq_false (by omega)
  have h2 : arcB T s.num = false := by unfold arcB; exact decide_eq_false (by omega)
  have h3 : withinB s.num 1 64 = false := by unfold withinB; exact decide_eq_false (by omega)
  have h4 : withinB s.num 0 65535 = false := by unfold withinB; exact decide_eq_false (by omega)
  rw [h1, h2, h3, h4]
  simp
set_option maxRecDepth 10000 in
set_option maxHeartbeats 1000000 in
theorem rseg_can (T : Topo) (hv : validB T = true) (s : Seg) : Can Tryz.prog 60 [topoV T, segV s] (· = flag (segB T s)) := by
  have h := rvalid_can T
  rw [hv] at h
  obtain ⟨p0, hp0⟩ : ∃ q, decide (s.num < 0) = q := ⟨_, rfl⟩
  refine can_of Tryz.func60 rfl Tryz.ntmps60 rfl ?_
  refine W_cs (.a 3 rfl <| .k [2, 3] rfl) ?_
  refine W_seq ?_
  refine W_csK 12 (.raw (.bool (p0))) [2, 3] rfl ?_ ?_
  · exact .a 1 rfl <| .c rfl (h) rfl <| .a 4 rfl <| .v (y_q rfl (hp0)) rfl <| .a 1 rfl <| .k [12, 2, 3] rfl
  refine W_cond rfl (fun hc => ?_) (fun hc => ?_)
  · rw [hc] at hp0
    rw [segB_neg (tt hp0)]
    refine W_cs (.a 1 rfl <| .k [4] rfl) ?_
    refine W_ret ?_
    exact ⟨_, _, ResL.of rfl, Pur.pure, rfl⟩
  · rw [hc] at hp0
    have h0 : 0 ≤ s.num := by have := ff hp0; omega
    unfold segB
    refine W_skip ?_
    refine W_seq ?_
    refine W_cs (.a 2 rfl <| .k [2, 3, 14] rfl) ?_
    refine W_block ?_
    refine W_cs (.a 2 rfl <| .k [2, 3, 14, 15] rfl) ?_
    refine W_cond rfl (fun hc => ?_) (fun hc => ?_)
    · rw [if_pos (tt hc), show nodeB T s.num = decide (s.num < T.nodes) by unfold nodeB; exact decide_eq_decide.2 (by omega)]
      refine W_cs (.a 6 rfl <| .k [4] rfl) ?_
      refine W_ret ?_
      exact ⟨_, _, ResL.of rfl, Pur.pure, rfl⟩
    · rw [if_neg (ff hc)]
      refine W_cs (.a 2 rfl <| .k [2, 3, 14, 22] rfl) ?_
      refine W_cond rfl (fun hc => ?_) (fun hc => ?_)
      · rw [if_pos (tt hc), show arcB T s.num = decide (s.num < 2 * (T.links.length : Int)) by unfold arcB; exact decide_eq_decide.2 (by omega)]
        refine W_drs mixed (by kernel_rfl) (.a 3 rfl <| .v [26] (y_c rfl (rarcs_can T hv)) rfl rfl <| .a 2 rfl <| .k [4] rfl) ?_
        refine W_ret ?_
        exact ⟨_, _, ResL.of rfl, Pur.pure, rfl⟩
      · rw [if_neg (ff hc)]
        refine W_cs (.a 2 rfl <| .k [3, 14, 29] rfl) ?_
        refine W_cond rfl (fun hc => ?_) (fun hc => ?_)
        · rw [if_pos (tt hc)]
          obtain ⟨p1, hp1⟩ : ∃ q, decide (1 ≤ s.num) = q := ⟨_, rfl⟩
          obtain ⟨p2, hp2⟩ : ∃ q, decide (s.num ≤ 64) = q := ⟨_, rfl⟩
          have he : withinB s.num 1 64 = (p1 && p2) := by rw [← hp1, ← hp2]; unfold withinB; exact Bool.decide_and _ _
          rw [he]
          refine W_csK 4 (.raw (.bool (p1 && p2))) [] rfl ?_ ?_
          · refine .a 2 rfl <| .v (y_q rfl (hp1)) rfl <| .a 1 rfl <| ?_
            cases p1
            · exact .a 5 rfl <| .k [4] rfl
            · exact .a 2 rfl <| .v (y_q rfl (hp2)) rfl <| .a 2 rfl <| .k [4] rfl
          refine W_ret ?_
          exact ⟨_, _, ResL.of rfl, Pur.pure, rfl⟩
        · rw [if_neg (ff hc)]
          refine W_cs (.a 2 rfl <| .k [3, 39] rfl) ?_
          refine W_cond rfl (fun hc => ?_) (fun hc => ?_)
          · rw [if_pos (tt hc), show withinB s.num 0 65535 = decide (s.num ≤ 65535) by unfold withinB; exact decide_eq_decide.2 (by omega)]
            refine W_cs (.a 4 rfl <| .k [4] rfl) ?_
            refine W_ret ?_
            exact ⟨_, _, ResL.of rfl, Pur.pure, rfl⟩
          · rw [if_neg (ff hc)]
            refine W_skip ?_
            refine W_cs (.a 1 rfl <| .k [4] rfl) ?_
            refine W_ret ?_
            exact ⟨_, _, ResL.of rfl, Pur.pure, rfl⟩
/-- One step of the check of a list of arcs. -/
def stepB (T : Topo) (n : Int) (L : List Int) (i : Nat) : Bool := decide (arcB T (L.getD i 0) = true ∧ tailN T (L.getD i 0).toNat = n ∧ (0 < i → L.getD (i - 1) 0 < L.getD i 0))
theorem leave_all {T : Topo} {n : Int} {L : List Int} (h : ∀ i, i < L.length → stepB T n L i = true) : leaveB T n L = true := decide_eq_true fun i hi => tt (h i hi)
theorem leave_fail {T : Topo} {n : Int} {L : List Int} {i : Nat} (hi : i < L.length) (h : stepB T n L i = false) : leaveB T n L = false := decide_eq_false fun ha => ff h (ha i hi)
set_option maxRecDepth 10000 in
set_option maxHeartbeats 1000000 in
theorem tleaving_can (T : Topo) (hv : validB T = true) (n : Int) (L : List Int) : Can Tryz.prog 135 [topoV T, num n, intsV L] (· = flag (leaveB T n L)) := by
  have hll := links_le hv
  refine can_rep fun ⟨E, w, vs, hR⟩ => ?_
  obtain ⟨v, _, hv⟩ := hR.get (i := 2) rfl
  have hm := rep_len hv
  unfold maxLen at hm
  refine can_of Tryz.func135 rfl Tryz.ntmps135 rfl ?_
  refine W_cs (.a 2 rfl <| .k [1, 2, 3] rfl) ?_
  refine W_seq ?_
  refine W_cs (.a 3 rfl <| .k [1, 2, 3, 9, 10, 11] rfl) ?_
  refine W_block ?_
  refine W_k [1, 2, 3, 9, 10, 11] rfl ?_
  refine W_loop (fun r s => ∃ k, k ≤ L.length ∧ r = L.length - k ∧ (∀ i, i < k → stepB T n L i = true) ∧ s = ⟨[(1, num n), (2, intsV L), (3, .pin (topoP T) 0), (9, intsV L), (10, num L.length), (11, num k)], []⟩) L.length ⟨0, by omega, by omega, fun i hi => by omega, rfl⟩ ?_
  rintro r s ⟨k, hk, rfl, hall, rfl⟩
  refine W_cs (.a 1 rfl <| .k [1, 2, 3, 9, 10, 11, 12] rfl) ?_
  refine W_seq ?_
  refine W_cond rfl (fun hc => ?_) (fun hc => ?_)
  · have hlt : k < L.length := by have := tt hc; omega
    obtain ⟨p1, hp1⟩ : ∃ q, arcB T (L.getD k 0) = q := ⟨_, rfl⟩
    obtain ⟨p2, hp2⟩ : ∃ q, decide (tailN T (L.getD k 0).toNat ≠ n) = q := ⟨_, rfl⟩
    obtain ⟨p3, hp3⟩ : ∃ q, decide (0 < (k : Int)) = q := ⟨_, rfl⟩
    obtain ⟨p4, hp4⟩ : ∃ q, decide (L.getD k 0 ≤ L.getD (k - 1) 0) = q := ⟨_, rfl⟩
    refine W_skip ?_
    refine W_seq ?_
    refine W_block ?_
    refine W_cs (.a 1 rfl <| .v (y_ix (k) rfl) rfl <| .v (y_ld rfl (ints_get L k hlt)) rfl <| .a 2 rfl <| .k [1, 2, 3, 7, 8, 9, 10, 11] rfl) ?_
    refine W_csK 39 (.raw (.bool (((!p1) || p2) || (p3 && p4)))) [1, 2, 3, 9, 10, 11] rfl ?_ ?_
    · refine .a 2 rfl <| .c rfl (hp1 ▸ arc_can T (by omega) (L.getD k 0)) rfl <| .a 2 rfl <| ?_
      cases p1
      · exact .a 19 rfl <| .k [39, 1, 2, 3, 9, 10, 11] rfl
      · refine .a 2 rfl <| .c rfl (tailI_can T _ hp1) rfl <| .a 1 rfl <| .v (y_q rfl (hp2)) rfl <| .a 2 rfl <| ?_
        cases p2
        · refine .a 1 rfl <| .v (y_q rfl (hp3)) rfl <| .a 1 rfl <| ?_
          cases p3
          · exact .a 9 rfl <| .k [39, 1, 2, 3, 9, 10, 11] rfl
          · exact .a 2 rfl <| .v (y_ar rfl) rfl <| .v (y_ix (k - 1) rfl (by have := tt hp3; omega) (by omega)) rfl <| .v (y_ld rfl (ints_get L (k - 1) (by omega))) rfl <| .a 1 rfl <| .v (y_q rfl (hp4)) rfl <| .a 2 rfl <| .k [39, 1, 2, 3, 9, 10, 11] rfl
        · exact .a 12 rfl <| .k [39, 1, 2, 3, 9, 10, 11] rfl
    refine W_cond rfl (fun hx => ?_) (fun hx => ?_)
    · have hno : stepB T n L k = false := by
        refine decide_eq_false fun ⟨h1, h2, h3⟩ => ?_
        rw [h1] at hp1
        rw [decide_eq_false (by simpa using h2)] at hp2
        subst hp1 hp2
        simp only [Bool.not_true, Bool.false_or, Bool.and_eq_true] at hx
        rw [hx.1] at hp3
        rw [hx.2] at hp4
        have := h3 (by have := tt hp3; omega)
        have := tt hp4
        omega
      rw [leave_fail hlt hno]
      refine W_cs (.a 1 rfl <| .k [6] rfl) ?_
      refine W_ret ?_
      exact ⟨_, _, ResL.of rfl, Pur.pure, rfl⟩
    · have hyes : stepB T n L k = true := by
        obtain ⟨c1, c3⟩ := Bool.or_eq_false_iff.1 hx
        obtain ⟨c1, c2⟩ := Bool.or_eq_false_iff.1 c1
        refine decide_eq_true ⟨?_, ?_, fun h0 => ?_⟩
        · rw [hp1]; simpa using c1
        · rw [c2] at hp2; exact Classical.byContradiction (ff hp2)
        · rw [decide_eq_true (by omega)] at hp3
          subst hp3
          rw [Bool.true_and] at c3
          rw [c3] at hp4
          have := ff hp4
          omega
      refine W_skip ?_
      refine W_chain (.v (y_ar rfl) rfl <| .a 1 rfl <| .k [1, 2, 3, 9, 10, 11] rfl) ?_
      refine ⟨L.length - (k + 1), by omega, k + 1, by omega, rfl, fun i hi => ?_, rfl⟩
      by_cases h : i = k
      · rw [h]; exact hyes
      · exact hall i (by omega)
  · have hke : k = L.length := by have := ff hc; omega
    subst hke
    rw [leave_all hall]
    refine W_exit ?_
    refine W_cs (.a 1 rfl <| .k [6] rfl) ?_
    refine W_ret ?_
    exact ⟨_, _, ResL.of rfl, Pur.pure, rfl⟩
theorem rtail_step {T : Topo} (a n : Int) (hn : 0 ≤ n) : (rtail T a = n) ↔ (arcB T a = true ∧ tailN T a.toNat = n) := by
  unfold rtail
  rw [arcB_iff]
  split
  · rename_i h; exact ⟨fun e => ⟨h, e⟩, fun e => e.2⟩
  · rename_i h; exact ⟨fun e => by omega, fun e => absurd e.1 h⟩
set_option maxRecDepth 10000 in
set_option maxHeartbeats 1000000 in
theorem outgoing_can (T : Topo) (hv : validB T = true) (n : Int) (hn : 0 ≤ n) (L : List Int) : Can Tryz.prog 59 [topoV T, num n, intsV L] (· = flag (leaveB T n L)) := by
  have hll := links_le hv
  refine can_rep fun ⟨E, w, vs, hR⟩ => ?_
  obtain ⟨v, _, hvv⟩ := hR.get (i := 2) rfl
  have hm := rep_len hvv
  unfold maxLen at hm
  refine can_of Tryz.func59 rfl Tryz.ntmps59 rfl ?_
  refine W_cs (.a 2 rfl <| .k [1, 2, 3] rfl) ?_
  refine W_seq ?_
  refine W_cs (.a 1 rfl <| .k [1, 2, 3, 7] rfl) ?_
  refine W_block ?_
  refine W_k [1, 2, 3, 7] rfl ?_
  refine W_loop (fun r s => ∃ k, k ≤ L.length ∧ r = L.length - k ∧ (∀ i, i < k → stepB T n L i = true) ∧ s = ⟨[(1, num n), (2, intsV L), (3, .pin (topoP T) 0), (7, num k)], []⟩) L.length ⟨0, by omega, by omega, fun i hi => by omega, rfl⟩ ?_
  rintro r s ⟨k, hk, rfl, hall, rfl⟩
  refine W_seq ?_
  refine W_cs (.a 4 rfl <| .k [1, 2, 3, 7, 11] rfl) ?_
  refine W_cond rfl (fun hc => ?_) (fun hc => ?_)
  · have hlt : k < L.length := by have := tt hc; omega
    obtain ⟨p1, hp1⟩ : ∃ q, decide (rtail T (L.getD k 0) ≠ n) = q := ⟨_, rfl⟩
    obtain ⟨p3, hp3⟩ : ∃ q, decide (0 < (k : Int)) = q := ⟨_, rfl⟩
    obtain ⟨p4, hp4⟩ : ∃ q, decide (L.getD k 0 ≤ L.getD (k - 1) 0) = q := ⟨_, rfl⟩
    refine W_skip ?_
    refine W_seq ?_
    refine W_block ?_
    refine W_drsK mixed (by kernel_rfl) 37 (.raw (.bool (p1 || (p3 && p4)))) [1, 2, 3, 7] rfl ?_ ?_
    · refine .a 3 rfl <| .v [15, 16] (y_ix (k) rfl) rfl rfl <| .v [17] (y_ld rfl (ints_get L k hlt)) rfl rfl <| .v [14, 18] (y_c rfl (rtail_can T hv (L.getD k 0))) rfl rfl <| .a 1 rfl <| .v [19, 20] (y_q rfl (hp1)) rfl rfl <| .a 1 rfl <| ?_
      cases p1
      · refine .a 1 rfl <| .v [23] (y_q rfl (hp3)) rfl rfl <| .a 1 rfl <| ?_
        cases p3
        · exact .a 12 rfl <| .k [37, 1, 2, 3, 7] rfl
        · exact .a 2 rfl <| .v [26, 27] (y_ix (k) rfl) rfl rfl <| .v [28] (y_ld rfl (ints_get L k hlt)) rfl rfl <| .a 2 rfl <| .v [31] (y_ar rfl) rfl rfl <| .v [30, 32] (y_ix (k - 1) rfl (by have := tt hp3; omega) (by omega)) rfl rfl <| .v [33] (y_ld rfl (ints_get L (k - 1) (by omega))) rfl rfl <| .v [29, 34] (y_q rfl (hp4)) rfl rfl <| .a 2 rfl <| .k [37, 1, 2, 3, 7] rfl
      · exact .a 15 rfl <| .k [37, 1, 2, 3, 7] rfl
    refine W_cond rfl (fun hx => ?_) (fun hx => ?_)
    · have hno : stepB T n L k = false := by
        refine decide_eq_false fun ⟨h1, h2, h3⟩ => ?_
        rw [decide_eq_false (by have := (rtail_step _ n hn).2 ⟨h1, h2⟩; simpa using this)] at hp1
        subst hp1
        simp only [Bool.false_or, Bool.and_eq_true] at hx
        rw [hx.1] at hp3
        rw [hx.2] at hp4
        have := h3 (by have := tt hp3; omega)
        have := tt hp4
        omega
      rw [leave_fail hlt hno]
      refine W_cs (.a 1 rfl <| .k [6] rfl) ?_
      refine W_ret ?_
      exact ⟨_, _, ResL.of rfl, Pur.pure, rfl⟩
    · have hyes : stepB T n L k = true := by
        obtain ⟨c1, c3⟩ := Bool.or_eq_false_iff.1 hx
        rw [c1] at hp1
        obtain ⟨h1, h2⟩ := (rtail_step _ n hn).1 (Classical.byContradiction (ff hp1))
        refine decide_eq_true ⟨h1, h2, fun h0 => ?_⟩
        rw [decide_eq_true (by omega)] at hp3
        subst hp3
        rw [Bool.true_and] at c3
        rw [c3] at hp4
        have := ff hp4
        omega
      refine W_skip ?_
      refine W_chain (.a 1 rfl <| .v (y_ar rfl) rfl <| .a 1 rfl <| .k [1, 2, 3, 7] rfl) ?_
      refine ⟨L.length - (k + 1), by omega, k + 1, by omega, rfl, fun i hi => ?_, rfl⟩
      by_cases h : i = k
      · rw [h]; exact hyes
      · exact hall i (by omega)
  · have hke : k = L.length := by have := ff hc; omega
    subst hke
    rw [leave_all hall]
    refine W_exit ?_
    refine W_cs (.a 1 rfl <| .k [6] rfl) ?_
    refine W_ret ?_
    exact ⟨_, _, ResL.of rfl, Pur.pure, rfl⟩
theorem allT {α : Type} (p : α → Bool) (L : List α) (k : Nat) (a : α) (h : L[k]? = some a) : (L.take (k + 1)).all p = ((L.take k).all p && p a) := by
  rw [List.take_add_one, h, List.all_append]; simp
theorem allF {α : Type} (p : α → Bool) (L : List α) (k : Nat) (a : α) (h : L[k]? = some a) (hp : p a = false) : L.all p = false := by
  rw [Bool.eq_false_iff]
  intro ha
  have := List.all_eq_true.1 ha a (List.mem_of_getElem? h)
  rw [hp] at this
  cases this
set_option maxRecDepth 10000 in
set_option maxHeartbeats 1000000 in
theorem proper_can (T : Topo) (hv : validB T = true) (e : Ent) (n d : Int) : Can Tryz.prog 136 [topoV T, entV e, num n, num d] (· = flag (entOK T n d e)) := by
  have hll := links_le hv
  obtain ⟨p1, hp1⟩ : ∃ q, leaveB T n e.arcs = q := ⟨_, rfl⟩
  obtain ⟨p2, hp2⟩ : ∃ q, decide (d = n) = q := ⟨_, rfl⟩
  obtain ⟨p3, hp3⟩ : ∃ q, decide (0 < (e.arcs.length : Int)) = q := ⟨_, rfl⟩
  unfold entOK
  rw [hp1, hp2, hp3]
  refine can_of Tryz.func136 rfl Tryz.ntmps136 rfl ?_
  refine W_cs (.a 3 rfl <| .k [2, 3, 4, 5] rfl) ?_
  refine W_seq ?_
  refine W_csK 27 (.raw (.bool ((!p1) || (p2 && p3)))) [4, 5] rfl ?_ ?_
  · refine .a 4 rfl <| .c rfl (hp1 ▸ tleaving_can T hv n e.arcs) rfl <| .a 2 rfl <| ?_
    cases p1
    · exact .a 10 rfl <| .k [27, 4, 5] rfl
    · refine .a 2 rfl <| .v (y_q rfl (hp2)) rfl <| .a 1 rfl <| ?_
      cases p2
      · exact .a 6 rfl <| .k [27, 4, 5] rfl
      · exact .a 3 rfl <| .v (y_q rfl (hp3)) rfl <| .a 2 rfl <| .k [27, 4, 5] rfl
  refine W_cond rfl (fun hc => ?_) (fun hc => ?_)
  · have he : (p1 && !(p2 && p3)) = false := by cases p1 <;> cases p2 <;> cases p3 <;> first | rfl | cases hc
    rw [he, Bool.false_and]
    refine W_cs (.a 1 rfl <| .k [8] rfl) ?_
    refine W_ret ?_
    exact ⟨_, _, ResL.of rfl, Pur.pure, rfl⟩
  · have he : (p1 && !(p2 && p3)) = true := by cases p1 <;> cases p2 <;> cases p3 <;> first | rfl | cases hc
    rw [he, Bool.true_and]
    refine W_skip ?_
    refine W_seq ?_
    refine W_cs (.a 3 rfl <| .k [4, 5, 30] rfl) ?_
    refine W_cond rfl (fun hc => ?_) (fun hc => ?_)
    · have hr : e.rep = false := by simpa using hc
      rw [hr, if_neg (by simp)]
      refine W_cs (.a 5 rfl <| .k [8] rfl) ?_
      refine W_ret ?_
      exact ⟨_, _, ResL.of rfl, Pur.pure, rfl⟩
    · have hr : e.rep = true := by simpa using hc
      rw [hr, if_pos rfl]
      refine W_skip ?_
      refine W_seq ?_
      obtain ⟨p4, hp4⟩ : ∃ q, decide ((e.arcs.length : Int) ≠ 1) = q := ⟨_, rfl⟩
      obtain ⟨p5, hp5⟩ : ∃ q, decide (32 < (e.push.length : Int)) = q := ⟨_, rfl⟩
      refine W_csK 44 (.raw (.bool (p4 || p5))) [4, 5] rfl ?_ ?_
      · refine .a 3 rfl <| .v (y_q rfl (hp4)) rfl <| .a 1 rfl <| ?_
        cases p4
        · exact .a 3 rfl <| .v (y_q rfl (hp5)) rfl <| .a 1 rfl <| .k [44, 4, 5] rfl
        · exact .a 5 rfl <| .k [44, 4, 5] rfl
      refine W_cond rfl (fun hx => ?_) (fun hx => ?_)
      · have hf : (decide ((e.arcs.length : Int) = 1) && decide ((e.push.length : Int) ≤ 32)) = false := by
          rcases Bool.or_eq_true_iff.1 hx with h | h
          · rw [h] at hp4; rw [decide_eq_false (tt hp4)]; rfl
          · rw [h] at hp5; rw [decide_eq_false (by have := tt hp5; omega : ¬ ((e.push.length : Int) ≤ 32)), Bool.and_false]
        rw [hf, Bool.false_and]
        refine W_cs (.a 1 rfl <| .k [8] rfl) ?_
        refine W_ret ?_
        exact ⟨_, _, ResL.of rfl, Pur.pure, rfl⟩
      · obtain ⟨c1, c2⟩ := Bool.or_eq_false_iff.1 hx
        rw [c1] at hp4
        rw [c2] at hp5
        have hlen : e.push.length ≤ 32 := by have := ff hp5; omega
        rw [decide_eq_true (Classical.byContradiction (ff hp4)), decide_eq_true (by omega : (e.push.length : Int) ≤ 32), Bool.true_and, Bool.true_and]
        refine W_skip ?_
        refine W_seq ?_
        refine W_cs (.a 4 rfl <| .k [4, 46, 47, 48] rfl) ?_
        refine W_block ?_
        refine W_k [4, 46, 47, 48] rfl ?_
        refine W_loop (fun r s => ∃ k, k ≤ e.push.length ∧ r = e.push.length - k ∧ (e.push.take k).all (segB T) = true ∧ s = ⟨[(4, .pin (topoP T) 0), (46, segsV e.push), (47, num e.push.length), (48, num k)], []⟩) e.push.length ⟨0, by omega, by omega, by simp, rfl⟩ ?_
        rintro r s ⟨k, hk, rfl, hall, rfl⟩
        refine W_cs (.a 1 rfl <| .k [4, 46, 47, 48, 49] rfl) ?_
        refine W_seq ?_
        refine W_cond rfl (fun hy => ?_) (fun hy => ?_)
        · have hlt : k < e.push.length := by have := tt hy; omega
          obtain ⟨a, ha⟩ : ∃ a, e.push[k]? = some a := ⟨e.push[k], by simp [hlt]⟩
          refine W_skip ?_
          refine W_seq ?_
          refine W_block ?_
          refine W_rs ?_
          refine WR_v (y_ix (k * 2) rfl) rfl <| WR_v (y_la rfl (segs_drop e.push k a ha) rfl) rfl <| WR_a 2 rfl <| WR_k [4, 10, 46, 47, 48] rfl ?_
          refine W_cs (.a 2 rfl <| .c rfl (segm_can T (by omega) a) rfl <| .a 1 rfl <| .k [4, 46, 47, 48, 55] rfl) ?_
          refine W_ren [] (.c 4 <| .c 46 <| .c 47 <| .c 48 <| .c 55 .nil) .nil rfl rfl ?_
          refine W_cond rfl (fun hz => ?_) (fun hz => ?_)
          · rw [allF _ _ k a ha (by simpa using hz)]
            refine W_cs (.a 1 rfl <| .k [8] rfl) ?_
            refine W_ret ?_
            exact ⟨_, _, ResL.of rfl, Pur.pure, rfl⟩
          · have hz' : segB T a = true := by simpa using hz
            refine W_skip ?_
            refine W_chain (.v (y_ar rfl) rfl <| .a 1 rfl <| .k [4, 46, 47, 48] rfl) ?_
            exact ⟨e.push.length - (k + 1), by omega, k + 1, by omega, rfl, by rw [allT _ _ k a ha, hall, hz']; rfl, rfl⟩
        · have hke : k = e.push.length := by have := ff hy; omega
          subst hke
          rw [List.take_length] at hall
          rw [hall]
          refine W_exit ?_
          refine W_cs (.a 1 rfl <| .k [8] rfl) ?_
          refine W_ret ?_
          exact ⟨_, _, ResL.of rfl, Pur.pure, rfl⟩
theorem ents_getD (l : List Ent) (k : Nat) (e : Ent) (h : l[k]? = some e) : l.getD k entD = e := by rw [List.getD_eq_getElem?_getD, h]; rfl
theorem entsOK_fail {T : Topo} {n : Int} {l : List Ent} {k : Nat} {e : Ent} (h : l[k]? = some e) (hf : entOK T n k e = false) : entsOK T n l = false := decide_eq_false fun ha => by
  have := ha k (List.getElem?_eq_some_iff.1 h).1
  rw [ents_getD l k e h, hf] at this
  cases this
theorem entsOK_all {T : Topo} {n : Int} {l : List Ent} (h : ∀ (k : Nat) e, l[k]? = some e → entOK T n k e = true) : entsOK T n l = true := decide_eq_true fun d hd => by
  have he : l[d]? = some l[d] := by simp [hd]
  rw [ents_getD l d _ he]
  exact h d _ he
set_option maxRecDepth 10000 in
set_option maxHeartbeats 1000000 in
theorem tvalid_can (T : Topo) (x : Tab) : Can Tryz.prog 91 [topoV T, tabV x] (· = flag (tabOK T x)) := by
  refine can_rep fun ⟨E, w, vs, hR⟩ => ?_
  obtain ⟨v, _, hvv⟩ := hR.get (i := 1) rfl
  have hm := (rep_tab hvv).1
  unfold maxLen at hm
  obtain ⟨p1, hp1⟩ : ∃ q, validB T = q := ⟨_, rfl⟩
  obtain ⟨p2, hp2⟩ : ∃ q, nodeB T x.node = q := ⟨_, rfl⟩
  obtain ⟨p3, hp3⟩ : ∃ q, decide ((x.ents.length : Int) ≠ T.nodes) = q := ⟨_, rfl⟩
  obtain ⟨p4, hp4⟩ : ∃ q, leaveB T x.node x.down = q := ⟨_, rfl⟩
  have he : decide ((x.ents.length : Int) = T.nodes) = !p3 := by rw [← hp3]; simp
  unfold tabOK
  rw [hp1, hp2, he, hp4]
  refine can_of Tryz.func91 rfl Tryz.ntmps91 rfl ?_
  refine W_cs (.a 3 rfl <| .k [2, 3] rfl) ?_
  refine W_seq ?_
  refine W_csK 33 (.raw (.bool ((((!p1) || !p2) || p3) || !p4))) [2, 3] rfl ?_ ?_
  · refine .a 1 rfl <| .c rfl (hp1 ▸ valid_can T) rfl <| .a 2 rfl <| ?_
    cases p1
    · exact .a 23 rfl <| .k [33, 2, 3] rfl
    · refine .a 3 rfl <| .c rfl (hp2 ▸ node_can T x.node) rfl <| .a 3 rfl <| ?_
      cases p2
      · exact .a 16 rfl <| .k [33, 2, 3] rfl
      · refine .a 5 rfl <| .v (y_q rfl (hp3)) rfl <| .a 2 rfl <| ?_
        cases p3
        · exact .a 5 rfl <| .c rfl (hp4 ▸ tleaving_can T hp1 x.node x.down) rfl <| .a 2 rfl <| .k [33, 2, 3] rfl
        · exact .a 8 rfl <| .k [33, 2, 3] rfl
  refine W_cond rfl (fun hc => ?_) (fun hc => ?_)
  · have hf : (p1 && p2 && !p3 && p4) = false := by cases p1 <;> cases p2 <;> cases p3 <;> cases p4 <;> first | rfl | cases hc
    rw [hf, Bool.false_and]
    refine W_cs (.a 1 rfl <| .k [4] rfl) ?_
    refine W_ret ?_
    exact ⟨_, _, ResL.of rfl, Pur.pure, rfl⟩
  · have hf : (p1 && p2 && !p3 && p4) = true := by cases p1 <;> cases p2 <;> cases p3 <;> cases p4 <;> first | rfl | cases hc
    rw [hf, Bool.true_and]
    have e1 : p1 = true := by cases p1 <;> simp_all
    rw [e1] at hp1
    refine W_skip ?_
    refine W_seq ?_
    refine W_cs (.a 4 rfl <| .k [2, 3, 35, 36, 37] rfl) ?_
    refine W_block ?_
    refine W_k [2, 3, 35, 36, 37] rfl ?_
    refine W_loop (fun r s => ∃ k, k ≤ x.ents.length ∧ r = x.ents.length - k ∧ (∀ (i : Nat) e, i < k → x.ents[i]? = some e → entOK T x.node i e = true) ∧ s = ⟨[(2, .pin (topoP T) 0), (3, .pin (tabP x) 0), (35, entsV x.ents), (36, num x.ents.length), (37, num k)], []⟩) x.ents.length ⟨0, by omega, by omega, fun i e hi => by omega, rfl⟩ ?_
    rintro r s ⟨k, hk, rfl, hall, rfl⟩
    refine W_cs (.a 1 rfl <| .k [2, 3, 35, 36, 37, 38] rfl) ?_
    refine W_seq ?_
    refine W_cond rfl (fun hy => ?_) (fun hy => ?_)
    · have hlt : k < x.ents.length := by have := tt hy; omega
      obtain ⟨e, hek⟩ : ∃ a, x.ents[k]? = some a := ⟨x.ents[k], by simp [hlt]⟩
      refine W_skip ?_
      refine W_seq ?_
      refine W_block ?_
      refine W_rs ?_
      refine WR_a 1 rfl <| WR_v (y_ix (k * 3) rfl) rfl <| WR_v (y_la rfl (ents_drop x.ents k e hek) rfl) rfl <| WR_a 3 rfl <| WR_k [2, 3, 5, 6, 35, 36, 37] rfl ?_
      refine W_cs (.a 5 rfl <| .c rfl (proper_can T hp1 e x.node k) rfl <| .a 1 rfl <| .k [2, 3, 35, 36, 37, 48] rfl) ?_
      refine W_ren [] (.c 2 <| .c 3 <| .c 35 <| .c 36 <| .c 37 <| .c 48 .nil) .nil rfl rfl ?_
      refine W_cond rfl (fun hz => ?_) (fun hz => ?_)
      · rw [entsOK_fail hek (by simpa using hz)]
        refine W_cs (.a 1 rfl <| .k [4] rfl) ?_
        refine W_ret ?_
        exact ⟨_, _, ResL.of rfl, Pur.pure, rfl⟩
      · have hz' : entOK T x.node k e = true := by simpa using hz
        refine W_skip ?_
        refine W_chain (.v (y_ar rfl) rfl <| .a 1 rfl <| .k [2, 3, 35, 36, 37] rfl) ?_
        refine ⟨x.ents.length - (k + 1), by omega, k + 1, by omega, rfl, fun i e' hi he' => ?_, rfl⟩
        by_cases h : i = k
        · subst h; rw [hek] at he'; cases he'; exact hz'
        · exact hall i e' (by omega) he'
    · have hke : k = x.ents.length := by have := ff hy; omega
      rw [entsOK_all fun i e hi => hall i e (by have := (List.getElem?_eq_some_iff.1 hi).1; omega) hi]
      refine W_exit ?_
      refine W_cs (.a 1 rfl <| .k [4] rfl) ?_
      refine W_ret ?_
      exact ⟨_, _, ResL.of rfl, Pur.pure, rfl⟩
set_option maxRecDepth 10000 in
set_option maxHeartbeats 2000000 in
theorem rtvalid_can (T : Topo) (x : Tab) : Can Tryz.prog 24 [topoV T, tabV x] (· = flag (tabOK T x)) := by
  refine can_rep fun ⟨E, w, vs, hR⟩ => ?_
  obtain ⟨v, _, hvv⟩ := hR.get (i := 1) rfl
  have hm := (rep_tab hvv).1
  unfold maxLen at hm
  obtain ⟨p1, hp1⟩ : ∃ q, validB T = q := ⟨_, rfl⟩
  obtain ⟨p2, hp2⟩ : ∃ q, decide (x.node < 0) = q := ⟨_, rfl⟩
  obtain ⟨p5, hp5⟩ : ∃ q, decide (T.nodes ≤ x.node) = q := ⟨_, rfl⟩
  obtain ⟨p3, hp3⟩ : ∃ q, decide ((x.ents.length : Int) ≠ T.nodes) = q := ⟨_, rfl⟩
  obtain ⟨p4, hp4⟩ : ∃ q, leaveB T x.node x.down = q := ⟨_, rfl⟩
  have he : decide ((x.ents.length : Int) = T.nodes) = !p3 := by rw [← hp3]; simp
  have hn : nodeB T x.node = ((!p2) && !p5) := by rw [← hp2, ← hp5, ← decide_not, ← decide_not, ← Bool.decide_and]; unfold nodeB; exact decide_eq_decide.2 (by omega)
  unfold tabOK
  rw [hp1, hn, he, hp4]
  refine can_of Tryz.func24 rfl Tryz.ntmps24 rfl ?_
  refine W_cs (.a 3 rfl <| .k [2, 3] rfl) ?_
  refine W_seq ?_
  refine W_csK 39 (.raw (.bool (((((!p1) || p2) || p5) || p3) || !p4))) [2, 3] rfl ?_ ?_
  · refine .a 1 rfl <| .c rfl (hp1 ▸ rvalid_can T) rfl <| .a 2 rfl <| ?_
    cases p1
    · exact .a 28 rfl <| .k [39, 2, 3] rfl
    · refine .a 2 rfl <| .v (y_q rfl (hp2)) rfl <| .a 2 rfl <| ?_
      cases p2
      · refine .a 4 rfl <| .v (y_q rfl (hp5)) rfl <| .a 2 rfl <| ?_
        cases p5
        · refine .a 5 rfl <| .v (y_q rfl (hp3)) rfl <| .a 2 rfl <| ?_
          cases p3
          · exact .a 5 rfl <| .c rfl (hp4 ▸ outgoing_can T hp1 x.node (by have := ff hp2; omega) x.down) rfl <| .a 2 rfl <| .k [39, 2, 3] rfl
          · exact .a 8 rfl <| .k [39, 2, 3] rfl
        · exact .a 16 rfl <| .k [39, 2, 3] rfl
      · exact .a 23 rfl <| .k [39, 2, 3] rfl
  refine W_cond rfl (fun hc => ?_) (fun hc => ?_)
  · have hf : (p1 && ((!p2) && !p5) && !p3 && p4) = false := by cases p1 <;> cases p2 <;> cases p5 <;> cases p3 <;> cases p4 <;> first | rfl | cases hc
    rw [hf, Bool.false_and]
    refine W_cs (.a 1 rfl <| .k [4] rfl) ?_
    refine W_ret ?_
    exact ⟨_, _, ResL.of rfl, Pur.pure, rfl⟩
  · have hf : (p1 && ((!p2) && !p5) && !p3 && p4) = true := by cases p1 <;> cases p2 <;> cases p5 <;> cases p3 <;> cases p4 <;> first | rfl | cases hc
    rw [hf, Bool.true_and]
    have e1 : p1 = true := by cases p1 <;> simp_all
    have e2 : p2 = false := by cases p2 <;> simp_all
    rw [e1] at hp1
    rw [e2] at hp2
    have hn0 : 0 ≤ x.node := by have := ff hp2; omega
    refine W_skip ?_
    refine W_seq ?_
    refine W_cs (.a 1 rfl <| .k [2, 3, 5] rfl) ?_
    refine W_block ?_
    refine W_k [2, 3, 5] rfl ?_
    refine W_loop (fun r s => ∃ k, k ≤ x.ents.length ∧ r = x.ents.length - k ∧ (∀ (i : Nat) e, i < k → x.ents[i]? = some e → entOK T x.node i e = true) ∧ s = ⟨[(2, .pin (topoP T) 0), (3, .pin (tabP x) 0), (5, num k)], []⟩) x.ents.length ⟨0, by omega, by omega, fun i e hi => by omega, rfl⟩ ?_
    rintro r s ⟨k, hk, rfl, hall, rfl⟩
    refine W_seq ?_
    refine W_cs (.a 5 rfl <| .k [2, 3, 5, 44] rfl) ?_
    refine W_cond rfl (fun hy => ?_) (fun hy => ?_)
    · have hlt : k < x.ents.length := by have := tt hy; omega
      obtain ⟨e, hek⟩ : ∃ a, x.ents[k]? = some a := ⟨x.ents[k], by simp [hlt]⟩
      obtain ⟨q1, g1⟩ : ∃ q, leaveB T x.node e.arcs = q := ⟨_, rfl⟩
      obtain ⟨q2, g2⟩ : ∃ q, decide ((k : Int) = x.node) = q := ⟨_, rfl⟩
      obtain ⟨q3, g3⟩ : ∃ q, decide (0 < (e.arcs.length : Int)) = q := ⟨_, rfl⟩
      obtain ⟨q4, g4⟩ : ∃ q, e.rep = q := ⟨_, rfl⟩
      obtain ⟨q5, g5⟩ : ∃ q, decide (0 < (e.push.length : Int)) = q := ⟨_, rfl⟩
      obtain ⟨q6, g6⟩ : ∃ q, decide ((e.arcs.length : Int) ≠ 1) = q := ⟨_, rfl⟩
      obtain ⟨q7, g7⟩ : ∃ q, decide (32 < (e.push.length : Int)) = q := ⟨_, rfl⟩
      have hOK : entOK T x.node k e = ((q1 && !(q2 && q3)) && (if q4 then (!q6 && !q7) && e.push.all (segB T) else !q5)) := by
        unfold entOK
        rw [g1, g2, g3, g4, ← g5, ← g6, ← g7, ← decide_not, ← decide_not, ← decide_not]
        congr 2
        · congr 2
          · exact decide_eq_decide.2 (by omega)
          · exact decide_eq_decide.2 (by omega)
        · exact decide_eq_decide.2 (by omega)
      refine W_skip ?_
      refine W_seq ?_
      refine W_block ?_
      refine W_rs ?_
      refine WR_a 3 rfl <| WR_v (y_ix (k * 3) rfl) rfl <| WR_v (y_la rfl (ents_drop x.ents k e hek) rfl) rfl <| WR_a 2 rfl <| WR_k [2, 3, 5, 6] rfl ?_
      refine W_sealPtr 6 0 0 rfl rfl ?_
      refine W_ren [] (.c 2 <| .c 3 <| .c 5 <| .c 6 .nil) .nil rfl rfl ?_
      refine W_seq ?_
      refine W_csK 81 (.raw (.bool (((!q1) || (q2 && q3)) || ((!q4) && q5)))) [2, 3, 5, 6] rfl ?_ ?_
      · refine .a 5 rfl <| .c rfl (g1 ▸ outgoing_can T hp1 x.node hn0 e.arcs) rfl <| .a 2 rfl <| ?_
        cases q1
        · exact .a 22 rfl <| .k [81, 2, 3, 5, 6] rfl
        · refine .a 3 rfl <| .v (y_q rfl (g2)) rfl <| .a 1 rfl <| ?_
          cases q2
          · refine .a 8 rfl <| .v (y_ld rfl (show some (flag e.rep) = some (flag q4) by rw [g4])) rfl <| .a 2 rfl <| ?_
            cases q4
            · exact .a 3 rfl <| .v (y_q rfl (g5)) rfl <| .a 2 rfl <| .k [81, 2, 3, 5, 6] rfl
            · exact .a 6 rfl <| .k [81, 2, 3, 5, 6] rfl
          · refine .a 3 rfl <| .v (y_q rfl (g3)) rfl <| .a 3 rfl <| ?_
            cases q3
            · refine .a 1 rfl <| .v (y_ld rfl (show some (flag e.rep) = some (flag q4) by rw [g4])) rfl <| .a 2 rfl <| ?_
              cases q4
              · exact .a 3 rfl <| .v (y_q rfl (g5)) rfl <| .a 2 rfl <| .k [81, 2, 3, 5, 6] rfl
              · exact .a 6 rfl <| .k [81, 2, 3, 5, 6] rfl
            · exact .a 10 rfl <| .k [81, 2, 3, 5, 6] rfl
      refine W_cond rfl (fun hz => ?_) (fun hz => ?_)
      · rw [entsOK_fail hek (by rw [hOK]; revert hz; cases q1 <;> cases q2 <;> cases q3 <;> cases q4 <;> cases q5 <;> intro hz <;> first | rfl | (simp; done) | cases hz)]
        refine W_cs (.a 1 rfl <| .k [4] rfl) ?_
        refine W_ret ?_
        exact ⟨_, _, ResL.of rfl, Pur.pure, rfl⟩
      · skip
        refine W_skip ?_
        refine W_seq ?_
        refine W_csK 95 (.raw (.bool (q4 && (q6 || q7)))) [2, 3, 5, 6] rfl ?_ ?_
        · refine .a 1 rfl <| .v (y_ld rfl (show some (flag e.rep) = some (flag q4) by rw [g4])) rfl <| .a 1 rfl <| ?_
          cases q4
          · exact .a 11 rfl <| .k [95, 2, 3, 5, 6] rfl
          · refine .a 3 rfl <| .v (y_q rfl (g6)) rfl <| .a 1 rfl <| ?_
            cases q6
            · exact .a 3 rfl <| .v (y_q rfl (g7)) rfl <| .a 2 rfl <| .k [95, 2, 3, 5, 6] rfl
            · exact .a 6 rfl <| .k [95, 2, 3, 5, 6] rfl
        refine W_cond rfl (fun hz2 => ?_) (fun hz2 => ?_)
        · rw [entsOK_fail hek (by rw [hOK]; revert hz2; cases q4 <;> cases q6 <;> cases q7 <;> intro hz2 <;> first | rfl | (simp; done) | cases hz2)]
          refine W_cs (.a 1 rfl <| .k [4] rfl) ?_
          refine W_ret ?_
          exact ⟨_, _, ResL.of rfl, Pur.pure, rfl⟩
        · have hpl : e.push.length ≤ 32 ∨ e.push = [] := by
            cases q4
            · right
              have : q5 = false := by cases q5 <;> simp_all
              subst this
              have := ff g5
              exact List.eq_nil_of_length_eq_zero (by omega)
            · left
              have : q7 = false := by cases q7 <;> simp_all
              subst this
              have := ff g7
              omega
          have hpl' : e.push.length ≤ 32 := by rcases hpl with h | h; exact h; rw [h]; simp
          have hfin : e.push.all (segB T) = true → entOK T x.node k e = true := fun ha => by
            rw [hOK, ha]
            clear hOK g1 g2 g3 g4 g5 g6 g7 hpl hpl' hall
            revert hz hz2
            cases q1 <;> cases q2 <;> cases q3 <;> cases q4 <;> cases q5 <;> cases q6 <;> cases q7 <;> intro hz hz2 <;> first | rfl | (cases hz; done) | (cases hz2; done)
          have hfail : e.push.all (segB T) = false → entOK T x.node k e = false := fun ha => by
            rcases hpl with h | h
            · rw [hOK, ha]
              cases q4
              · have : q5 = true := by
                  cases q5
                  · have := ff g5
                    have h0 := List.eq_nil_of_length_eq_zero (by omega : e.push.length = 0)
                    rw [h0] at ha; cases ha
                  · rfl
                subst this
                simp
              · simp
            · rw [h] at ha; cases ha
          refine W_skip ?_
          refine W_cs (.a 1 rfl <| .k [2, 3, 5, 6, 7] rfl) ?_
          refine W_block ?_
          refine W_k [2, 3, 5, 6, 7] rfl ?_
          refine W_loop (fun r s => ∃ j, j ≤ e.push.length ∧ r = e.push.length - j ∧ (e.push.take j).all (segB T) = true ∧ s = ⟨[(2, .pin (topoP T) 0), (3, .pin (tabP x) 0), (5, num k), (6, .pin (entP e) 0), (7, num j)], []⟩) e.push.length ⟨0, by omega, by omega, by simp, rfl⟩ ?_
          rintro r s ⟨j, hj, rfl, hpall, rfl⟩
          refine W_seq ?_
          refine W_cs (.a 5 rfl <| .k [2, 3, 5, 6, 7, 100] rfl) ?_
          refine W_cond rfl (fun hw => ?_) (fun hw => ?_)
          · have hlt2 : j < e.push.length := by have := tt hw; omega
            obtain ⟨a, ha⟩ : ∃ a, e.push[j]? = some a := ⟨e.push[j], by simp [hlt2]⟩
            refine W_skip ?_
            refine W_seq ?_
            refine W_block ?_
            refine W_drs mixed (by kernel_rfl) (.a 4 rfl <| .v [105, 106] (y_ix (j * 2) rfl) rfl rfl <| .v [107] (y_la rfl (segs_drop e.push j a ha) rfl) rfl rfl <| .v [103, 108] (y_c rfl (rseg_can T hp1 a)) rfl rfl <| .a 1 rfl <| .k [2, 3, 5, 6, 7, 110] rfl) ?_
            refine W_cond rfl (fun hs => ?_) (fun hs => ?_)
            · rw [entsOK_fail hek (hfail (allF _ _ j a ha (by simpa using hs)))]
              refine W_cs (.a 1 rfl <| .k [4] rfl) ?_
              refine W_ret ?_
              exact ⟨_, _, ResL.of rfl, Pur.pure, rfl⟩
            · have hs' : segB T a = true := by simpa using hs
              refine W_skip ?_
              refine W_chain (.a 1 rfl <| .v (y_ar rfl) rfl <| .a 1 rfl <| .k [2, 3, 5, 6, 7] rfl) ?_
              exact ⟨e.push.length - (j + 1), by omega, j + 1, by omega, rfl, by rw [allT _ _ j a ha, hpall, hs']; rfl, rfl⟩
          · have hje : j = e.push.length := by have := ff hw; omega
            subst hje
            rw [List.take_length] at hpall
            have hyes := hfin hpall
            refine W_exit ?_
            refine W_chain (.a 1 rfl <| .v (y_ar rfl) rfl <| .a 1 rfl <| .k [2, 3, 5] rfl) ?_
            refine ⟨x.ents.length - (k + 1), by omega, k + 1, by omega, rfl, fun i e' hi he' => ?_, rfl⟩
            by_cases h : i = k
            · subst h; rw [hek] at he'; cases he'; exact hyes
            · exact hall i e' (by omega) he'
    · have hke : k = x.ents.length := by have := ff hy; omega
      rw [entsOK_all fun i e hi => hall i e (by have := (List.getElem?_eq_some_iff.1 hi).1; omega) hi]
      refine W_exit ?_
      refine W_cs (.a 1 rfl <| .k [4] rfl) ?_
      refine W_ret ?_
      exact ⟨_, _, ResL.of rfl, Pur.pure, rfl⟩
end PW
end Go.Proofs.YtbpgndbjbaoolaaGreat

/- The next arcs of a node, as plain mathematics: they lead to nodes that are nearer; a node that reaches has one; tables of routes are valid. -/
namespace Go.Proofs.YtbpgndbjbaoolaaGreat
set_option linter.unusedVariables false
set_option linter.unusedSimpArgs false
namespace PW
open Go.RowKit Reg Mem Net

theorem outL_sorted (T : Topo) (n : Int) : (outL T n).Pairwise (· < ·) := by
  unfold outL outTo
  refine List.Pairwise.map _ (fun a b h => ?_) ((List.pairwise_lt_range (n := 2 * T.links.length)).filter _)
  show (a : Int) < (b : Int)
  omega
theorem outL_iff {T : Topo} {n : Int} {a : Int} : a ∈ outL T n ↔ arcB T a = true ∧ tailN T a.toNat = n := by
  unfold outL outTo
  rw [List.mem_map, arcB_iff]
  constructor
  · rintro ⟨b, hb, rfl⟩
    obtain ⟨h1, h2⟩ := List.mem_filter.1 hb
    have := List.mem_range.1 h1
    refine ⟨⟨by simp, by simp; omega⟩, by simpa using h2⟩
  · rintro ⟨⟨h0, h1⟩, h2⟩
    refine ⟨a.toNat, List.mem_filter.2 ⟨List.mem_range.2 (by omega), by simpa using h2⟩, by simp; omega⟩
theorem leave_of {T : Topo} {n : Int} {L : List Int} (hs : L.Pairwise (· < ·)) (hm : ∀ a ∈ L, arcB T a = true ∧ tailN T a.toNat = n) : leaveB T n L = true := decide_eq_true fun i hi => by
  have h1 := hm _ (getD_mem (d := 0) hi)
  refine ⟨h1.1, h1.2, fun h0 => ?_⟩
  have := List.pairwise_iff_getElem.1 hs (i - 1) i (by omega) hi (by omega)
  rw [List.getD_eq_getElem?_getD, List.getD_eq_getElem?_getD, List.getElem?_eq_getElem hi, List.getElem?_eq_getElem (by omega : i - 1 < L.length)]
  exact this
theorem leave_out (T : Topo) (n : Int) (p : Int → Bool) : leaveB T n ((outL T n).filter p) = true := leave_of ((outL_sorted T n).filter p) fun _ ha => outL_iff.1 (List.mem_filter.1 ha).1
theorem leave_next (T : Topo) (D : List Bool) (n d : Nat) : leaveB T n (nextL T D n d) = true := by
  unfold nextL
  split
  · exact decide_eq_true fun i hi => by simp at hi
  · exact leave_out T n _
theorem next_self (T : Topo) (D : List Bool) (n : Nat) : nextL T D n n = [] := by unfold nextL; rw [if_pos (.inl rfl)]
/-- Tables of routes are valid. -/
theorem routes_valid {T : Topo} {D : List Bool} (hv : validB T = true) {n : Nat} (hn : (n : Int) < T.nodes) : tabOK T (routesT T D n) = true := by
  unfold tabOK routesT
  have h1 : nodeB T (n : Int) = true := nodeB_iff.2 ⟨by omega, hn⟩
  have hN := (sound_of hv).nodes
  have h2 : decide (((toL T D n T.nodes.toNat).length : Int) = T.nodes) = true := decide_eq_true (by rw [toL_len]; omega)
  have h3 : leaveB T n (downL D (outL T n)) = true := leave_out T n _
  have h4 : entsOK T n (toL T D n T.nodes.toNat) = true := entsOK_all fun d e he => by
    unfold toL at he
    rw [List.getElem?_map, Option.map_eq_some_iff] at he
    obtain ⟨d', hd', rfl⟩ := he
    have hd : d' = d := by
      have := List.getElem?_eq_some_iff.1 hd'
      obtain ⟨h, h'⟩ := this
      simpa using h'.symm
    subst hd
    unfold entOK
    simp only [leave_next, Bool.true_and]
    by_cases hdn : d' = n
    · subst hdn; rw [next_self]; simp
    · rw [decide_eq_false (by omega)]; simp
  rw [hv, h1, h2, h3, h4]
  rfl
theorem dist_at {T : Topo} {D : List Bool} (hv : validB T = true) {d x : Nat} (hd : (d : Int) < T.nodes) (hx : (x : Int) < T.nodes) : (distL T D d false).getD x 0 = at' (distL T D d false) (x : Int) := by
  have hl := (distL_bound (D := D) hv (dir := false) hd).1
  unfold at'
  rw [Int.toNat_natCast, List.getD_eq_getElem?_getD, List.getD_eq_getElem?_getD, List.getElem?_eq_getElem (by omega)]
  rfl
/-- What is known of a next arc. -/
structure Nearer (T : Topo) (D : List Bool) (n d a : Nat) : Prop where
  arc : a < 2 * T.links.length
  tail : tailN T a = (n : Int)
  up : downN D a = false
  ne : n ≠ d
  reach : 0 ≤ (distL T D d false).getD (headN T a).toNat 0
  pass : headN T a = (d : Int) ∨ overN T (headN T a).toNat = false
  sum : (distL T D d false).getD n 0 = (distL T D d false).getD (headN T a).toNat 0 + costN T a
theorem next_mem {T : Topo} {D : List Bool} {n d : Nat} {a : Int} (h : a ∈ nextL T D n d) : ∃ k : Nat, a = k ∧ Nearer T D n d k := by
  unfold nextL at h
  split at h
  · simp at h
  · rename_i hne
    obtain ⟨h1, h2⟩ := List.mem_filter.1 h
    obtain ⟨h3, h4⟩ := outL_iff.1 h1
    obtain ⟨h5, h6⟩ := arcB_iff.1 h3
    obtain ⟨k, rfl⟩ := Int.eq_ofNat_of_zero_le h5
    rw [Int.toNat_natCast] at h2 h4
    unfold passB at h2
    simp only [Bool.and_eq_true, Bool.not_eq_true', Bool.or_eq_false_iff, decide_eq_true_eq, decide_eq_false_iff_not] at h2
    obtain ⟨⟨⟨g1, g2⟩, g3⟩, g4⟩ := h2
    refine ⟨k, rfl, by omega, h4, g1, fun e => hne (.inl e), by omega, ?_, by omega⟩
    rcases Bool.and_eq_false_iff.1 g3 with g | g
    · exact .inl (Classical.byContradiction (ff g))
    · exact .inr g
theorem next_of {T : Topo} {D : List Bool} {n d k : Nat} (h : Nearer T D n d k) (hc : 1 ≤ costN T k) : (k : Int) ∈ nextL T D n d := by
  have hs := h.sum
  have hr := h.reach
  unfold nextL
  rw [if_neg (by rintro (e | e); exact h.ne e; omega)]
  refine List.mem_filter.2 ⟨outL_iff.2 ⟨arcB_iff.2 ⟨by omega, by have := h.arc; omega⟩, h.tail⟩, ?_⟩
  unfold passB
  rw [Int.toNat_natCast]
  simp only [Bool.and_eq_true, Bool.not_eq_true', Bool.or_eq_false_iff, decide_eq_true_eq, decide_eq_false_iff_not]
  refine ⟨⟨⟨h.up, by omega⟩, ?_⟩, by omega⟩
  rcases h.pass with g | g
  · rw [decide_eq_false (by simpa using g)]; rfl
  · rw [g, Bool.and_false]
theorem next_ex {T : Topo} {D : List Bool} (hv : validB T = true) {n d : Nat} (hn : (n : Int) < T.nodes) (hd : (d : Int) < T.nodes) (hne : n ≠ d) (h0 : 0 ≤ (distL T D d false).getD n 0) : ∃ k, Nearer T D n d k := by
  have hS := sound_of hv
  have hI := distL_is hS D false hd
  have e1 := dist_at (D := D) hv hd hn
  rcases hI.supp n hn (by rw [← e1]; exact h0) with h | ⟨a, ha, hx, ⟨w1, w2, w3⟩, hs⟩
  · exact absurd h hne
  · have hh := hS.head a ha
    obtain ⟨y, hy⟩ := Int.eq_ofNat_of_zero_le hh.1
    have e2 := dist_at (D := D) hv hd (x := y) (by omega)
    simp only [arcX, arcY, Bool.false_eq_true, if_false] at hx w2 w3 hs
    rw [hy] at w2 w3 hs
    refine ⟨a, ha, hx, w1, hne, ?_, ?_, ?_⟩
    · rw [hy, Int.toNat_natCast, e2]; exact w2
    · rw [hy]; exact w3
    · rw [hy, Int.toNat_natCast, e1, e2]; exact hs
theorem dist_self {T : Topo} {D : List Bool} (hv : validB T = true) {d : Nat} (hd : (d : Int) < T.nodes) : (distL T D d false).getD d 0 = 0 := by
  rw [dist_at hv hd hd]
  exact (distL_is (sound_of hv) D false hd).root
theorem next_pos {T : Topo} {D : List Bool} (hv : validB T = true) {n d : Nat} (hn : (n : Int) < T.nodes) (hd : (d : Int) < T.nodes) : decide (0 < ((nextL T D n d).length : Int)) = decide (0 < (distL T D d false).getD n 0) := by
  refine decide_eq_decide.2 ⟨fun h => ?_, fun h => ?_⟩
  · obtain ⟨a, l, hl⟩ : ∃ a l, nextL T D n d = a :: l := by
      cases hx : nextL T D n d with
      | nil => rw [hx] at h; simp at h
      | cons a l => exact ⟨a, l, rfl⟩
    obtain ⟨k, _, hk⟩ := next_mem (T := T) (D := D) (n := n) (d := d) (a := a) (by rw [hl]; simp)
    have := hk.sum
    have := hk.reach
    have := ((sound_of hv).cost k hk.arc).1
    omega
  · have hne : n ≠ d := fun e => by subst e; rw [dist_self hv hd] at h; omega
    obtain ⟨k, hk⟩ := next_ex (D := D) hv hn hd hne (by omega)
    have := next_of hk ((sound_of hv).cost k hk.arc).1
    have := List.length_pos_of_mem this
    omega
end PW
end Go.Proofs.YtbpgndbjbaoolaaGreat

/- Shortest paths as chains of next arcs, as plain mathematics: their costs, the first of them, how many there are. -/
namespace Go.Proofs.YtbpgndbjbaoolaaGreat
set_option linter.unusedVariables false
set_option linter.unusedSimpArgs false
namespace PW
open Go.RowKit Reg Mem Net

/-- The distance from a node to d. -/
noncomputable def dN (T : Topo) (D : List Bool) (d x : Nat) : Int := (distL T D d false).getD x 0
def costL (T : Topo) (p : List Int) : Int := p.foldr (fun a c => costN T a.toNat + c) 0
theorem costL_nil (T : Topo) : costL T [] = 0 := rfl
theorem costL_cons (T : Topo) (a : Int) (p : List Int) : costL T (a :: p) = costN T a.toNat + costL T p := rfl
theorem costL_append (T : Topo) (p q : List Int) : costL T (p ++ q) = costL T p + costL T q := by
  induction p with
  | nil => simp [costL_nil]
  | cons a p ih => rw [List.cons_append, costL_cons, costL_cons, ih]; omega
inductive SP (T : Topo) (D : List Bool) (d : Nat) : Nat → List Int → Prop
  | nil : SP T D d d []
  | cons {n a m : Nat} {p : List Int} : Nearer T D n d a → headN T a = (m : Int) → SP T D d m p → SP T D d n ((a : Int) :: p)
/-- A path that may be used, to d. -/
inductive Ch (T : Topo) (D : List Bool) (d : Nat) : Nat → List Int → Prop
  | nil : Ch T D d d []
  | cons {n a m : Nat} {p : List Int} : a < 2 * T.links.length → tailN T a = (n : Int) → downN D a = false → headN T a = (m : Int) → (p = [] ∨ overN T m = false) → Ch T D d m p → Ch T D d n ((a : Int) :: p)
theorem nodup_le : ∀ (N : Nat) (l : List Nat), l.Nodup → (∀ x ∈ l, x < N) → l.length ≤ N
  | 0, l, _, h => by
    cases l with
    | nil => simp
    | cons a l => have := h a (by simp); omega
  | N + 1, l, hn, h => by
    have h1 := nodup_le N (l.erase N) (hn.erase N) (fun x hx => by
      have h2 := (List.Nodup.mem_erase_iff hn).1 hx
      have := h x h2.2
      have := h2.1
      omega)
    rw [List.length_erase] at h1
    split at h1 <;> omega
section
variable {T : Topo} {D : List Bool} {d : Nat}
theorem head_nat (hv : validB T = true) {a : Nat} (ha : a < 2 * T.links.length) : ∃ m : Nat, headN T a = (m : Int) ∧ (m : Int) < T.nodes := by
  obtain ⟨h0, h1⟩ := (sound_of hv).head a ha
  obtain ⟨m, hm⟩ := Int.eq_ofNat_of_zero_le h0
  exact ⟨m, hm, by rw [← hm]; exact h1⟩
theorem dN_self (hv : validB T = true) (hd : (d : Int) < T.nodes) : dN T D d d = 0 := dist_self hv hd
theorem dN_ge (hv : validB T = true) (hd : (d : Int) < T.nodes) {x : Nat} (hx : (x : Int) < T.nodes) : -1 ≤ dN T D d x ∧ dN T D d x ≤ 4194240 := by
  obtain ⟨h1, h2⟩ := distL_bound (D := D) hv (dir := false) hd
  exact h2 _ (getD_mem (by omega))
theorem Nearer.dN {n a m : Nat} (h : Nearer T D n d a) (hm : headN T a = (m : Int)) : 0 ≤ dN T D d m ∧ dN T D d n = dN T D d m + costN T a := by
  have h1 := h.reach
  have h2 := h.sum
  rw [hm, Int.toNat_natCast] at h1 h2
  exact ⟨h1, h2⟩
theorem Nearer.node (hv : validB T = true) {n a : Nat} (h : Nearer T D n d a) : (n : Int) < T.nodes := by rw [← h.tail]; exact ((sound_of hv).tail a h.arc).2
theorem SP.node (hv : validB T = true) (hd : (d : Int) < T.nodes) {n : Nat} {p : List Int} (h : SP T D d n p) : (n : Int) < T.nodes := by
  cases h with
  | nil => exact hd
  | cons h1 _ _ => exact h1.node hv
theorem SP.cost (hv : validB T = true) (hd : (d : Int) < T.nodes) {n : Nat} {p : List Int} (h : SP T D d n p) : dN T D d n = costL T p ∧ 0 ≤ dN T D d n := by
  induction h with
  | nil => rw [dN_self hv hd]; exact ⟨rfl, Int.le_refl _⟩
  | cons h1 hm _ ih =>
    obtain ⟨g1, g2⟩ := h1.dN hm
    have := (sound_of hv).cost _ h1.arc
    rw [costL_cons, Int.toNat_natCast]
    omega
theorem SP.self {p : List Int} (h : SP T D d d p) : p = [] := by
  cases h with
  | nil => rfl
  | cons h1 _ _ => exact absurd rfl h1.ne
theorem SP.len (hv : validB T = true) (hd : (d : Int) < T.nodes) {n : Nat} {p : List Int} (h : SP T D d n p) : (p.length : Int) ≤ dN T D d n := by
  induction h with
  | nil => rw [dN_self hv hd]; simp
  | cons h1 hm _ ih =>
    obtain ⟨g1, g2⟩ := h1.dN hm
    have := (sound_of hv).cost _ h1.arc
    simp only [List.length_cons]
    omega
theorem SP.ch {n : Nat} {p : List Int} (h : SP T D d n p) : Ch T D d n p := by
  induction h with
  | nil => exact .nil
  | @cons n a m p h1 hm hp ih =>
    refine .cons h1.arc h1.tail h1.up hm ?_ ih
    rcases h1.pass with hx | hx
    · have : m = d := by rw [hm] at hx; omega
      subst this
      exact .inl hp.self
    · rw [hm, Int.toNat_natCast] at hx; exact .inr hx
theorem dN_way (hv : validB T = true) (hd : (d : Int) < T.nodes) {n a m : Nat} (ha : a < 2 * T.links.length) (ht : tailN T a = (n : Int)) (hu : downN D a = false) (hm : headN T a = (m : Int)) (ho : m = d ∨ overN T m = false) (h0 : 0 ≤ dN T D d m) : 0 ≤ dN T D d n ∧ dN T D d n ≤ dN T D d m + costN T a := by
  have hS := sound_of hv
  have hI := distL_is hS D false hd
  have hmN : (m : Int) < T.nodes := by rw [← hm]; exact (hS.head a ha).2
  have hnN : (n : Int) < T.nodes := by rw [← ht]; exact (hS.tail a ha).2
  have e1 := dist_at (D := D) hv hd hnN
  have e2 := dist_at (D := D) hv hd hmN
  have := hI.closed a ha ⟨hu, by simp only [arcY, Bool.false_eq_true, if_false]; rw [hm, ← e2]; exact h0, by
    simp only [arcY, Bool.false_eq_true, if_false]; rw [hm]
    rcases ho with h | h
    · exact .inl (by rw [h])
    · exact .inr (by simpa using h)⟩
  simp only [arcX, arcY, Bool.false_eq_true, if_false] at this
  rw [hm, ht, ← e1, ← e2] at this
  exact this
theorem Ch.node (hv : validB T = true) (hd : (d : Int) < T.nodes) {n : Nat} {p : List Int} (h : Ch T D d n p) : (n : Int) < T.nodes := by
  cases h with
  | nil => exact hd
  | cons h1 ht _ _ _ _ => rw [← ht]; exact ((sound_of hv).tail _ h1).2
theorem Ch.to {n : Nat} {p : List Int} (h : Ch T D d n p) : p = [] → n = d := by
  cases h with
  | nil => intro _; rfl
  | cons => intro h; cases h
/-- No path is shorter than the distance. -/
theorem Ch.le (hv : validB T = true) (hd : (d : Int) < T.nodes) {n : Nat} {p : List Int} (h : Ch T D d n p) : 0 ≤ dN T D d n ∧ dN T D d n ≤ costL T p := by
  induction h with
  | nil => rw [dN_self hv hd]; exact ⟨Int.le_refl _, Int.le_refl _⟩
  | @cons n a m p ha ht hu hm ho hp ih =>
    have := dN_way hv hd ha ht hu hm (by rcases ho with h | h; exact .inl (hp.to h); exact .inr h) ih.1
    rw [costL_cons, Int.toNat_natCast]
    omega
/-- A path that is as short as the distance is a chain of next arcs. -/
theorem Ch.sp (hv : validB T = true) (hd : (d : Int) < T.nodes) {n : Nat} {p : List Int} (h : Ch T D d n p) (hc : dN T D d n = costL T p) : SP T D d n p := by
  induction h with
  | nil => exact .nil
  | @cons n a m p ha ht hu hm ho hp ih =>
    have ho' : m = d ∨ overN T m = false := by rcases ho with h | h; exact .inl (hp.to h); exact .inr h
    have h1 := hp.le hv hd
    have h2 := dN_way hv hd ha ht hu hm ho' h1.1
    rw [costL_cons, Int.toNat_natCast] at hc
    have h3 := (sound_of hv).cost a ha
    refine .cons ⟨ha, ht, hu, ?_, ?_, ?_, ?_⟩ hm (ih (by omega))
    · rintro rfl; rw [dN_self hv hd] at hc h2; omega
    · rw [hm, Int.toNat_natCast]; exact h1.1
    · rw [hm]; rcases ho' with h | h; exact .inl (by rw [h]); exact .inr (by simpa using h)
    · rw [hm, Int.toNat_natCast]; show dN T D d n = dN T D d m + costN T a; omega
/-- The first shortest path. -/
noncomputable def firstP (T : Topo) (D : List Bool) (d : Nat) : Nat → Nat → List Int
  | 0, _ => []
  | f + 1, n => match nextL T D n d with
    | [] => []
    | a :: _ => a :: firstP T D d f (headN T a.toNat).toNat
noncomputable def spathL (T : Topo) (D : List Bool) (n d : Nat) : List Int := firstP T D d (dN T D d n).toNat n
theorem next_unr {n : Nat} (h : dN T D d n < 0) : nextL T D n d = [] := by unfold nextL; rw [if_pos (.inr h)]
theorem first_sp (hv : validB T = true) (hd : (d : Int) < T.nodes) : ∀ (f n : Nat), (n : Int) < T.nodes → 0 ≤ dN T D d n → dN T D d n ≤ f → SP T D d n (firstP T D d f n)
  | f, n, hn, h0, hf => by
    by_cases hne : n = d
    · subst hne
      have : firstP T D n f n = [] := by cases f with | zero => rfl | succ f => simp only [firstP, next_self]
      rw [this]; exact .nil
    · obtain ⟨k, hk⟩ := next_ex (D := D) hv hn hd hne h0
      cases f with
      | zero =>
        obtain ⟨m, hm, _⟩ := head_nat hv hk.arc
        have := hk.dN hm
        have := (sound_of hv).cost k hk.arc
        omega
      | succ f =>
        simp only [firstP]
        have hmem := next_of hk ((sound_of hv).cost k hk.arc).1
        cases hx : nextL T D n d with
        | nil => rw [hx] at hmem; cases hmem
        | cons a l =>
          obtain ⟨b, hb, hbn⟩ := next_mem (T := T) (D := D) (n := n) (d := d) (a := a) (by rw [hx]; simp)
          subst hb
          obtain ⟨m, hm, hmN⟩ := head_nat hv hbn.arc
          have g := hbn.dN hm
          have := (sound_of hv).cost b hbn.arc
          simp only [Int.toNat_natCast, hm]
          exact .cons hbn hm (first_sp hv hd f m hmN g.1 (by omega))
theorem spath_sp (hv : validB T = true) (hd : (d : Int) < T.nodes) {n : Nat} (hn : (n : Int) < T.nodes) (h0 : 0 ≤ dN T D d n) : SP T D d n (spathL T D n d) := first_sp hv hd _ n hn h0 (by omega)
/-- How many shortest paths there are: 0, 1, or 2 for more. -/
noncomputable def cntF (T : Topo) (D : List Bool) (d : Nat) : Nat → Nat → Int
  | 0, m => if m = d then 1 else 0
  | f + 1, m => if m = d then 1 else (nextL T D m d).foldl (fun c a => min 2 (c + cntF T D d f (headN T a.toNat).toNat)) 0
noncomputable def cntS (T : Topo) (D : List Bool) (d m : Nat) : Int := cntF T D d (dN T D d m).toNat m
theorem foldl_congr {α β : Type} {f g : α → β → α} : ∀ {l : List β} {a : α}, (∀ a b, b ∈ l → f a b = g a b) → l.foldl f a = l.foldl g a
  | [], _, _ => rfl
  | b :: l, a, h => by simp only [List.foldl_cons, h a b (by simp)]; exact foldl_congr fun a c hc => h a c (by simp [hc])
theorem cntF_stab (hv : validB T = true) (hd : (d : Int) < T.nodes) : ∀ (K m f : Nat), (m : Int) < T.nodes → dN T D d m ≤ K → dN T D d m ≤ f → cntF T D d f m = cntS T D d m
  | K, m, f, hmN, hK, hf => by
    unfold cntS
    by_cases hmd : m = d
    · subst hmd
      cases f <;> cases (dN T D m m).toNat <;> simp [cntF]
    · by_cases h0 : dN T D d m < 0
      · have hx := next_unr h0
        rw [show (dN T D d m).toNat = 0 by omega]
        cases f <;> simp [cntF, hmd, hx]
      · obtain ⟨k, hk⟩ := next_ex (D := D) hv hmN hd hmd (by show 0 ≤ dN T D d m; omega)
        have hpos : 0 < dN T D d m := by
          obtain ⟨m', hm', _⟩ := head_nat hv hk.arc
          have := hk.dN hm'
          have := (sound_of hv).cost k hk.arc
          omega
        obtain ⟨g, hg⟩ : ∃ g, (dN T D d m).toNat = g + 1 := ⟨(dN T D d m).toNat - 1, by omega⟩
        cases f with
        | zero => omega
        | succ f =>
          cases K with
          | zero => omega
          | succ K =>
            rw [hg]
            simp only [cntF, if_neg hmd]
            refine foldl_congr fun c a ha => ?_
            obtain ⟨b, rfl, hbn⟩ := next_mem ha
            obtain ⟨m', hm', hmN'⟩ := head_nat hv hbn.arc
            have g1 := hbn.dN hm'
            have g2 := (sound_of hv).cost b hbn.arc
            rw [Int.toNat_natCast, hm', Int.toNat_natCast, cntF_stab hv hd K m' f hmN' (by omega) (by omega), cntF_stab hv hd K m' g hmN' (by omega) (by omega)]
theorem cnt_self (m : Nat) : cntS T D m m = 1 := by unfold cntS; cases (dN T D m m).toNat <;> simp [cntF]
theorem cnt_eq (hv : validB T = true) (hd : (d : Int) < T.nodes) {m : Nat} (hmN : (m : Int) < T.nodes) (hmd : m ≠ d) : cntS T D d m = (nextL T D m d).foldl (fun c a => min 2 (c + cntS T D d (headN T a.toNat).toNat)) 0 := by
  by_cases h0 : dN T D d m < 0
  · unfold cntS
    rw [next_unr h0, show (dN T D d m).toNat = 0 by omega]
    simp [cntF, hmd]
  · have h1 := cntF_stab (D := D) hv hd (dN T D d m).toNat m ((dN T D d m).toNat + 1) hmN (by omega) (by omega)
    rw [← h1]
    simp only [cntF, if_neg hmd]
    refine foldl_congr fun c a ha => ?_
    obtain ⟨b, rfl, hbn⟩ := next_mem ha
    obtain ⟨m', hm', hmN'⟩ := head_nat hv hbn.arc
    have g1 := hbn.dN hm'
    have g2 := (sound_of hv).cost b hbn.arc
    rw [Int.toNat_natCast, hm', Int.toNat_natCast, cntF_stab hv hd (dN T D d m).toNat m' _ hmN' (by omega) (by omega)]
theorem cnt_unr (hv : validB T = true) (hd : (d : Int) < T.nodes) {m : Nat} (hmN : (m : Int) < T.nodes) (h0 : dN T D d m < 0) : cntS T D d m = 0 := by
  have hmd : m ≠ d := by rintro rfl; rw [dN_self hv hd] at h0; omega
  rw [cnt_eq hv hd hmN hmd, next_unr h0]; rfl
/-- Sums that are cut at 2. -/
theorem fold2_le (g : Int → Int) (hg : ∀ a, 0 ≤ g a) : ∀ (l : List Int) (c : Int), 0 ≤ c → c ≤ 2 → 0 ≤ l.foldl (fun c a => min 2 (c + g a)) c ∧ l.foldl (fun c a => min 2 (c + g a)) c ≤ 2
  | [], c, h0, h2 => ⟨h0, h2⟩
  | a :: l, c, h0, h2 => by
    have := hg a
    exact fold2_le g hg l _ (show 0 ≤ min 2 (c + g a) by omega) (show min 2 (c + g a) ≤ 2 by omega)
theorem fold2_ge (g : Int → Int) (hg : ∀ a, 0 ≤ g a) : ∀ (l : List Int) (c : Int), c ≤ 2 → c ≤ l.foldl (fun c a => min 2 (c + g a)) c
  | [], c, _ => Int.le_refl _
  | a :: l, c, h2 => by
    have := hg a
    have := fold2_ge g hg l (min 2 (c + g a)) (by omega)
    simp only [List.foldl_cons]
    omega
theorem cnt_range (hv : validB T = true) (hd : (d : Int) < T.nodes) : ∀ (f m : Nat), 0 ≤ cntF T D d f m ∧ cntF T D d f m ≤ 2
  | 0, m => by simp only [cntF]; split <;> omega
  | f + 1, m => by
    simp only [cntF]
    split
    · omega
    · exact fold2_le (fun a => cntF T D d f (headN T a.toNat).toNat) (fun a => (cnt_range hv hd f _).1) _ 0 (by omega) (by omega)
theorem cnt_rangeS (hv : validB T = true) (hd : (d : Int) < T.nodes) (m : Nat) : 0 ≤ cntS T D d m ∧ cntS T D d m ≤ 2 := cnt_range hv hd _ m
theorem cnt_pos (hv : validB T = true) (hd : (d : Int) < T.nodes) : ∀ (K m : Nat), (m : Int) < T.nodes → 0 ≤ dN T D d m → dN T D d m ≤ K → 1 ≤ cntS T D d m
  | K, m, hmN, h0, hK => by
    by_cases hmd : m = d
    · subst hmd; rw [cnt_self]; omega
    · obtain ⟨k, hk⟩ := next_ex (D := D) hv hmN hd hmd h0
      have hmem := next_of hk ((sound_of hv).cost k hk.arc).1
      obtain ⟨m', hm', hmN'⟩ := head_nat hv hk.arc
      have g1 := hk.dN hm'
      have g2 := (sound_of hv).cost k hk.arc
      cases K with
      | zero => omega
      | succ K =>
        have hp := cnt_pos hv hd K m' hmN' g1.1 (by omega)
        rw [cnt_eq hv hd hmN hmd]
        obtain ⟨l1, l2, hl⟩ := List.append_of_mem hmem
        rw [hl, List.foldl_append, List.foldl_cons]
        have hg : ∀ a : Int, 0 ≤ cntS T D d (headN T a.toNat).toNat := fun a => (cnt_rangeS hv hd _).1
        have a1 := fold2_le (fun a => cntS T D d (headN T a.toNat).toNat) hg l1 0 (by omega) (by omega)
        have a2 := fold2_ge (fun a => cntS T D d (headN T a.toNat).toNat) hg l2 (min 2 (l1.foldl (fun c a => min 2 (c + cntS T D d (headN T a.toNat).toNat)) 0 + cntS T D d (headN T (k : Int).toNat).toNat)) (by omega)
        rw [Int.toNat_natCast, hm', Int.toNat_natCast] at a2
        rw [Int.toNat_natCast, hm', Int.toNat_natCast]
        omega
/-- Only one: each node has one next arc. -/
theorem cnt_one (hv : validB T = true) (hd : (d : Int) < T.nodes) {m : Nat} (hmN : (m : Int) < T.nodes) (hmd : m ≠ d) (h : cntS T D d m = 1) : ∃ a : Nat, nextL T D m d = [(a : Int)] ∧ Nearer T D m d a ∧ ∀ k : Nat, headN T a = (k : Int) → cntS T D d k = 1 := by
  rw [cnt_eq hv hd hmN hmd] at h
  have hg : ∀ a : Int, 0 ≤ cntS T D d (headN T a.toNat).toNat := fun a => (cnt_rangeS hv hd _).1
  have hone : ∀ a ∈ nextL T D m d, 1 ≤ cntS T D d (headN T a.toNat).toNat := fun a ha => by
    obtain ⟨b, rfl, hb⟩ := next_mem ha
    obtain ⟨m', hm', hmN'⟩ := head_nat hv hb.arc
    have g1 := hb.dN hm'
    rw [Int.toNat_natCast, hm', Int.toNat_natCast]
    exact cnt_pos hv hd (dN T D d m').toNat m' hmN' g1.1 (by omega)
  cases hx : nextL T D m d with
  | nil => rw [hx] at h; simp at h
  | cons a l =>
    obtain ⟨b, rfl, hb⟩ := next_mem (T := T) (D := D) (n := m) (d := d) (a := a) (by rw [hx]; simp)
    have h1 := hone b (by rw [hx]; simp)
    rw [hx, List.foldl_cons] at h
    cases l with
    | nil =>
      refine ⟨b, rfl, hb, fun k hk => ?_⟩
      simp only [List.foldl_nil, Int.toNat_natCast, hk] at h h1
      omega
    | cons a2 l =>
      have h2 := hone a2 (by rw [hx]; simp)
      rw [List.foldl_cons] at h
      have := fold2_ge (fun a => cntS T D d (headN T a.toNat).toNat) hg l (min 2 (min 2 (0 + cntS T D d (headN T (b : Int).toNat).toNat) + cntS T D d (headN T a2.toNat).toNat)) (by omega)
      omega
theorem cnt_of_one (hv : validB T = true) (hd : (d : Int) < T.nodes) {m a k : Nat} (hmN : (m : Int) < T.nodes) (hmd : m ≠ d) (hx : nextL T D m d = [(a : Int)]) (hk : headN T a = (k : Int)) (h : cntS T D d k = 1) : cntS T D d m = 1 := by
  rw [cnt_eq hv hd hmN hmd, hx]
  simp only [List.foldl_cons, List.foldl_nil, Int.toNat_natCast, hk, h]
  omega
theorem SP.unique (hv : validB T = true) (hd : (d : Int) < T.nodes) {n : Nat} {p q : List Int} (h : SP T D d n p) (hq : SP T D d n q) (hc : cntS T D d n = 1) : p = q := by
  induction h generalizing q with
  | nil => exact hq.self.symm
  | @cons n a m p h1 hm hp ih =>
    cases hq with
    | nil => exact absurd rfl h1.ne
    | @cons _ a' m' q h1' hm' hq =>
      obtain ⟨b, hb, _, hb2⟩ := cnt_one hv hd (h1.node hv) h1.ne hc
      have e1 := next_of h1 ((sound_of hv).cost a h1.arc).1
      have e2 := next_of h1' ((sound_of hv).cost a' h1'.arc).1
      rw [hb] at e1 e2
      simp only [List.mem_singleton] at e1 e2
      have ea : a = b := by omega
      have ea' : a' = b := by omega
      subst ea
      subst ea'
      have em : m = m' := by rw [hm] at hm'; omega
      subst em
      rw [ih hq (hb2 m hm)]
/-- Only one shortest path, with the checks of its arguments. -/
noncomputable def uniqB (T : Topo) (D : List Bool) (n d : Int) : Bool := decide (nodeE T D n d = 0) && decide (cntS T D d.toNat n.toNat = 1)
/-- The nodes of a shortest path are different. -/
theorem SP.len_lt (hv : validB T = true) (hd : (d : Int) < T.nodes) {n : Nat} {p : List Int} (h : SP T D d n p) : (p.length : Int) < T.nodes := by
  have key : ∃ l : List Nat, l.length = p.length + 1 ∧ l.Nodup ∧ (∀ x ∈ l, (x : Int) < T.nodes ∧ dN T D d x ≤ dN T D d n) := by
    induction h with
    | nil => exact ⟨[d], rfl, by simp, fun x hx => by simp at hx; subst hx; exact ⟨hd, Int.le_refl _⟩⟩
    | @cons n a m p h1 hm hp ih =>
      obtain ⟨l, e1, e2, e3⟩ := ih
      have g1 := h1.dN hm
      have g2 := (sound_of hv).cost a h1.arc
      refine ⟨n :: l, by simp [e1], List.nodup_cons.2 ⟨fun hn => by have := (e3 n hn).2; omega, e2⟩, fun x hx => ?_⟩
      cases hx with
      | head => exact ⟨h1.node hv, Int.le_refl _⟩
      | tail _ hx => have := e3 x hx; exact ⟨this.1, by omega⟩
  obtain ⟨l, e1, e2, e3⟩ := key
  have hN := (sound_of hv).nodes
  have := nodup_le T.nodes.toNat l e2 (fun x hx => by have := (e3 x hx).1; omega)
  omega
end
end PW
end Go.Proofs.YtbpgndbjbaoolaaGreat

/- Paths: package topology's Path, the reference's. -/
namespace Go.Proofs.YtbpgndbjbaoolaaGreat
set_option linter.unusedVariables false
set_option linter.unusedSimpArgs false
namespace PW
open Go.RowKit Reg Mem Net

/-- The error of a path from a node. -/
def walkE (T : Topo) : Bool → Int → List Int → Int
  | _, _, [] => 0
  | f, n, a :: l => if arcB T a = false then 2 else if tailN T a.toNat ≠ n ∨ (f = false ∧ overN T n.toNat = true) then 4 else walkE T false (headN T a.toNat) l
def pathX (T : Topo) (n : Int) (l : List Int) : Int := if validB T then (if nodeB T n then walkE T true n l else 2) else 1
def endL (T : Topo) : Int → List Int → Int
  | n, [] => n
  | _, a :: l => endL T (headN T a.toNat) l
def pathV (T : Topo) (n : Int) (l : List Int) : PV := .tuple [num (if pathX T n l = 0 then endL T n l else 0), num (if pathX T n l = 0 then costL T l else 0), num (pathX T n l)]
theorem endL_append (T : Topo) : ∀ (n : Int) (l m : List Int), endL T n (l ++ m) = endL T (endL T n l) m
  | _, [], _ => rfl
  | _, a :: l, m => endL_append T _ l m
theorem drop_cons (l : List Int) (k : Nat) (h : k < l.length) : l.drop k = l.getD k 0 :: l.drop (k + 1) := by
  rw [List.drop_eq_getElem_cons h, List.getD_eq_getElem?_getD, List.getElem?_eq_getElem h]; rfl
theorem endL_step (T : Topo) (n : Int) (l : List Int) (k : Nat) (h : k < l.length) : endL T n (l.take (k + 1)) = headN T (l.getD k 0).toNat := by
  rw [take_step l k 0 h, endL_append]; rfl
theorem costL_step (T : Topo) (l : List Int) (k : Nat) (h : k < l.length) : costL T (l.take (k + 1)) = costL T (l.take k) + costN T (l.getD k 0).toNat := by
  rw [take_step l k 0 h, costL_append]; simp [costL_cons, costL_nil]
theorem walk_step {T : Topo} {f : Bool} {n a : Int} {l : List Int} (h1 : arcB T a = true) (h2 : tailN T a.toNat = n) (h3 : f = true ∨ overN T n.toNat = false) : walkE T f n (a :: l) = walkE T false (headN T a.toNat) l := by
  simp only [walkE]
  rw [if_neg (by rw [h1]; simp), if_neg]
  rintro (h | ⟨h, h'⟩)
  · exact h h2
  · rcases h3 with h3 | h3
    · rw [h3] at h; cases h
    · rw [h3] at h'; cases h'
theorem walk_bad {T : Topo} {f : Bool} {n a : Int} {l : List Int} (h1 : arcB T a = true) (h2 : tailN T a.toNat ≠ n ∨ (f = false ∧ overN T n.toNat = true)) : walkE T f n (a :: l) = 4 := by
  simp only [walkE]
  rw [if_neg (by rw [h1]; simp), if_pos h2]
theorem headI_can (T : Topo) (hl : T.links.length ≤ 4611686018427387902) (a : Int) (h : arcB T a = true) : Can Tryz.prog 127 [topoV T, num a] (· = num (headN T a.toNat)) := by
  obtain ⟨h0, h1⟩ := arcB_iff.1 h
  obtain ⟨a, rfl⟩ := Int.eq_ofNat_of_zero_le h0
  exact head_can T a (by omega) hl
theorem costI_can (T : Topo) (a : Int) (h : arcB T a = true) : Can Tryz.prog 157 [topoV T, num a] (· = num (costN T a.toNat)) := by
  obtain ⟨h0, h1⟩ := arcB_iff.1 h
  obtain ⟨a, rfl⟩ := Int.eq_ofNat_of_zero_le h0
  exact cost_can T a (by omega)
theorem rtailI_can (T : Topo) (hv : validB T = true) (a : Int) (h : arcB T a = true) : Can Tryz.prog 48 [topoV T, num a] (· = num (tailN T a.toNat)) := by
  obtain ⟨h0, h1⟩ := arcB_iff.1 h
  obtain ⟨a, rfl⟩ := Int.eq_ofNat_of_zero_le h0
  exact rtailN_can T hv a (by omega)
theorem rheadI_can (T : Topo) (hv : validB T = true) (a : Int) (h : arcB T a = true) : Can Tryz.prog 66 [topoV T, num a] (· = num (headN T a.toNat)) := by
  obtain ⟨h0, h1⟩ := arcB_iff.1 h
  obtain ⟨a, rfl⟩ := Int.eq_ofNat_of_zero_le h0
  exact rheadN_can T hv a (by omega)
theorem rcostI_can (T : Topo) (hv : validB T = true) (a : Int) (h : arcB T a = true) : Can Tryz.prog 109 [topoV T, num a] (· = num (costN T a.toNat)) := by
  obtain ⟨h0, h1⟩ := arcB_iff.1 h
  obtain ⟨a, rfl⟩ := Int.eq_ofNat_of_zero_le h0
  exact rcostN_can T hv a (by omega)
theorem arc_facts {T : Topo} (hv : validB T = true) {a : Int} (h : arcB T a = true) : (1 ≤ costN T a.toNat ∧ costN T a.toNat ≤ 65535) ∧ ∃ m : Nat, headN T a.toNat = (m : Int) ∧ (m : Int) < T.nodes := by
  obtain ⟨h0, h1⟩ := arcB_iff.1 h
  have hl : a.toNat < 2 * T.links.length := by omega
  exact ⟨(sound_of hv).cost _ hl, head_nat hv hl⟩
theorem over_ln {T : Topo} (hv : validB T = true) {x : Nat} (hx : (x : Int) < T.nodes) : T.over.length = 0 ∨ x < T.over.length := by have := (valid_bd hv).2.2.2; omega
set_option maxRecDepth 10000 in
set_option maxHeartbeats 1000000 in
theorem path_can (T : Topo) (n : Int) (l : List Int) (hl : l.length ≤ 1000000) : Can Tryz.prog 147 [topoV T, num n, intsV l] (· = pathV T n l) := by
  refine can_of Tryz.func147 rfl Tryz.ntmps147 rfl ?_
  refine W_cs (.a 4 rfl <| .k [1, 2, 3, 7] rfl) ?_
  refine W_seq ?_
  refine W_cs (.a 1 rfl <| .c rfl (valid_can T) rfl <| .a 1 rfl <| .k [1, 2, 3, 7, 13] rfl) ?_
  refine W_cond rfl (fun hc => ?_) (fun hc => ?_)
  · have hv : validB T = false := by simpa using hc
    have hX : pathX T n l = 1 := by unfold pathX; rw [hv]; rfl
    unfold pathV
    rw [hX]
    refine W_cs (.a 3 rfl <| .k [6, 7, 8] rfl) ?_
    refine W_ret ?_
    exact ⟨_, _, ResL.of rfl, Pur.pure, rfl⟩
  · have hv : validB T = true := by simpa using hc
    have hll := links_le hv
    refine W_skip ?_
    refine W_seq ?_
    refine W_cs (.a 2 rfl <| .c rfl (node_can T n) rfl <| .a 1 rfl <| .k [1, 2, 3, 7, 17] rfl) ?_
    refine W_cond rfl (fun hc => ?_) (fun hc => ?_)
    · have hn : nodeB T n = false := by simpa using hc
      have hX : pathX T n l = 2 := by unfold pathX; rw [hv, hn]; rfl
      unfold pathV
      rw [hX]
      refine W_cs (.a 3 rfl <| .k [6, 7, 8] rfl) ?_
      refine W_ret ?_
      exact ⟨_, _, ResL.of rfl, Pur.pure, rfl⟩
    · have hn : nodeB T n = true := by simpa using hc
      have hX : pathX T n l = walkE T true n l := by unfold pathX; rw [hv, hn]; rfl
      obtain ⟨hn0, hn1⟩ := nodeB_iff.1 hn
      obtain ⟨n, rfl⟩ := Int.eq_ofNat_of_zero_le hn0
      refine W_skip ?_
      refine W_cs (.a 2 rfl <| .k [2, 3, 6, 7] rfl) ?_
      refine W_seq ?_
      refine W_cs (.a 3 rfl <| .k [3, 6, 7, 19, 20, 21] rfl) ?_
      refine W_block ?_
      refine W_k [3, 6, 7, 19, 20, 21] rfl ?_
      refine W_loop (fun r s => ∃ (k x : Nat), k ≤ l.length ∧ r = l.length - k ∧ endL T n (l.take k) = (x : Int) ∧ (x : Int) < T.nodes ∧ 0 ≤ costL T (l.take k) ∧ costL T (l.take k) ≤ 65535 * (k : Int) ∧ walkE T true n l = walkE T (decide (k = 0)) x (l.drop k) ∧ s = ⟨[(3, .pin (topoP T) 0), (6, num x), (7, num (costL T (l.take k))), (19, intsV l), (20, num l.length), (21, num k)], []⟩) l.length ⟨0, n, by omega, by omega, rfl, hn1, by simp [costL_nil], by simp [costL_nil], rfl, rfl⟩ ?_
      rintro r s ⟨k, x, hk, rfl, hx, hxN, hc0, hc1, hw, rfl⟩
      refine W_cs (.a 1 rfl <| .k [3, 6, 7, 19, 20, 21, 22] rfl) ?_
      refine W_seq ?_
      refine W_cond rfl (fun hy => ?_) (fun hy => ?_)
      · have hlt : k < l.length := by have := tt hy; omega
        rw [drop_cons l k hlt] at hw
        obtain ⟨p1, hp1⟩ : ∃ q, arcB T (l.getD k 0) = q := ⟨_, rfl⟩
        have ha := arc_can T (by omega) (l.getD k 0)
        rw [hp1] at ha
        refine W_skip ?_
        refine W_seq ?_
        refine W_block ?_
        refine W_cs (.a 1 rfl <| .v (y_ix (k) rfl) rfl <| .v (y_ld rfl (ints_get l k hlt)) rfl <| .a 2 rfl <| .k [3, 6, 7, 9, 10, 19, 20, 21] rfl) ?_
        refine W_seq ?_
        refine W_cs (.a 2 rfl <| .c rfl (ha) rfl <| .a 1 rfl <| .k [3, 6, 7, 9, 10, 19, 20, 21, 29] rfl) ?_
        refine W_cond rfl (fun hz => ?_) (fun hz => ?_)
        · have h1 : p1 = false := by simpa using hz
          subst h1
          have hw2 : walkE T true n l = 2 := by rw [hw]; simp only [walkE]; rw [if_pos hp1]
          unfold pathV
          rw [hX, hw2]
          refine W_cs (.a 3 rfl <| .k [6, 7, 8] rfl) ?_
          refine W_ret ?_
          exact ⟨_, _, ResL.of rfl, Pur.pure, rfl⟩
        · have h1 : p1 = true := by simpa using hz
          subst h1
          obtain ⟨⟨hco0, hco1⟩, y, hyh, hyN⟩ := arc_facts hv hp1
          have hsN := endL_step T n l k hlt
          have hsC := costL_step T l k hlt
          obtain ⟨p2, hp2⟩ : ∃ q, decide (tailN T (l.getD k 0).toNat ≠ (x : Int)) = q := ⟨_, rfl⟩
          obtain ⟨p3, hp3⟩ : ∃ q, decide (0 < (k : Int)) = q := ⟨_, rfl⟩
          obtain ⟨p4, hp4⟩ : ∃ q, overN T x = q := ⟨_, rfl⟩
          refine W_skip ?_
          refine W_seq ?_
          refine W_csK 43 (.raw (.bool (p2 || (p3 && p4)))) [3, 7, 10, 19, 20, 21] rfl ?_ ?_
          · refine .a 2 rfl <| .c rfl (tailI_can T _ hp1) rfl <| .a 1 rfl <| .v (y_q rfl (hp2)) rfl <| .a 1 rfl <| ?_
            cases p2
            · refine .a 1 rfl <| .v (y_q rfl (hp3)) rfl <| .a 1 rfl <| ?_
              cases p3
              · exact .a 5 rfl <| .k [43, 3, 7, 10, 19, 20, 21] rfl
              · exact .a 2 rfl <| .c rfl (hp4 ▸ over_can T x (over_ln hv hxN)) rfl <| .a 2 rfl <| .k [43, 3, 7, 10, 19, 20, 21] rfl
            · exact .a 8 rfl <| .k [43, 3, 7, 10, 19, 20, 21] rfl
          refine W_cond rfl (fun hb => ?_) (fun hb => ?_)
          · have hw4 : walkE T true n l = 4 := by
              rw [hw]
              refine walk_bad hp1 ?_
              rcases Bool.or_eq_true_iff.1 hb with h | h
              · rw [h] at hp2; exact .inl (tt hp2)
              · obtain ⟨h3, h4⟩ := Bool.and_eq_true_iff.1 h
                rw [h3] at hp3
                rw [h4] at hp4
                exact .inr ⟨decide_eq_false (by have := tt hp3; omega), by rw [Int.toNat_natCast]; exact hp4⟩
            unfold pathV
            rw [hX, hw4]
            refine W_cs (.a 3 rfl <| .k [6, 7, 8] rfl) ?_
            refine W_ret ?_
            exact ⟨_, _, ResL.of rfl, Pur.pure, rfl⟩
          · obtain ⟨b2, b3⟩ := Bool.or_eq_false_iff.1 hb
            rw [b2] at hp2
            have ht : tailN T (l.getD k 0).toNat = (x : Int) := Classical.byContradiction (ff hp2)
            have hws := walk_step (T := T) (f := decide (k = 0)) (n := (x : Int)) (l := l.drop (k + 1)) hp1 ht (by
              rcases Bool.and_eq_false_iff.1 b3 with h | h
              · rw [h] at hp3; exact .inl (decide_eq_true (by have := ff hp3; omega))
              · rw [h] at hp4; exact .inr (by rw [Int.toNat_natCast]; exact hp4))
            rw [hws, hyh] at hw
            have hh := headI_can T (by omega) _ hp1
            rw [hyh] at hh
            refine W_skip ?_
            refine W_cs (.a 2 rfl <| .c rfl (hh) rfl <| .a 1 rfl <| .k [3, 6, 7, 10, 19, 20, 21] rfl) ?_
            refine W_chain (.a 3 rfl <| .c rfl (costI_can T _ hp1) rfl <| .v (y_ar rfl (hc := hsC.symm) (hn := by unfold In64; omega)) rfl <| .a 1 rfl <| .k [3, 6, 7, 19, 20, 21] rfl) ?_
            refine W_chain (.v (y_ar rfl) rfl <| .a 1 rfl <| .k [3, 6, 7, 19, 20, 21] rfl) ?_
            exact ⟨l.length - (k + 1), by omega, k + 1, y, by omega, rfl, by rw [hsN, hyh], hyN, by omega, by omega, by rw [hw]; rfl, rfl⟩
      · have hke : k = l.length := by have := ff hy; omega
        subst hke
        rw [List.drop_length] at hw
        rw [List.take_length] at hx ⊢
        unfold pathV
        rw [hX, hw]
        simp only [walkE, if_true]
        rw [hx]
        refine W_exit ?_
        refine W_cs (.a 5 rfl <| .k [6, 7, 8] rfl) ?_
        refine W_ret ?_
        exact ⟨_, _, ResL.of rfl, Pur.pure, rfl⟩
set_option maxRecDepth 10000 in
set_option maxHeartbeats 1000000 in
theorem rpath_can (T : Topo) (n : Int) (l : List Int) (hl : l.length ≤ 1000000) : Can Tryz.prog 110 [topoV T, num n, intsV l] (· = pathV T n l) := by
  obtain ⟨g1, hg1⟩ : ∃ q, decide (n < 0) = q := ⟨_, rfl⟩
  obtain ⟨g2, hg2⟩ : ∃ q, decide (T.nodes ≤ n) = q := ⟨_, rfl⟩
  have hnb : nodeB T n = !(g1 || g2) := by rw [← hg1, ← hg2, ← Bool.decide_or, ← decide_not]; unfold nodeB; exact decide_eq_decide.2 (by omega)
  refine can_of Tryz.func110 rfl Tryz.ntmps110 rfl ?_
  refine W_cs (.a 4 rfl <| .k [1, 2, 3] rfl) ?_
  refine W_seq ?_
  refine W_cs (.a 1 rfl <| .c rfl (rvalid_can T) rfl <| .a 1 rfl <| .k [1, 2, 3, 13] rfl) ?_
  refine W_cond rfl (fun hc => ?_) (fun hc => ?_)
  · have hv : validB T = false := by simpa using hc
    have hX : pathX T n l = 1 := by unfold pathX; rw [hv]; rfl
    unfold pathV
    rw [hX]
    refine W_cs (.a 3 rfl <| .k [6, 7, 8] rfl) ?_
    refine W_ret ?_
    exact ⟨_, _, ResL.of rfl, Pur.pure, rfl⟩
  · have hv : validB T = true := by simpa using hc
    have hll := links_le hv
    refine W_skip ?_
    refine W_seq ?_
    refine W_csK 21 (.raw (.bool (g1 || g2))) [1, 2, 3] rfl ?_ ?_
    · refine .a 1 rfl <| .v (y_q rfl (hg1)) rfl <| .a 1 rfl <| ?_
      cases g1
      · exact .a 3 rfl <| .v (y_q rfl (hg2)) rfl <| .a 1 rfl <| .k [21, 1, 2, 3] rfl
      · exact .a 5 rfl <| .k [21, 1, 2, 3] rfl
    refine W_cond rfl (fun hc => ?_) (fun hc => ?_)
    · have hn : nodeB T n = false := by rw [hnb, hc]; rfl
      have hX : pathX T n l = 2 := by unfold pathX; rw [hv, hn]; rfl
      unfold pathV
      rw [hX]
      refine W_cs (.a 3 rfl <| .k [6, 7, 8] rfl) ?_
      refine W_ret ?_
      exact ⟨_, _, ResL.of rfl, Pur.pure, rfl⟩
    · have hn : nodeB T n = true := by rw [hnb, hc]; rfl
      have hX : pathX T n l = walkE T true n l := by unfold pathX; rw [hv, hn]; rfl
      obtain ⟨hn0, hn1⟩ := nodeB_iff.1 hn
      clear hnb hg1 hg2 hc
      obtain ⟨n, rfl⟩ := Int.eq_ofNat_of_zero_le hn0
      refine W_skip ?_
      refine W_cs (.a 1 rfl <| .k [1, 2, 3, 9] rfl) ?_
      refine W_seq ?_
      refine W_cs (.a 1 rfl <| .k [1, 2, 3, 9, 10] rfl) ?_
      refine W_block ?_
      refine W_k [1, 2, 3, 9, 10] rfl ?_
      refine W_loop (fun r s => ∃ (k x : Nat), k ≤ l.length ∧ r = l.length - k ∧ endL T n (l.take k) = (x : Int) ∧ (x : Int) < T.nodes ∧ 0 ≤ costL T (l.take k) ∧ costL T (l.take k) ≤ 65535 * (k : Int) ∧ walkE T true n l = walkE T (decide (k = 0)) x (l.drop k) ∧ s = ⟨[(1, num x), (2, intsV l), (3, .pin (topoP T) 0), (9, num (costL T (l.take k))), (10, num k)], []⟩) l.length ⟨0, n, by omega, by omega, rfl, hn1, by simp [costL_nil], by simp [costL_nil], rfl, rfl⟩ ?_
      rintro r s ⟨k, x, hk, rfl, hx, hxN, hc0, hc1, hw, rfl⟩
      refine W_seq ?_
      refine W_cs (.a 4 rfl <| .k [1, 2, 3, 9, 10, 25] rfl) ?_
      refine W_cond rfl (fun hy => ?_) (fun hy => ?_)
      · have hlt : k < l.length := by have := tt hy; omega
        rw [drop_cons l k hlt] at hw
        obtain ⟨p1, hp1⟩ : ∃ q, decide (l.getD k 0 < 0) = q := ⟨_, rfl⟩
        obtain ⟨p5, hp5⟩ : ∃ q, decide (2 * (T.links.length : Int) ≤ l.getD k 0) = q := ⟨_, rfl⟩
        refine W_skip ?_
        refine W_seq ?_
        refine W_block ?_
        refine W_seq ?_
        refine W_drsK mixed (by kernel_rfl) 41 (.raw (.bool (p1 || p5))) [1, 2, 3, 9, 10] rfl ?_ ?_
        · refine .a 2 rfl <| .v [28, 29] (y_ix (k) rfl) rfl rfl <| .v [30] (y_ld rfl (ints_get l k hlt)) rfl rfl <| .v [31] (y_q rfl (hp1)) rfl rfl <| .a 1 rfl <| ?_
          cases p1
          · exact .a 2 rfl <| .v [34, 35] (y_ix (k) rfl) rfl rfl <| .v [36] (y_ld rfl (ints_get l k hlt)) rfl rfl <| .a 1 rfl <| .v [38] (y_c rfl (rarcs_can T hv)) rfl rfl <| .v [37, 39] (y_q rfl (hp5)) rfl rfl <| .a 1 rfl <| .k [41, 1, 2, 3, 9, 10] rfl
          · exact .a 8 rfl <| .k [41, 1, 2, 3, 9, 10] rfl
        refine W_cond rfl (fun hz => ?_) (fun hz => ?_)
        · have hna := rtail_no hp1 hp5 hz
          have hw2 : walkE T true n l = 2 := by rw [hw]; simp only [walkE]; rw [if_pos (by unfold arcB; exact decide_eq_false hna)]
          unfold pathV
          rw [hX, hw2]
          refine W_cs (.a 3 rfl <| .k [6, 7, 8] rfl) ?_
          refine W_ret ?_
          exact ⟨_, _, ResL.of rfl, Pur.pure, rfl⟩
        · have hpa : arcB T (l.getD k 0) = true := arcB_iff.2 (rtail_yes hp1 hp5 hz)
          obtain ⟨⟨hco0, hco1⟩, y, hyh, hyN⟩ := arc_facts hv hpa
          have hsN := endL_step T n l k hlt
          have hsC := costL_step T l k hlt
          obtain ⟨p2, hp2⟩ : ∃ q, decide (tailN T (l.getD k 0).toNat ≠ (x : Int)) = q := ⟨_, rfl⟩
          obtain ⟨p3, hp3⟩ : ∃ q, decide (0 < (k : Int)) = q := ⟨_, rfl⟩
          obtain ⟨p4, hp4⟩ : ∃ q, overN T x = q := ⟨_, rfl⟩
          refine W_skip ?_
          refine W_seq ?_
          refine W_drsK mixed (by kernel_rfl) 58 (.raw (.bool (p2 || (p3 && p4)))) [2, 3, 9, 10] rfl ?_ ?_
          · refine .a 3 rfl <| .v [43, 44] (y_ix (k) rfl) rfl rfl <| .v [45] (y_ld rfl (ints_get l k hlt)) rfl rfl <| .v [42, 46] (y_c rfl (rtailI_can T hv _ hpa)) rfl rfl <| .a 1 rfl <| .v [47, 48] (y_q rfl (hp2)) rfl rfl <| .a 1 rfl <| ?_
            cases p2
            · refine .a 1 rfl <| .v [51] (y_q rfl (hp3)) rfl rfl <| .a 1 rfl <| ?_
              cases p3
              · exact .a 5 rfl <| .k [58, 2, 3, 9, 10] rfl
              · exact .a 2 rfl <| .v [54, 55] (y_c rfl (hp4 ▸ rover_can T hv x)) rfl rfl <| .a 2 rfl <| .k [58, 2, 3, 9, 10] rfl
            · exact .a 8 rfl <| .k [58, 2, 3, 9, 10] rfl
          refine W_cond rfl (fun hb => ?_) (fun hb => ?_)
          · have hw4 : walkE T true n l = 4 := by
              rw [hw]
              refine walk_bad hpa ?_
              rcases Bool.or_eq_true_iff.1 hb with h | h
              · rw [h] at hp2; exact .inl (tt hp2)
              · obtain ⟨h3, h4⟩ := Bool.and_eq_true_iff.1 h
                rw [h3] at hp3
                rw [h4] at hp4
                exact .inr ⟨decide_eq_false (by have := tt hp3; omega), by rw [Int.toNat_natCast]; exact hp4⟩
            unfold pathV
            rw [hX, hw4]
            refine W_cs (.a 3 rfl <| .k [6, 7, 8] rfl) ?_
            refine W_ret ?_
            exact ⟨_, _, ResL.of rfl, Pur.pure, rfl⟩
          · obtain ⟨b2, b3⟩ := Bool.or_eq_false_iff.1 hb
            rw [b2] at hp2
            have ht : tailN T (l.getD k 0).toNat = (x : Int) := Classical.byContradiction (ff hp2)
            have hws := walk_step (T := T) (f := decide (k = 0)) (n := (x : Int)) (l := l.drop (k + 1)) hpa ht (by
              rcases Bool.and_eq_false_iff.1 b3 with h | h
              · rw [h] at hp3; exact .inl (decide_eq_true (by have := ff hp3; omega))
              · rw [h] at hp4; exact .inr (by rw [Int.toNat_natCast]; exact hp4))
            rw [hws, hyh] at hw
            have hh := rheadI_can T hv _ hpa
            rw [hyh] at hh
            refine W_skip ?_
            refine W_drs mixed (by kernel_rfl) (.a 4 rfl <| .v [61, 62] (y_ix (k) rfl) rfl rfl <| .v [63] (y_ld rfl (ints_get l k hlt)) rfl rfl <| .v [60, 64] (y_c rfl (rcostI_can T hv _ hpa)) rfl rfl <| .v [59, 65] (y_ar rfl (hc := hsC.symm) (hn := by unfold In64; omega)) rfl rfl <| .a 1 rfl <| .k [2, 3, 9, 10] rfl) ?_
            refine W_dr mixed (by kernel_rfl) (.a 3 rfl <| .v [68, 69] (y_ix (k) rfl) rfl rfl <| .v [70] (y_ld rfl (ints_get l k hlt)) rfl rfl <| .v [67, 71] (y_c rfl (hh)) rfl rfl <| .a 1 rfl <| .k [1, 2, 3, 9, 10] rfl) ?_
            refine W_chain (.a 1 rfl <| .v (y_ar rfl) rfl <| .a 1 rfl <| .k [1, 2, 3, 9, 10] rfl) ?_
            exact ⟨l.length - (k + 1), by omega, k + 1, y, by omega, rfl, by rw [hsN, hyh], hyN, by omega, by omega, by rw [hw]; rfl, rfl⟩
      · have hke : k = l.length := by have := ff hy; omega
        subst hke
        rw [List.drop_length] at hw
        rw [List.take_length] at hx ⊢
        unfold pathV
        rw [hX, hw]
        simp only [walkE, if_true]
        rw [hx]
        refine W_exit ?_
        refine W_cs (.a 5 rfl <| .k [6, 7, 8] rfl) ?_
        refine W_ret ?_
        exact ⟨_, _, ResL.of rfl, Pur.pure, rfl⟩
end PW
end Go.Proofs.YtbpgndbjbaoolaaGreat

/- graph.Leaving: for each node its arcs. -/
namespace Go.Proofs.YtbpgndbjbaoolaaGreat
set_option linter.unusedVariables false
set_option linter.unusedSimpArgs false
namespace PW
open Go.RowKit Reg Mem Net

set_option maxRecDepth 10000 in
set_option maxHeartbeats 1000000 in
theorem leaving_can (T : Topo) (hv : validB T = true) : Can Tryz.prog 124 [topoV T] (· = rowsV (rowsL (tailN T) T.nodes.toNat (2 * T.links.length))) := by
  have hbd := valid_bd hv
  have hS := sound_of hv
  obtain ⟨n, hn⟩ : ∃ n : Nat, T.nodes = (n : Int) := ⟨T.nodes.toNat, by omega⟩
  rw [show T.nodes.toNat = n by omega]
  refine can_of Tryz.func124 rfl Tryz.ntmps124 rfl ?_
  refine W_cs (.a 2 rfl <| .k [1] rfl) ?_
  refine W_rs ?_
  refine WR_a 2 rfl <| WR_l (l_make rfl (fok.rk.get rfl) rfl rfl hn hn ⟨by unfold maxLen; omega, by omega⟩) rfl <| WR_a 1 rfl <| WR_k [1, 3] rfl ?_
  refine W_adoptRows 33 3 n ?_
  refine W_seq ?_
  refine W_cs (.a 1 rfl <| .c rfl (arcs_can T (by omega)) rfl <| .a 1 rfl <| .k [1, 3, 10, 11] rfl) ?_
  refine W_block ?_
  refine W_k [1, 3, 10, 11] rfl ?_
  refine W_loop (fun r s => ∃ k, k ≤ 2 * T.links.length ∧ r = 2 * T.links.length - k ∧ s = ⟨[(1, .pin (topoP T) 0), (3, .own 0), (10, num (2 * (T.links.length : Int))), (11, num k)], rsto 33 3 (rowsL (tailN T) n k)⟩) (2 * T.links.length) ⟨0, by omega, by omega, by rw [rowsL_zero]; rfl⟩ ?_
  rintro r s ⟨k, hk, rfl, rfl⟩
  refine W_cs (.a 1 rfl <| .k [1, 3, 10, 11, 12] rfl) ?_
  refine W_seq ?_
  refine W_cond rfl (fun hc => ?_) (fun hc => ?_)
  · have hlt : k < 2 * T.links.length := by have := of_decide_eq_true hc; omega
    obtain ⟨hd0, hhN⟩ := hS.tail k hlt
    obtain ⟨m, hm⟩ := Int.eq_ofNat_of_zero_le hd0
    have hmn : m < n := by omega
    have hrl := rowsL_len (tailN T) n k
    have hgl : ((rowsL (tailN T) n k).getD m []).length ≤ k := by
      rw [rowsL_get _ _ _ _ hmn]
      simp only [List.length_map]
      exact Nat.le_trans (List.length_filter_le _ _) (by simp)
    refine W_skip ?_
    refine W_seq ?_
    refine W_block ?_
    refine W_cs (.a 2 rfl <| .k [1, 3, 4, 10, 11] rfl) ?_
    refine W_cs (.a 2 rfl <| .c rfl (hm ▸ tail_can T k hlt) rfl <| .a 1 rfl <| .k [1, 3, 4, 5, 10, 11] rfl) ?_
    refine W_region ?_
    refine WR_a 4 rfl <| WR_v (y_ix (m) rfl) rfl <| WR_v (y_ld rfl (owns_get _ m (by omega))) rfl <| WR_a 2 rfl <| WR_l (l_append rfl (fok.rk.get rfl) rfl (rsto_get _ _ _ m (by omega)) rfl rfl ⟨by unfold maxLen; omega, by omega⟩) rfl <| WR_v (y_ix (m) rfl) rfl <| WR_loud0 (l_store1 rfl (fok.tk.get rfl) rfl rfl rfl (by show m < (ownsP _).length; simp [ownsP]; omega)) rfl rfl <| WR_k [1, 3, 10, 11] rfl ?_
    refine W_ren (rfs (rowsL (tailN T) n k).length m) (.cons 1 rfl Ren.pure <| .cons 3 rfl (Ren.own (i := 0) rfl) <| .cons 10 rfl Ren.pure <| .cons 11 rfl Ren.pure <| .nil) (rsto_ren 33 3 (rowsL (tailN T) n k) m (by omega) (k : Int)) (rfs_nodup _ _) rfl ?_
    rw [← rowsL_step (tailN T) n k m hm hmn]
    refine W_chain (.v (y_ar rfl) rfl <| .a 1 rfl <| .k [1, 3, 10, 11] rfl) ?_
    exact ⟨2 * T.links.length - (k + 1), by omega, k + 1, by omega, rfl, rfl⟩
  · have hke : k = 2 * T.links.length := by have := of_decide_eq_false hc; omega
    subst hke
    refine W_exit ?_
    refine W_cs (.a 2 rfl <| .k [2] rfl) ?_
    refine W_ret ?_
    exact ⟨_, _, ResL.of rfl, rsto_pur _ _ _, rfl⟩
end PW
end Go.Proofs.YtbpgndbjbaoolaaGreat
