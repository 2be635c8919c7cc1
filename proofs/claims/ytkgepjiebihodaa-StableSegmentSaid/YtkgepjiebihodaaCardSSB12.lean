/- StableSegment returns true for every input: Segment reports whether any node segment is stable. No conditions. -/
import Derived.Test.YtkgepjiebihodaaCardSSB11
/- The laws of layer 28, walked: List, Least, Encode, Segment. -/
namespace Go.Proofs.Ytkgepjiebihodaa
set_option linter.unusedVariables false
set_option linter.unusedSimpArgs false
namespace PW
open Go.RowKit Reg Mem Net

def smallQ (c : Qry) : Prop := c.T.nodes ≤ 12 ∧ c.T.links.length ≤ 20 ∧ c.D.length ≤ 60
def largeQ (c : Qry) : Bool := (decide ((12 : Int) < c.T.nodes) || decide ((20 : Int) < c.T.links.length)) || decide ((60 : Int) < c.D.length)
theorem largeQ_small {c : Qry} (h : largeQ c = false) : smallQ c := by
  unfold largeQ at h
  simp only [Bool.or_eq_false_iff, decide_eq_false_iff_not] at h
  unfold smallQ
  omega
def smallW (c : Wy) : Prop := c.T.nodes ≤ 12 ∧ c.T.links.length ≤ 20 ∧ c.D.length ≤ 60 ∧ c.p.length ≤ 20
def longW (c : Wy) : Bool := ((decide ((12 : Int) < c.T.nodes) || decide ((20 : Int) < c.T.links.length)) || decide ((60 : Int) < c.D.length)) || decide ((20 : Int) < c.p.length)
theorem longW_small {c : Wy} (h : longW c = false) : smallW c := by
  unfold longW at h
  simp only [Bool.or_eq_false_iff, decide_eq_false_iff_not] at h
  unfold smallW
  omega
set_option maxRecDepth 10000 in
set_option maxHeartbeats 1000000 in
theorem large28_can (c : Qry) : Can Try.prog 18 [qryV c] (· = flag (largeQ c)) := by
  obtain ⟨q1, h1⟩ : ∃ q, decide ((12 : Int) < c.T.nodes) = q := ⟨_, rfl⟩
  obtain ⟨q2, h2⟩ : ∃ q, decide ((20 : Int) < c.T.links.length) = q := ⟨_, rfl⟩
  obtain ⟨q3, h3⟩ : ∃ q, decide ((60 : Int) < c.D.length) = q := ⟨_, rfl⟩
  have he : largeQ c = ((q1 || q2) || q3) := by unfold largeQ; rw [h1, h2, h3]
  rw [he]
  refine can_of Try.func18 rfl Try.ntmps18 rfl ?_
  refine W_cs (.a 2 rfl <| .k [1] rfl) ?_
  refine W_csK 2 (.raw (.bool ((q1 || q2) || q3))) [] rfl ?_ ?_
  · refine .a 3 rfl <| .v (y_q rfl (h1)) rfl <| .a 1 rfl <| ?_
    cases q1
    · refine .a 4 rfl <| .v (y_q rfl (h2)) rfl <| .a 2 rfl <| ?_
      cases q2
      · exact .a 3 rfl <| .v (y_q rfl (h3)) rfl <| .a 2 rfl <| .k [2] rfl
      · exact .a 6 rfl <| .k [2] rfl
    · exact .a 13 rfl <| .k [2] rfl
  refine W_ret ?_
  exact ⟨_, _, ResL.of rfl, Pur.pure, rfl⟩
set_option maxRecDepth 10000 in
set_option maxHeartbeats 1000000 in
theorem long28_can (c : Wy) : Can Try.prog 11 [wyV c] (· = flag (longW c)) := by
  obtain ⟨q1, h1⟩ : ∃ q, decide ((12 : Int) < c.T.nodes) = q := ⟨_, rfl⟩
  obtain ⟨q2, h2⟩ : ∃ q, decide ((20 : Int) < c.T.links.length) = q := ⟨_, rfl⟩
  obtain ⟨q3, h3⟩ : ∃ q, decide ((60 : Int) < c.D.length) = q := ⟨_, rfl⟩
  obtain ⟨q4, h4⟩ : ∃ q, decide ((20 : Int) < c.p.length) = q := ⟨_, rfl⟩
  have he : longW c = (((q1 || q2) || q3) || q4) := by unfold longW; rw [h1, h2, h3, h4]
  rw [he]
  refine can_of Try.func11 rfl Try.ntmps11 rfl ?_
  refine W_cs (.a 2 rfl <| .k [1] rfl) ?_
  refine W_csK 2 (.raw (.bool (((q1 || q2) || q3) || q4))) [] rfl ?_ ?_
  · refine .a 3 rfl <| .v (y_q rfl (h1)) rfl <| .a 1 rfl <| ?_
    cases q1
    · refine .a 4 rfl <| .v (y_q rfl (h2)) rfl <| .a 2 rfl <| ?_
      cases q2
      · refine .a 3 rfl <| .v (y_q rfl (h3)) rfl <| .a 2 rfl <| ?_
        cases q3
        · exact .a 3 rfl <| .v (y_q rfl (h4)) rfl <| .a 2 rfl <| .k [2] rfl
        · exact .a 6 rfl <| .k [2] rfl
      · exact .a 12 rfl <| .k [2] rfl
    · exact .a 19 rfl <| .k [2] rfl
  refine W_ret ?_
  exact ⟨_, _, ResL.of rfl, Pur.pure, rfl⟩
set_option maxRecDepth 10000 in
set_option maxHeartbeats 1000000 in
theorem lawSList_can (c : Wy) : Can Try.prog 3 [wyV c] (· = flag true) := by
  obtain ⟨w1, hw1⟩ : ∃ q, q = true := ⟨_, rfl⟩
  have haw : Can Try.prog 10 [] (· = flag w1) := hw1 ▸ awake28_can
  obtain ⟨w2, hw2⟩ : ∃ q, longW c = q := ⟨_, rfl⟩
  refine can_of Try.func3 rfl Try.ntmps3 rfl ?_
  refine W_cs (.a 2 rfl <| .k [1] rfl) ?_
  refine W_seq ?_
  refine W_csK 12 (.raw (.bool ((!w1) || w2))) [1] rfl ?_ ?_
  · refine .c rfl (haw) rfl <| .a 2 rfl <| ?_
    cases w1
    · exact .a 3 rfl <| .k [12, 1] rfl
    · exact .a 1 rfl <| .c rfl (hw2 ▸ long28_can c) rfl <| .a 1 rfl <| .k [12, 1] rfl
  refine W_cond rfl (fun hc => ?_) (fun hc => ?_)
  · skip
    refine W_cs (.c rfl (awake28_can) rfl <| .a 1 rfl <| .k [2] rfl) ?_
    refine W_ret ?_
    exact ⟨_, _, ResL.of rfl, Pur.pure, rfl⟩
  · have hy : longW c = false := by rw [hw2]; exact (Bool.or_eq_false_iff.1 hc).2
    obtain ⟨s1, s2, s3, s4⟩ := longW_small hy
    obtain ⟨q1, h1⟩ : ∃ q, decide (folE c.T c.D c.n c.p = folE c.T c.D c.n c.p) = q := ⟨_, rfl⟩
    have hq1 : q1 = true := by rw [← h1]; exact decide_eq_true rfl
    obtain ⟨L, hL⟩ : ∃ L, (if folE c.T c.D c.n c.p = 0 then lstL c.T [] c.n c.p else []) = L := ⟨_, rfl⟩
    have he1 : Can Try.prog 12 [topoV c.T, boolsV c.D, intsV c.p, num c.n] (· = .tuple [segsV L, num (folE c.T c.D c.n c.p)]) := hL ▸ slist_can c.T c.D c.p c.n (by omega) (by omega) s1
    have he2 : Can Try.prog 13 [topoV c.T, boolsV c.D, intsV c.p, num c.n] (· = .tuple [segsV L, num (folE c.T c.D c.n c.p)]) := hL ▸ rslist_can c.T c.D c.p c.n (by omega) s1
    have he3 : Can Try.prog 14 [segsV L, segsV L] (· = flag true) := by
      have := rsegs_can L L
      rw [decide_eq_true rfl] at this
      exact this
    obtain ⟨q2, hq2⟩ : ∃ q, q = true := ⟨_, rfl⟩
    rw [← hq2] at he3
    refine W_skip ?_
    refine W_cs (.a 8 rfl <| .c rfl (he1) rfl <| .a 5 rfl <| .k [1, 3, 4] rfl) ?_
    refine W_cs (.a 8 rfl <| .c rfl (he2) rfl <| .a 5 rfl <| .k [3, 4, 5, 6] rfl) ?_
    refine W_csK 2 (.raw (.bool (q1 && q2))) [] rfl ?_ ?_
    · refine .a 2 rfl <| .v (y_q rfl (h1)) rfl <| .a 1 rfl <| ?_
      cases q1
      · exact .a 5 rfl <| .k [2] rfl
      · exact .a 2 rfl <| .c rfl (he3) rfl <| .a 2 rfl <| .k [2] rfl
    refine W_ret ?_
    exact ⟨_, _, ResL.of rfl, Pur.pure, by rw [hq1, hq2]; rfl⟩
set_option maxRecDepth 10000 in
set_option maxHeartbeats 1000000 in
theorem lawSLeast_can (c : Wy) : Can Try.prog 4 [wyV c] (· = flag true) := by
  obtain ⟨w1, hw1⟩ : ∃ q, q = true := ⟨_, rfl⟩
  have haw : Can Try.prog 10 [] (· = flag w1) := hw1 ▸ awake28_can
  obtain ⟨w2, hw2⟩ : ∃ q, longW c = q := ⟨_, rfl⟩
  refine can_of Try.func4 rfl Try.ntmps4 rfl ?_
  refine W_cs (.a 2 rfl <| .k [1] rfl) ?_
  refine W_seq ?_
  refine W_csK 10 (.raw (.bool ((!w1) || w2))) [1] rfl ?_ ?_
  · refine .c rfl (haw) rfl <| .a 2 rfl <| ?_
    cases w1
    · exact .a 3 rfl <| .k [10, 1] rfl
    · exact .a 1 rfl <| .c rfl (hw2 ▸ long28_can c) rfl <| .a 1 rfl <| .k [10, 1] rfl
  refine W_cond rfl (fun hc => ?_) (fun hc => ?_)
  · skip
    refine W_cs (.c rfl (awake28_can) rfl <| .a 1 rfl <| .k [2] rfl) ?_
    refine W_ret ?_
    exact ⟨_, _, ResL.of rfl, Pur.pure, rfl⟩
  · have hy : longW c = false := by rw [hw2]; exact (Bool.or_eq_false_iff.1 hc).2
    obtain ⟨s1, s2, s3, s4⟩ := longW_small hy
    obtain ⟨L, hL⟩ : ∃ L, (if folE c.T c.D c.n c.p = 0 then lstL c.T [] c.n c.p else []) = L := ⟨_, rfl⟩
    have he1 : Can Try.prog 12 [topoV c.T, boolsV c.D, intsV c.p, num c.n] (· = .tuple [segsV L, num (folE c.T c.D c.n c.p)]) := hL ▸ slist_can c.T c.D c.p c.n (by omega) (by omega) s1
    refine W_skip ?_
    refine W_cs (.a 8 rfl <| .c rfl (he1) rfl <| .a 5 rfl <| .k [1, 3, 4] rfl) ?_
    refine W_seq ?_
    refine W_cs (.a 2 rfl <| .k [1, 3, 25] rfl) ?_
    refine W_cond rfl (fun hz => ?_) (fun hz => ?_)
    · have he : folE c.T c.D c.n c.p ≠ 0 := tt hz
      rw [if_neg he] at hL
      subst hL
      refine W_cs (.a 4 rfl <| .k [2] rfl) ?_
      refine W_ret ?_
      exact ⟨_, _, ResL.of rfl, Pur.pure, rfl⟩
    · have he : folE c.T c.D c.n c.p = 0 := Classical.byContradiction (ff hz)
      rw [if_pos he] at hL
      have hF := fol_of he
      have hgl : gN c.T [] c.n c.p 0 = L.length := by rw [← hL]; rfl
      have hLl : L.length ≤ c.p.length := by rw [← hL]; exact lst_len _ _
      have hck : ckE c.T c.D L c.n c.p = true := by
        unfold ckE
        rw [if_pos he, ck_iff hF.bare L 0 (Nat.zero_le _), ← hL, Bool.and_eq_true]
        exact ⟨ex_lst hF.bare _ 0 (Nat.zero_le _) (by omega), deg_lst hF.bare _ 0 (Nat.zero_le _)⟩
      have hle := rsleast_can c.T c.D c.p c.n hF (by omega) s1
      rw [hgl] at hle
      obtain ⟨q1, h1⟩ : ∃ q, decide ((L.length : Int) = (L.length : Int)) = q := ⟨_, rfl⟩
      have hq1 : q1 = true := by rw [← h1]; exact decide_eq_true rfl
      obtain ⟨q2, h2⟩ : ∃ q, ckE c.T c.D L c.n c.p = q := ⟨_, rfl⟩
      have hq2 : q2 = true := by rw [← h2]; exact hck
      obtain ⟨q3, h3⟩ : ∃ q, decide ((L.length : Int) ≤ (c.p.length : Int)) = q := ⟨_, rfl⟩
      have hq3 : q3 = true := by rw [← h3]; exact decide_eq_true (by omega)
      refine W_skip ?_
      refine W_csK 2 (.raw (.bool ((q1 && q2) && q3))) [] rfl ?_ ?_
      · refine .a 8 rfl <| .c rfl (hle) rfl <| .v (y_q rfl (h1)) rfl <| .a 1 rfl <| ?_
        cases q1
        · exact .a 20 rfl <| .k [2] rfl
        · refine .a 9 rfl <| .c rfl (h2 ▸ rck_can c.T c.D L c.n c.p (by omega) s1 (by omega)) rfl <| .a 2 rfl <| ?_
          cases q2
          · exact .a 8 rfl <| .k [2] rfl
          · exact .a 5 rfl <| .v (y_q rfl (h3)) rfl <| .a 2 rfl <| .k [2] rfl
      refine W_ret ?_
      exact ⟨_, _, ResL.of rfl, Pur.pure, by rw [hq1, hq2, hq3]; rfl⟩
set_option maxRecDepth 10000 in
set_option maxHeartbeats 1000000 in
theorem lawSEncode_can (c : Wy) : Can Try.prog 5 [wyV c] (· = flag true) := by
  obtain ⟨w1, hw1⟩ : ∃ q, q = true := ⟨_, rfl⟩
  have haw : Can Try.prog 10 [] (· = flag w1) := hw1 ▸ awake28_can
  obtain ⟨w2, hw2⟩ : ∃ q, longW c = q := ⟨_, rfl⟩
  refine can_of Try.func5 rfl Try.ntmps5 rfl ?_
  refine W_cs (.a 2 rfl <| .k [1] rfl) ?_
  refine W_seq ?_
  refine W_csK 14 (.raw (.bool ((!w1) || w2))) [1] rfl ?_ ?_
  · refine .c rfl (haw) rfl <| .a 2 rfl <| ?_
    cases w1
    · exact .a 3 rfl <| .k [14, 1] rfl
    · exact .a 1 rfl <| .c rfl (hw2 ▸ long28_can c) rfl <| .a 1 rfl <| .k [14, 1] rfl
  refine W_cond rfl (fun hc => ?_) (fun hc => ?_)
  · skip
    refine W_cs (.c rfl (awake28_can) rfl <| .a 1 rfl <| .k [2] rfl) ?_
    refine W_ret ?_
    exact ⟨_, _, ResL.of rfl, Pur.pure, rfl⟩
  · have hy : longW c = false := by rw [hw2]; exact (Bool.or_eq_false_iff.1 hc).2
    obtain ⟨s1, s2, s3, s4⟩ := longW_small hy
    obtain ⟨L, hL⟩ : ∃ L, (if folE c.T [] c.n c.p = 0 then lstL c.T [] c.n c.p else []) = L := ⟨_, rfl⟩
    obtain ⟨M, hM⟩ : ∃ M, (if folE c.T c.D c.n c.p = 0 then lstL c.T [] c.n c.p else []) = M := ⟨_, rfl⟩
    have he1 : Can Try.prog 17 [topoV c.T, boolsV [], intsV c.p, num c.n] (· = .tuple [segsV L, num (folE c.T [] c.n c.p)]) := hL ▸ elist_can c.T [] c.p c.n (by omega) (by omega) s1
    have he2 : Can Try.prog 12 [topoV c.T, boolsV [], intsV c.p, num c.n] (· = .tuple [segsV L, num (folE c.T [] c.n c.p)]) := hL ▸ slist_can c.T [] c.p c.n (by omega) (by omega) s1
    have he3 : Can Try.prog 12 [topoV c.T, boolsV c.D, intsV c.p, num c.n] (· = .tuple [segsV M, num (folE c.T c.D c.n c.p)]) := hM ▸ slist_can c.T c.D c.p c.n (by omega) (by omega) s1
    have he4 : Can Try.prog 14 [segsV L, segsV L] (· = flag true) := by
      have := rsegs_can L L
      rw [decide_eq_true rfl] at this
      exact this
    obtain ⟨q2, hq2⟩ : ∃ q, q = true := ⟨_, rfl⟩
    rw [← hq2] at he4
    obtain ⟨q1, h1⟩ : ∃ q, decide (folE c.T [] c.n c.p = folE c.T [] c.n c.p) = q := ⟨_, rfl⟩
    have hq1 : q1 = true := by rw [← h1]; exact decide_eq_true rfl
    obtain ⟨q3, h3⟩ : ∃ q, decide (folE c.T c.D c.n c.p ≠ 0) = q := ⟨_, rfl⟩
    obtain ⟨q4, h4⟩ : ∃ q, decide (folE c.T [] c.n c.p = 0) = q := ⟨_, rfl⟩
    obtain ⟨q5, h5⟩ : ∃ q, decide ((L.length : Int) ≤ (M.length : Int)) = q := ⟨_, rfl⟩
    have hfin : (q3 || (q4 && q5)) = true := by
      by_cases he : folE c.T c.D c.n c.p = 0
      · have hb := folB he
        rw [if_pos hb] at hL
        rw [if_pos he] at hM
        rw [decide_eq_true hb] at h4
        have e5 : q5 = true := by rw [← h5, ← hL, ← hM]; exact decide_eq_true (Int.le_refl _)
        rw [← h4, e5]
        simp
      · rw [decide_eq_true he] at h3
        rw [← h3]
        rfl
    refine W_skip ?_
    refine W_cs (.a 6 rfl <| .v (y_cP rfl (PurL.cons Pur.pure <| PurL.cons Pur.nils <| PurL.cons Pur.pure <| PurL.cons Pur.pure PurL.nil) (he1)) rfl <| .a 5 rfl <| .k [1, 3, 4] rfl) ?_
    refine W_cs (.a 6 rfl <| .v (y_cP rfl (PurL.cons Pur.pure <| PurL.cons Pur.nils <| PurL.cons Pur.pure <| PurL.cons Pur.pure PurL.nil) (he2)) rfl <| .a 5 rfl <| .k [1, 3, 4, 5, 6] rfl) ?_
    refine W_cs (.a 8 rfl <| .c rfl (he3) rfl <| .a 5 rfl <| .k [3, 4, 5, 6, 7, 8] rfl) ?_
    refine W_csK 2 (.raw (.bool ((q1 && q2) && (q3 || (q4 && q5))))) [] rfl ?_ ?_
    · refine .a 2 rfl <| .v (y_q rfl (h1)) rfl <| .a 1 rfl <| ?_
      cases q1
      · exact .a 20 rfl <| .k [2] rfl
      · refine .a 2 rfl <| .c rfl (he4) rfl <| .a 2 rfl <| ?_
        cases q2
        · exact .a 15 rfl <| .k [2] rfl
        · refine .a 1 rfl <| .v (y_q rfl (h3)) rfl <| .a 1 rfl <| ?_
          cases q3
          · refine .a 1 rfl <| .v (y_q rfl (h4)) rfl <| .a 1 rfl <| ?_
            cases q4
            · exact .a 9 rfl <| .k [2] rfl
            · exact .a 4 rfl <| .v (y_q rfl (h5)) rfl <| .a 4 rfl <| .k [2] rfl
          · exact .a 12 rfl <| .k [2] rfl
    refine W_ret ?_
    exact ⟨_, _, ResL.of rfl, Pur.pure, by rw [hq1, hq2, hfin]; rfl⟩
set_option maxRecDepth 10000 in
set_option maxHeartbeats 1000000 in
theorem lawSSegment_can (c : Qry) : Can Try.prog 6 [qryV c] (· = flag true) := by
  obtain ⟨w1, hw1⟩ : ∃ q, q = true := ⟨_, rfl⟩
  have haw : Can Try.prog 10 [] (· = flag w1) := hw1 ▸ awake28_can
  obtain ⟨w2, hw2⟩ : ∃ q, largeQ c = q := ⟨_, rfl⟩
  refine can_of Try.func6 rfl Try.ntmps6 rfl ?_
  refine W_cs (.a 2 rfl <| .k [1] rfl) ?_
  refine W_seq ?_
  refine W_csK 8 (.raw (.bool ((!w1) || w2))) [1] rfl ?_ ?_
  · refine .c rfl (haw) rfl <| .a 2 rfl <| ?_
    cases w1
    · exact .a 3 rfl <| .k [8, 1] rfl
    · exact .a 1 rfl <| .c rfl (hw2 ▸ large28_can c) rfl <| .a 1 rfl <| .k [8, 1] rfl
  refine W_cond rfl (fun hc => ?_) (fun hc => ?_)
  · skip
    refine W_cs (.c rfl (awake28_can) rfl <| .a 1 rfl <| .k [2] rfl) ?_
    refine W_ret ?_
    exact ⟨_, _, ResL.of rfl, Pur.pure, rfl⟩
  · have hy : largeQ c = false := by rw [hw2]; exact (Bool.or_eq_false_iff.1 hc).2
    obtain ⟨s1, s2, s3⟩ := largeQ_small hy
    obtain ⟨q, hq⟩ : ∃ q, sgB c.T c.D c.x c.y = q := ⟨_, rfl⟩
    refine W_skip ?_
    refine W_drs mixed (by kernel_rfl) (.a 8 rfl <| .v [11, 13, 15, 17] (y_c rfl (hq ▸ sseg_can c.T c.D c.x c.y s1 (by omega))) rfl rfl <| .a 8 rfl <| .v [20, 22, 24, 26] (y_c rfl (hq ▸ rsseg_can c.T c.D c.x c.y s1)) rfl rfl <| .a 2 rfl <| .k [2] rfl) ?_
    refine W_ret ?_
    exact ⟨_, _, ResL.of rfl, Pur.pure, by cases q <;> rfl⟩
end PW
end Go.Proofs.Ytkgepjiebihodaa

namespace Go.Proofs.Ytkgepjiebihodaa.stableSegment
set_option linter.unusedVariables false
set_option linter.unusedSimpArgs false
open Go.ChangeShapes Go.WideShapes Go.ChangeAt Go.RowKit
open Reg Mem PW

set_option maxRecDepth 100000 in
theorem lifted (os : Os) (started : os.Started) (H : Type) (enc : TypeId × Value → H) :
    ReturnsInHanded {} Try.checked os 6 .any (Rows.stableSegmentSpec.pre6 enc Try.prog Try.f6 Rows.stableSegmentRow.domain false) (Rows.stableSegmentSpec.post enc Try.prog Try.f6 false true false false) := by
  refine returnsInHanded_of_change (C := Try.checked) own started (by kernel_rfl) Try.func6
    (ChangeSpec.witness6 (enc := enc) (C := Try.checked) false ⟨#[], #[.agg #[.int .i64 0, .slice none 0 0, .slice none 0 0, .slice none 0 0, .int .i64 0, .int .i64 0]], []⟩ 8 (by kernel_rfl) (by kernel_rfl) (by kernel_rfl) (by kernel_rfl)) ?_
  intro W base args ds gs before hval0 hW hcnd _
  have hval : ∀ (j : Nat) t v, Try.f6.params[j]? = some t → args[j]? = some v → Value.okWide Try.prog W .any base t v := hval0
  have hW' := hW
  obtain ⟨p, q, hA0, hV, rfl, hfz, hnd⟩ := hW
  have hA : DataW.TrodAll enc Try.prog W 0 (fun _ => true) true Try.f6.params.toList args.toList ds p := hA0
  rw [Try.params6] at hA hval
  obtain ⟨v0, vs0, d0, ds0, p0, q0, hargs, rfl, rfl, h0, r0⟩ := trodAll_cons hA
  obtain ⟨rfl, rfl, rfl⟩ := trodAll_nil r0
  obtain rfl : args = #[v0] := by cases args; simp_all
  obtain ⟨rfl, rfl⟩ := trodVars_none hV
  have lt0 := lt_of h0
  obtain ⟨c, R0⟩ := rd_query (hval 0 39 v0 rfl rfl) h0
  clear hA0 hval0
  refine ((lawSSegment_can c) (fun _ => False) W #[v0] (fun _ h => h.elim) (noGlob _ W) (RepL.cons R0 (RepL.nil _ _))).mono fun e W' ⟨x, he, bel, r, hr, hx⟩ => ?_
  subst hr
  cases hx
  subst he
  exact ⟨_, rfl, _, _, _, [], _, [], hW', trodAll_mk1 (shut_bool Try.underlying4 _), (trodAll_cons_mk (Below.trod laidOut (by kernel_rfl) (of_decide_eq_true (by kernel_rfl)) h0 bel lt0) trodAll_mk0), rfl, bel.frame _, fun h => by cases h⟩

theorem over : Rows.stableSegmentRow.holds Try.pinned (OpenSpec.ofChange Rows.stableSegmentSpec) :=
  OpenClaim.holds_of_wide 6 Try.f6 rfl rfl rfl rfl rfl rfl rfl ⟨rfl, rfl, rfl, rfl, rfl⟩ rfl rfl rfl rfl rfl (by kernel_rfl) Try.func6 (by kernel_rfl)
    (of_decide_eq_true (by kernel_rfl)) (by unfold Func.isWrapper; first | (rw [if_pos (by decide +kernel)]; kernel_rfl) | (rw [if_neg (by decide +kernel)]; exact ⟨rfl, rfl⟩))
    (fun os started H enc _ => lifted os started H enc)

theorem proved : Rows.StableSegmentSaid := over
end Go.Proofs.Ytkgepjiebihodaa.stableSegment
