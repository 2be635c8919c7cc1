/- StableParts returns true for every input: if a node segment is stable, so is that between any two nodes on its path, and so it is if fewer arcs fail. No conditions. -/
import Derived.Test.YtkgepjiebihodaaCardSPB11
/- The arguments of the laws of layer 28: a query, a way. -/
namespace Go.Proofs.Ytkgepjiebihodaa
set_option linter.unusedVariables false
set_option linter.unusedSimpArgs false
namespace PW
open Go.RowKit Reg Mem Net Go.WideShapes
/-- A topology with a mask and two nodes. -/
structure Qry where
  T : Topo
  D : List Bool
  x : Int
  y : Int
def qryP (c : Qry) : List PV := topoP c.T ++ [boolsV c.D, num c.x, num c.y]
def qryV (c : Qry) : PV := .agg (qryP c)
instance (c : Qry) : IsPureL (qryP c) := by unfold qryP; unfold topoP; simp only [List.cons_append, List.nil_append]; infer_instance
instance (c : Qry) : IsPure (qryV c) := by unfold qryV; infer_instance
/-- A path in a topology with a mask. -/
structure Wy where
  T : Topo
  D : List Bool
  p : List Int
  n : Int
def wyP (c : Wy) : List PV := topoP c.T ++ [boolsV c.D, intsV c.p, num c.n]
def wyV (c : Wy) : PV := .agg (wyP c)
instance (c : Wy) : IsPureL (wyP c) := by unfold wyP; unfold topoP; simp only [List.cons_append, List.nil_append]; infer_instance
instance (c : Wy) : IsPure (wyV c) := by unfold wyV; infer_instance
section
variable {H : Type} {enc : TypeId × Value → H} {W : World}
set_option maxRecDepth 10000 in
theorem rd_query {base : Nat} {v : Value} {d : DataW H} {p : List MemPlace} (hv : Value.okWide Try.prog W .any base 39 v) (h : DataW.Trod enc Try.prog W 0 (fun _ => true) true 39 v d p) : ∃ c : Qry, Rep EN W v (qryV c) := by
  have hC : Try.prog.cellsOf 39 = 6 := by kernel_rfl
  have k0 : Try.prog.cellsOf 25 = 3 := by kernel_rfl
  have k1 : Try.prog.cellsOf 22 = 1 := by kernel_rfl
  have k2 : Try.prog.cellsOf 3 = 1 := by kernel_rfl
  obtain ⟨cs, rfl, hsz⟩ := okWide_struct Try.underlying39 hv
  rw [hC] at hsz
  obtain ⟨fuel, hf⟩ := h
  obtain ⟨cl⟩ := cs
  match cl, hsz with
  | [c0, c1, c2, c3, c4, c5], _ =>
    obtain ⟨xs, m, _, _, _, hlen, hg⟩ := DataW.trod_struct Try.underlying39 hf
    match xs, hlen with
    | [y0, y1, y2, y3], _ =>
      have f0 : DataW.trod enc Try.prog W 0 (fun _ => true) true m 25 (([c0, c1, c2, c3, c4, c5].drop 0).take (Try.prog.cellsOf 25)) = some y0 := hg 0 _ rfl
      rw [k0] at f0
      have f1 : DataW.trod enc Try.prog W 0 (fun _ => true) true m 22 (([c0, c1, c2, c3, c4, c5].drop 3).take (Try.prog.cellsOf 22)) = some y1 := hg 1 _ rfl
      rw [k1] at f1
      have f2 : DataW.trod enc Try.prog W 0 (fun _ => true) true m 3 (([c0, c1, c2, c3, c4, c5].drop 4).take (Try.prog.cellsOf 3)) = some y2 := hg 2 _ rfl
      rw [k2] at f2
      have f3 : DataW.trod enc Try.prog W 0 (fun _ => true) true m 3 (([c0, c1, c2, c3, c4, c5].drop 5).take (Try.prog.cellsOf 3)) = some y3 := hg 3 _ rfl
      rw [k2] at f3
      obtain ⟨T, hT⟩ := rd_topo3 f0 rfl
      obtain ⟨D, hD⟩ := rd_bools f1
      obtain ⟨a, ha⟩ := rd_int f2
      obtain ⟨b, hb⟩ := rd_int f3
      simp at ha hb
      subst ha
      subst hb
      have hall : RepL EN W [c0, c1, c2, c3, .int .i64 a, .int .i64 b] (qryP ⟨T, D, a, b⟩) := hT.append (RepL.cons hD <| RepL.cons (.raw _) <| RepL.cons (.raw _) (RepL.nil _ _))
      exact ⟨⟨T, D, a, b⟩, .agg _ _ (by simpa using hall.1) (fun i x u h1 h2 => hall.2 i x u (by simpa using h1) h2)⟩
set_option maxRecDepth 10000 in
theorem rd_way {base : Nat} {v : Value} {d : DataW H} {p : List MemPlace} (hv : Value.okWide Try.prog W .any base 28 v) (h : DataW.Trod enc Try.prog W 0 (fun _ => true) true 28 v d p) : ∃ c : Wy, Rep EN W v (wyV c) := by
  have hC : Try.prog.cellsOf 28 = 6 := by kernel_rfl
  have k0 : Try.prog.cellsOf 25 = 3 := by kernel_rfl
  have k1 : Try.prog.cellsOf 22 = 1 := by kernel_rfl
  have k2 : Try.prog.cellsOf 3 = 1 := by kernel_rfl
  have k3 : Try.prog.cellsOf 26 = 1 := by kernel_rfl
  obtain ⟨cs, rfl, hsz⟩ := okWide_struct Try.underlying28 hv
  rw [hC] at hsz
  obtain ⟨fuel, hf⟩ := h
  obtain ⟨cl⟩ := cs
  match cl, hsz with
  | [c0, c1, c2, c3, c4, c5], _ =>
    obtain ⟨xs, m, _, _, _, hlen, hg⟩ := DataW.trod_struct Try.underlying28 hf
    match xs, hlen with
    | [y0, y1, y2, y3], _ =>
      have f0 : DataW.trod enc Try.prog W 0 (fun _ => true) true m 25 (([c0, c1, c2, c3, c4, c5].drop 0).take (Try.prog.cellsOf 25)) = some y0 := hg 0 _ rfl
      rw [k0] at f0
      have f1 : DataW.trod enc Try.prog W 0 (fun _ => true) true m 22 (([c0, c1, c2, c3, c4, c5].drop 3).take (Try.prog.cellsOf 22)) = some y1 := hg 1 _ rfl
      rw [k1] at f1
      have f2 : DataW.trod enc Try.prog W 0 (fun _ => true) true m 26 (([c0, c1, c2, c3, c4, c5].drop 4).take (Try.prog.cellsOf 26)) = some y2 := hg 2 _ rfl
      rw [k3] at f2
      have f3 : DataW.trod enc Try.prog W 0 (fun _ => true) true m 3 (([c0, c1, c2, c3, c4, c5].drop 5).take (Try.prog.cellsOf 3)) = some y3 := hg 3 _ rfl
      rw [k2] at f3
      obtain ⟨T, hT⟩ := rd_topo3 f0 rfl
      obtain ⟨D, hD⟩ := rd_bools f1
      obtain ⟨P, hP⟩ := rd_ints f2
      obtain ⟨b, hb⟩ := rd_int f3
      simp at hb
      subst hb
      have hall : RepL EN W [c0, c1, c2, c3, c4, .int .i64 b] (wyP ⟨T, D, P, b⟩) := hT.append (RepL.cons hD <| RepL.cons hP <| RepL.cons (.raw _) (RepL.nil _ _))
      exact ⟨⟨T, D, P, b⟩, .agg _ _ (by simpa using hall.1) (fun i x u h1 h2 => hall.2 i x u (by simpa using h1) h2)⟩
end
end PW
end Go.Proofs.Ytkgepjiebihodaa

/- The laws of layer 28, walked: List, Least, Encode, Segment. -/
namespace Go.Proofs.Ytkgepjiebihodaa
set_option linter.unusedVariables false
set_option linter.unusedSimpArgs false
namespace PW
open Go.RowKit Reg Mem Net

def smallQ (c : Qry) : Prop := c.T.nodes ≤ 12 ∧ c.T.links.length ≤ 20 ∧ c.D.length ≤ 60
def largeQ (c : Qry) : Bool := (decide ((12 : Int) < c.T.nodes) || decide ((20 : Int) < c.T.links.length)) || decide ((60 : Int) < c.D.length)
theorem largeQ_small {c : Qry} (h : largeQ c = false) : smallQ c := by
  unfold largeQ at h
  simp only [Bool.or_eq_false_iff, decide_eq_false_iff_not] at h
  unfold smallQ
  omega
def smallW (c : Wy) : Prop := c.T.nodes ≤ 12 ∧ c.T.links.length ≤ 20 ∧ c.D.length ≤ 60 ∧ c.p.length ≤ 20
def longW (c : Wy) : Bool := ((decide ((12 : Int) < c.T.nodes) || decide ((20 : Int) < c.T.links.length)) || decide ((60 : Int) < c.D.length)) || decide ((20 : Int) < c.p.length)
theorem longW_small {c : Wy} (h : longW c = false) : smallW c := by
  unfold longW at h
  simp only [Bool.or_eq_false_iff, decide_eq_false_iff_not] at h
  unfold smallW
  omega
set_option maxRecDepth 10000 in
set_option maxHeartbeats 1000000 in
theorem large28_can (c : Qry) : Can Try.prog 18 [qryV c] (· = flag (largeQ c)) := by
  obtain ⟨q1, h1⟩ : ∃ q, decide ((12 : Int) < c.T.nodes) = q := ⟨_, rfl⟩
  obtain ⟨q2, h2⟩ : ∃ q, decide ((20 : Int) < c.T.links.length) = q := ⟨_, rfl⟩
  obtain ⟨q3, h3⟩ : ∃ q, decide ((60 : Int) < c.D.length) = q := ⟨_, rfl⟩
  have he : largeQ c = ((q1 || q2) || q3) := by unfold largeQ; rw [h1, h2, h3]
  rw [he]
  refine can_of Try.func18 rfl Try.ntmps18 rfl ?_
  refine W_cs (.a 2 rfl <| .k [1] rfl) ?_
  refine W_csK 2 (.raw (.bool ((q1 || q2) || q3))) [] rfl ?_ ?_
  · refine .a 3 rfl <| .v (y_q rfl (h1)) rfl <| .a 1 rfl <| ?_
    cases q1
    · refine .a 4 rfl <| .v (y_q rfl (h2)) rfl <| .a 2 rfl <| ?_
      cases q2
      · exact .a 3 rfl <| .v (y_q rfl (h3)) rfl <| .a 2 rfl <| .k [2] rfl
      · exact .a 6 rfl <| .k [2] rfl
    · exact .a 13 rfl <| .k [2] rfl
  refine W_ret ?_
  exact ⟨_, _, ResL.of rfl, Pur.pure, rfl⟩
set_option maxRecDepth 10000 in
set_option maxHeartbeats 1000000 in
theorem long28_can (c : Wy) : Can Try.prog 11 [wyV c] (· = flag (longW c)) := by
  obtain ⟨q1, h1⟩ : ∃ q, decide ((12 : Int) < c.T.nodes) = q := ⟨_, rfl⟩
  obtain ⟨q2, h2⟩ : ∃ q, decide ((20 : Int) < c.T.links.length) = q := ⟨_, rfl⟩
  obtain ⟨q3, h3⟩ : ∃ q, decide ((60 : Int) < c.D.length) = q := ⟨_, rfl⟩
  obtain ⟨q4, h4⟩ : ∃ q, decide ((20 : Int) < c.p.length) = q := ⟨_, rfl⟩
  have he : longW c = (((q1 || q2) || q3) || q4) := by unfold longW; rw [h1, h2, h3, h4]
  rw [he]
  refine can_of Try.func11 rfl Try.ntmps11 rfl ?_
  refine W_cs (.a 2 rfl <| .k [1] rfl) ?_
  refine W_csK 2 (.raw (.bool (((q1 || q2) || q3) || q4))) [] rfl ?_ ?_
  · refine .a 3 rfl <| .v (y_q rfl (h1)) rfl <| .a 1 rfl <| ?_
    cases q1
    · refine .a 4 rfl <| .v (y_q rfl (h2)) rfl <| .a 2 rfl <| ?_
      cases q2
      · refine .a 3 rfl <| .v (y_q rfl (h3)) rfl <| .a 2 rfl <| ?_
        cases q3
        · exact .a 3 rfl <| .v (y_q rfl (h4)) rfl <| .a 2 rfl <| .k [2] rfl
        · exact .a 6 rfl <| .k [2] rfl
      · exact .a 12 rfl <| .k [2] rfl
    · exact .a 19 rfl <| .k [2] rfl
  refine W_ret ?_
  exact ⟨_, _, ResL.of rfl, Pur.pure, rfl⟩
set_option maxRecDepth 10000 in
set_option maxHeartbeats 1000000 in
theorem lawSList_can (c : Wy) : Can Try.prog 3 [wyV c] (· = flag true) := by
  obtain ⟨w1, hw1⟩ : ∃ q, q = true := ⟨_, rfl⟩
  have haw : Can Try.prog 10 [] (· = flag w1) := hw1 ▸ awake28_can
  obtain ⟨w2, hw2⟩ : ∃ q, longW c = q := ⟨_, rfl⟩
  refine can_of Try.func3 rfl Try.ntmps3 rfl ?_
  refine W_cs (.a 2 rfl <| .k [1] rfl) ?_
  refine W_seq ?_
  refine W_csK 12 (.raw (.bool ((!w1) || w2))) [1] rfl ?_ ?_
  · refine .c rfl (haw) rfl <| .a 2 rfl <| ?_
    cases w1
    · exact .a 3 rfl <| .k [12, 1] rfl
    · exact .a 1 rfl <| .c rfl (hw2 ▸ long28_can c) rfl <| .a 1 rfl <| .k [12, 1] rfl
  refine W_cond rfl (fun hc => ?_) (fun hc => ?_)
  · skip
    refine W_cs (.c rfl (awake28_can) rfl <| .a 1 rfl <| .k [2] rfl) ?_
    refine W_ret ?_
    exact ⟨_, _, ResL.of rfl, Pur.pure, rfl⟩
  · have hy : longW c = false := by rw [hw2]; exact (Bool.or_eq_false_iff.1 hc).2
    obtain ⟨s1, s2, s3, s4⟩ := longW_small hy
    obtain ⟨q1, h1⟩ : ∃ q, decide (folE c.T c.D c.n c.p = folE c.T c.D c.n c.p) = q := ⟨_, rfl⟩
    have hq1 : q1 = true := by rw [← h1]; exact decide_eq_true rfl
    obtain ⟨L, hL⟩ : ∃ L, (if folE c.T c.D c.n c.p = 0 then lstL c.T [] c.n c.p else []) = L := ⟨_, rfl⟩
    have he1 : Can Try.prog 12 [topoV c.T, boolsV c.D, intsV c.p, num c.n] (· = .tuple [segsV L, num (folE c.T c.D c.n c.p)]) := hL ▸ slist_can c.T c.D c.p c.n (by omega) (by omega) s1
    have he2 : Can Try.prog 13 [topoV c.T, boolsV c.D, intsV c.p, num c.n] (· = .tuple [segsV L, num (folE c.T c.D c.n c.p)]) := hL ▸ rslist_can c.T c.D c.p c.n (by omega) s1
    have he3 : Can Try.prog 14 [segsV L, segsV L] (· = flag true) := by
      have := rsegs_can L L
      rw [decide_eq_true rfl] at this
      exact this
    obtain ⟨q2, hq2⟩ : ∃ q, q = true := ⟨_, rfl⟩
    rw [← hq2] at he3
    refine W_skip ?_
    refine W_cs (.a 8 rfl <| .c rfl (he1) rfl <| .a 5 rfl <| .k [1, 3, 4] rfl) ?_
    refine W_cs (.a 8 rfl <| .c rfl (he2) rfl <| .a 5 rfl <| .k [3, 4, 5, 6] rfl) ?_
    refine W_csK 2 (.raw (.bool (q1 && q2))) [] rfl ?_ ?_
    · refine .a 2 rfl <| .v (y_q rfl (h1)) rfl <| .a 1 rfl <| ?_
      cases q1
      · exact .a 5 rfl <| .k [2] rfl
      · exact .a 2 rfl <| .c rfl (he3) rfl <| .a 2 rfl <| .k [2] rfl
    refine W_ret ?_
    exact ⟨_, _, ResL.of rfl, Pur.pure, by rw [hq1, hq2]; rfl⟩
set_option maxRecDepth 10000 in
set_option maxHeartbeats 1000000 in
theorem lawSLeast_can (c : Wy) : Can Try.prog 4 [wyV c] (· = flag true) := by
  obtain ⟨w1, hw1⟩ : ∃ q, q = true := ⟨_, rfl⟩
  have haw : Can Try.prog 10 [] (· = flag w1) := hw1 ▸ awake28_can
  obtain ⟨w2, hw2⟩ : ∃ q, longW c = q := ⟨_, rfl⟩
  refine can_of Try.func4 rfl Try.ntmps4 rfl ?_
  refine W_cs (.a 2 rfl <| .k [1] rfl) ?_
  refine W_seq ?_
  refine W_csK 10 (.raw (.bool ((!w1) || w2))) [1] rfl ?_ ?_
  · refine .c rfl (haw) rfl <| .a 2 rfl <| ?_
    cases w1
    · exact .a 3 rfl <| .k [10, 1] rfl
    · exact .a 1 rfl <| .c rfl (hw2 ▸ long28_can c) rfl <| .a 1 rfl <| .k [10, 1] rfl
  refine W_cond rfl (fun hc => ?_) (fun hc => ?_)
  · skip
    refine W_cs (.c rfl (awake28_can) rfl <| .a 1 rfl <| .k [2] rfl) ?_
    refine W_ret ?_
    exact ⟨_, _, ResL.of rfl, Pur.pure, rfl⟩
  · have hy : longW c = false := by rw [hw2]; exact (Bool.or_eq_false_iff.1 hc).2
    obtain ⟨s1, s2, s3, s4⟩ := longW_small hy
    obtain ⟨L, hL⟩ : ∃ L, (if folE c.T c.D c.n c.p = 0 then lstL c.T [] c.n c.p else []) = L := ⟨_, rfl⟩
    have he1 : Can Try.prog 12 [topoV c.T, boolsV c.D, intsV c.p, num c.n] (· = .tuple [segsV L, num (folE c.T c.D c.n c.p)]) := hL ▸ slist_can c.T c.D c.p c.n (by omega) (by omega) s1
    refine W_skip ?_
    refine W_cs (.a 8 rfl <| .c rfl (he1) rfl <| .a 5 rfl <| .k [1, 3, 4] rfl) ?_
    refine W_seq ?_
    refine W_cs (.a 2 rfl <| .k [1, 3, 25] rfl) ?_
    refine W_cond rfl (fun hz => ?_) (fun hz => ?_)
    · have he : folE c.T c.D c.n c.p ≠ 0 := tt hz
      rw [if_neg he] at hL
      subst hL
      refine W_cs (.a 4 rfl <| .k [2] rfl) ?_
      refine W_ret ?_
      exact ⟨_, _, ResL.of rfl, Pur.pure, rfl⟩
    · have he : folE c.T c.D c.n c.p = 0 := Classical.byContradiction (ff hz)
      rw [if_pos he] at hL
      have hF := fol_of he
      have hgl : gN c.T [] c.n c.p 0 = L.length := by rw [← hL]; rfl
      have hLl : L.length ≤ c.p.length := by rw [← hL]; exact lst_len _ _
      have hck : ckE c.T c.D L c.n c.p = true := by
        unfold ckE
        rw [if_pos he, ck_iff hF.bare L 0 (Nat.zero_le _), ← hL, Bool.and_eq_true]
        exact ⟨ex_lst hF.bare _ 0 (Nat.zero_le _) (by omega), deg_lst hF.bare _ 0 (Nat.zero_le _)⟩
      have hle := rsleast_can c.T c.D c.p c.n hF (by omega) s1
      rw [hgl] at hle
      obtain ⟨q1, h1⟩ : ∃ q, decide ((L.length : Int) = (L.length : Int)) = q := ⟨_, rfl⟩
      have hq1 : q1 = true := by rw [← h1]; exact decide_eq_true rfl
      obtain ⟨q2, h2⟩ : ∃ q, ckE c.T c.D L c.n c.p = q := ⟨_, rfl⟩
      have hq2 : q2 = true := by rw [← h2]; exact hck
      obtain ⟨q3, h3⟩ : ∃ q, decide ((L.length : Int) ≤ (c.p.length : Int)) = q := ⟨_, rfl⟩
      have hq3 : q3 = true := by rw [← h3]; exact decide_eq_true (by omega)
      refine W_skip ?_
      refine W_csK 2 (.raw (.bool ((q1 && q2) && q3))) [] rfl ?_ ?_
      · refine .a 8 rfl <| .c rfl (hle) rfl <| .v (y_q rfl (h1)) rfl <| .a 1 rfl <| ?_
        cases q1
        · exact .a 20 rfl <| .k [2] rfl
        · refine .a 9 rfl <| .c rfl (h2 ▸ rck_can c.T c.D L c.n c.p (by omega) s1 (by omega)) rfl <| .a 2 rfl <| ?_
          cases q2
          · exact .a 8 rfl <| .k [2] rfl
          · exact .a 5 rfl <| .v (y_q rfl (h3)) rfl <| .a 2 rfl <| .k [2] rfl
      refine W_ret ?_
      exact ⟨_, _, ResL.of rfl, Pur.pure, by rw [hq1, hq2, hq3]; rfl⟩
set_option maxRecDepth 10000 in
set_option maxHeartbeats 1000000 in
theorem lawSEncode_can (c : Wy) : Can Try.prog 5 [wyV c] (· = flag true) := by
  obtain ⟨w1, hw1⟩ : ∃ q, q = true := ⟨_, rfl⟩
  have haw : Can Try.prog 10 [] (· = flag w1) := hw1 ▸ awake28_can
  obtain ⟨w2, hw2⟩ : ∃ q, longW c = q := ⟨_, rfl⟩
  refine can_of Try.func5 rfl Try.ntmps5 rfl ?_
  refine W_cs (.a 2 rfl <| .k [1] rfl) ?_
  refine W_seq ?_
  refine W_csK 14 (.raw (.bool ((!w1) || w2))) [1] rfl ?_ ?_
  · refine .c rfl (haw) rfl <| .a 2 rfl <| ?_
    cases w1
    · exact .a 3 rfl <| .k [14, 1] rfl
    · exact .a 1 rfl <| .c rfl (hw2 ▸ long28_can c) rfl <| .a 1 rfl <| .k [14, 1] rfl
  refine W_cond rfl (fun hc => ?_) (fun hc => ?_)
  · skip
    refine W_cs (.c rfl (awake28_can) rfl <| .a 1 rfl <| .k [2] rfl) ?_
    refine W_ret ?_
    exact ⟨_, _, ResL.of rfl, Pur.pure, rfl⟩
  · have hy : longW c = false := by rw [hw2]; exact (Bool.or_eq_false_iff.1 hc).2
    obtain ⟨s1, s2, s3, s4⟩ := longW_small hy
    obtain ⟨L, hL⟩ : ∃ L, (if folE c.T [] c.n c.p = 0 then lstL c.T [] c.n c.p else []) = L := ⟨_, rfl⟩
    obtain ⟨M, hM⟩ : ∃ M, (if folE c.T c.D c.n c.p = 0 then lstL c.T [] c.n c.p else []) = M := ⟨_, rfl⟩
    have he1 : Can Try.prog 17 [topoV c.T, boolsV [], intsV c.p, num c.n] (· = .tuple [segsV L, num (folE c.T [] c.n c.p)]) := hL ▸ elist_can c.T [] c.p c.n (by omega) (by omega) s1
    have he2 : Can Try.prog 12 [topoV c.T, boolsV [], intsV c.p, num c.n] (· = .tuple [segsV L, num (folE c.T [] c.n c.p)]) := hL ▸ slist_can c.T [] c.p c.n (by omega) (by omega) s1
    have he3 : Can Try.prog 12 [topoV c.T, boolsV c.D, intsV c.p, num c.n] (· = .tuple [segsV M, num (folE c.T c.D c.n c.p)]) := hM ▸ slist_can c.T c.D c.p c.n (by omega) (by omega) s1
    have he4 : Can Try.prog 14 [segsV L, segsV L] (· = flag true) := by
      have := rsegs_can L L
      rw [decide_eq_true rfl] at this
      exact this
    obtain ⟨q2, hq2⟩ : ∃ q, q = true := ⟨_, rfl⟩
    rw [← hq2] at he4
    obtain ⟨q1, h1⟩ : ∃ q, decide (folE c.T [] c.n c.p = folE c.T [] c.n c.p) = q := ⟨_, rfl⟩
    have hq1 : q1 = true := by rw [← h1]; exact decide_eq_true rfl
    obtain ⟨q3, h3⟩ : ∃ q, decide (folE c.T c.D c.n c.p ≠ 0) = q := ⟨_, rfl⟩
    obtain ⟨q4, h4⟩ : ∃ q, decide (folE c.T [] c.n c.p = 0) = q := ⟨_, rfl⟩
    obtain ⟨q5, h5⟩ : ∃ q, decide ((L.length : Int) ≤ (M.length : Int)) = q := ⟨_, rfl⟩
    have hfin : (q3 || (q4 && q5)) = true := by
      by_cases he : folE c.T c.D c.n c.p = 0
      · have hb := folB he
        rw [if_pos hb] at hL
        rw [if_pos he] at hM
        rw [decide_eq_true hb] at h4
        have e5 : q5 = true := by rw [← h5, ← hL, ← hM]; exact decide_eq_true (Int.le_refl _)
        rw [← h4, e5]
        simp
      · rw [decide_eq_true he] at h3
        rw [← h3]
        rfl
    refine W_skip ?_
    refine W_cs (.a 6 rfl <| .v (y_cP rfl (PurL.cons Pur.pure <| PurL.cons Pur.nils <| PurL.cons Pur.pure <| PurL.cons Pur.pure PurL.nil) (he1)) rfl <| .a 5 rfl <| .k [1, 3, 4] rfl) ?_
    refine W_cs (.a 6 rfl <| .v (y_cP rfl (PurL.cons Pur.pure <| PurL.cons Pur.nils <| PurL.cons Pur.pure <| PurL.cons Pur.pure PurL.nil) (he2)) rfl <| .a 5 rfl <| .k [1, 3, 4, 5, 6] rfl) ?_
    refine W_cs (.a 8 rfl <| .c rfl (he3) rfl <| .a 5 rfl <| .k [3, 4, 5, 6, 7, 8] rfl) ?_
    refine W_csK 2 (.raw (.bool ((q1 && q2) && (q3 || (q4 && q5))))) [] rfl ?_ ?_
    · refine .a 2 rfl <| .v (y_q rfl (h1)) rfl <| .a 1 rfl <| ?_
      cases q1
      · exact .a 20 rfl <| .k [2] rfl
      · refine .a 2 rfl <| .c rfl (he4) rfl <| .a 2 rfl <| ?_
        cases q2
        · exact .a 15 rfl <| .k [2] rfl
        · refine .a 1 rfl <| .v (y_q rfl (h3)) rfl <| .a 1 rfl <| ?_
          cases q3
          · refine .a 1 rfl <| .v (y_q rfl (h4)) rfl <| .a 1 rfl <| ?_
            cases q4
            · exact .a 9 rfl <| .k [2] rfl
            · exact .a 4 rfl <| .v (y_q rfl (h5)) rfl <| .a 4 rfl <| .k [2] rfl
          · exact .a 12 rfl <| .k [2] rfl
    refine W_ret ?_
    exact ⟨_, _, ResL.of rfl, Pur.pure, by rw [hq1, hq2, hfin]; rfl⟩
set_option maxRecDepth 10000 in
set_option maxHeartbeats 1000000 in
theorem lawSSegment_can (c : Qry) : Can Try.prog 6 [qryV c] (· = flag true) := by
  obtain ⟨w1, hw1⟩ : ∃ q, q = true := ⟨_, rfl⟩
  have haw : Can Try.prog 10 [] (· = flag w1) := hw1 ▸ awake28_can
  obtain ⟨w2, hw2⟩ : ∃ q, largeQ c = q := ⟨_, rfl⟩
  refine can_of Try.func6 rfl Try.ntmps6 rfl ?_
  refine W_cs (.a 2 rfl <| .k [1] rfl) ?_
  refine W_seq ?_
  refine W_csK 8 (.raw (.bool ((!w1) || w2))) [1] rfl ?_ ?_
  · refine .c rfl (haw) rfl <| .a 2 rfl <| ?_
    cases w1
    · exact .a 3 rfl <| .k [8, 1] rfl
    · exact .a 1 rfl <| .c rfl (hw2 ▸ large28_can c) rfl <| .a 1 rfl <| .k [8, 1] rfl
  refine W_cond rfl (fun hc => ?_) (fun hc => ?_)
  · skip
    refine W_cs (.c rfl (awake28_can) rfl <| .a 1 rfl <| .k [2] rfl) ?_
    refine W_ret ?_
    exact ⟨_, _, ResL.of rfl, Pur.pure, rfl⟩
  · have hy : largeQ c = false := by rw [hw2]; exact (Bool.or_eq_false_iff.1 hc).2
    obtain ⟨s1, s2, s3⟩ := largeQ_small hy
    obtain ⟨q, hq⟩ : ∃ q, sgB c.T c.D c.x c.y = q := ⟨_, rfl⟩
    refine W_skip ?_
    refine W_drs mixed (by kernel_rfl) (.a 8 rfl <| .v [11, 13, 15, 17] (y_c rfl (hq ▸ sseg_can c.T c.D c.x c.y s1 (by omega))) rfl rfl <| .a 8 rfl <| .v [20, 22, 24, 26] (y_c rfl (hq ▸ rsseg_can c.T c.D c.x c.y s1)) rfl rfl <| .a 2 rfl <| .k [2] rfl) ?_
    refine W_ret ?_
    exact ⟨_, _, ResL.of rfl, Pur.pure, by cases q <;> rfl⟩
end PW
end Go.Proofs.Ytkgepjiebihodaa

/- Package stable's Check; the laws of layer 28 on parts, routes and detours, walked. -/
namespace Go.Proofs.Ytkgepjiebihodaa
set_option linter.unusedVariables false
set_option linter.unusedSimpArgs false
namespace PW
open Go.RowKit Reg Mem Net

theorem Ch.ups {T : Topo} {D : List Bool} {d m : Nat} {q : List Int} (h : Ch T D d m q) : ∀ a ∈ q, downN D a.toNat = false := by
  induction h with
  | nil => intro z hz; cases hz
  | @cons n a m p ha ht hu hm ho hp ih =>
    intro z hz
    rcases List.mem_cons.1 hz with rfl | hz
    · rw [Int.toNat_natCast]; exact hu
    · exact ih z hz
set_option maxRecDepth 10000 in
set_option maxHeartbeats 2000000 in
theorem sck_can (T : Topo) (D : List Bool) (l : List Seg) (n : Int) (p : List Int) (hp : p.length ≤ 1000) (hl : l.length ≤ 1000) (hlk : T.links.length ≤ 256) (h12 : T.nodes ≤ 12) : Can Try.prog 27 [topoV T, boolsV D, segsV l, num n, intsV p] (· = flag (ckE T D l n p)) := by
  obtain ⟨q1, hq1⟩ : ∃ q, decide (folE T D n p ≠ 0) = q := ⟨_, rfl⟩
  obtain ⟨q2, hq2⟩ : ∃ q, exactB T [] l n p = q := ⟨_, rfl⟩
  refine can_of Try.func27 rfl Try.ntmps27 rfl ?_
  refine W_cs (.a 2 rfl <| .k [1, 2, 3, 4, 5] rfl) ?_
  refine W_seq ?_
  refine W_csK 29 (.raw (.bool (q1 || !q2))) [2, 3, 5] rfl ?_ ?_
  · refine .a 4 rfl <| .c rfl (scheck_can T D p n hp hlk) rfl <| .v (y_q rfl (hq1)) rfl <| .a 1 rfl <| ?_
    cases q1
    · exact .a 4 rfl <| .v (y_cP rfl (PurL.cons Pur.pure <| PurL.cons Pur.nils <| PurL.cons Pur.pure <| PurL.cons Pur.pure <| PurL.cons Pur.pure PurL.nil) (hq2 ▸ exact_can T [] l n p hp hl hlk h12)) rfl <| .a 2 rfl <| .k [29, 2, 3, 5] rfl
    · exact .a 7 rfl <| .k [29, 2, 3, 5] rfl
  refine W_cond rfl (fun hc => ?_) (fun hc => ?_)
  · have he : ckE T D l n p = false := by
      unfold ckE
      by_cases h0 : folE T D n p = 0
      · rw [if_pos h0, ck_iff (fol_of h0).bare l 0 (Nat.zero_le _)]
        rw [decide_eq_false (by simpa using h0)] at hq1
        subst hq1
        rw [Bool.false_or] at hc
        have h2 : q2 = false := by simpa using hc
        unfold exactB at hq2
        rw [if_pos (folB h0), h2] at hq2
        rw [hq2]
        rfl
      · rw [if_neg h0]
    refine W_cs (.a 1 rfl <| .k [10] rfl) ?_
    refine W_ret ?_
    exact ⟨_, _, ResL.of rfl, Pur.pure, by rw [he]; rfl⟩
  · obtain ⟨rfl, h2⟩ := Bool.or_eq_false_iff.1 hc
    have h2' : q2 = true := by simpa using h2
    subst h2'
    have he : folE T D n p = 0 := Classical.byContradiction (ff hq1)
    have hF := fol_of he
    have hex : exB T [] n p 0 l = true := by unfold exactB at hq2; rw [if_pos (folB he)] at hq2; exact hq2
    have hX : ckE T D l n p = noDeg T n l := by
      unfold ckE
      rw [if_pos he, ck_iff hF.bare l 0 (Nat.zero_le _), hex, Bool.true_and]
      rfl
    rw [hX]
    have hen : (endsL T n l).2 = 0 := ((ex_iff hF.bare l 0 (Nat.zero_le _)).1 hex).1
    have heE : endsE T l n = 0 := by unfold endsE; rw [if_neg (by rw [hF.valid]; simp), if_neg (by rw [hF.node]; simp)]; exact hen
    have hse := sends_can T l n hl
    rw [heE] at hse
    have hel := ends_len l n hen
    clear hc hq1 hq2
    refine W_skip ?_
    refine W_cs (.a 3 rfl <| .c rfl (hse) rfl <| .a 5 rfl <| .k [2, 3, 11] rfl) ?_
    refine W_seq ?_
    refine W_cs (.a 3 rfl <| .k [3, 11, 37, 38, 39] rfl) ?_
    refine W_block ?_
    refine W_k [3, 11, 37, 38, 39] rfl ?_
    refine W_loop (fun r st => ∃ (k : Nat) (x : Int), k ≤ l.length ∧ r = l.length - k ∧ (endsL T x (l.drop k)).2 = 0 ∧ (endsL T n l).1.drop k = (endsL T x (l.drop k)).1 ∧ noDeg T n l = noDeg T x (l.drop k) ∧ (k = 0 → n = x) ∧ (0 < k → (endsL T n l).1.getD (k - 1) 0 = x) ∧ st = ⟨[(3, num n), (11, intsV (endsL T n l).1), (37, segsV l), (38, num l.length), (39, num k)], []⟩) l.length ⟨0, n, by omega, by omega, hen, rfl, rfl, fun _ => rfl, fun h => by omega, rfl⟩ ?_
    rintro r st ⟨k, x, hk, rfl, he1, he2, he3, hx0, hx1, rfl⟩
    refine W_cs (.a 1 rfl <| .k [3, 11, 37, 38, 39, 40] rfl) ?_
    refine W_seq ?_
    refine W_cond rfl (fun h1 => ?_) (fun h1 => ?_)
    · have hlt : k < l.length := by have := tt h1; omega
      obtain ⟨s, hs, hdr⟩ := segs_cons l k hlt
      rw [hdr] at he1 he2 he3
      obtain ⟨g1, g2, g3⟩ := ends_cons he1
      rw [g3, drop_cons _ k (by omega)] at he2
      have e2 := (List.cons.inj he2).1
      have e3 := (List.cons.inj he2).2
      simp only [noDeg] at he3
      obtain ⟨c1, hc1⟩ : ∃ q, decide (s.kind = 1) = q := ⟨_, rfl⟩
      refine W_skip ?_
      refine W_seq ?_
      refine W_block ?_
      refine W_rs ?_
      refine WR_a 1 rfl <| WR_v (y_ix ((k * 2)) rfl) rfl <| WR_v (y_la rfl (segs_drop l k s hs) rfl) rfl <| WR_a 3 rfl <| WR_k [3, 11, 13, 14, 37, 38, 39] rfl ?_
      refine W_cs (.a 2 rfl <| .k [3, 11, 13, 14, 15, 37, 38, 39] rfl) ?_
      refine W_seq ?_
      refine W_cs (.a 2 rfl <| .k [3, 11, 13, 14, 15, 37, 38, 39, 46] rfl) ?_
      refine W_cond rfl (fun h2 => ?_) (fun h2 => ?_)
      · have hk0 : 0 < k := by have := tt h2; omega
        have hxx := hx1 hk0
        have hbx : x = x := rfl
        obtain ⟨c2, hc2⟩ : ∃ q, decide (s.num = x) = q := ⟨_, rfl⟩
        refine W_chain (.a 2 rfl <| .v (y_ar rfl (hc := (show (k : Int) - 1 = ((k - 1 : Nat) : Int) by omega))) rfl <| .v (y_ix ((k - 1)) rfl) rfl <| .v (y_ld rfl ((ints_get _ (k - 1) (by omega)).trans (by rw [hxx]))) rfl <| .a 1 rfl <| .k [3, 11, 14, 15, 37, 38, 39] rfl) ?_
        refine W_csK 60 (.raw (.bool (c1 && c2))) [3, 11, 37, 38, 39] rfl ?_ ?_
        · refine .a 2 rfl <| .v (y_q rfl (hc1)) rfl <| .a 1 rfl <| ?_
          cases c1
          · exact .a 5 rfl <| .k [60, 3, 11, 37, 38, 39] rfl
          · exact .a 3 rfl <| .v (y_q rfl (hc2)) rfl <| .a 1 rfl <| .k [60, 3, 11, 37, 38, 39] rfl
        refine W_cond rfl (fun h3 => ?_) (fun h3 => ?_)
        · have hbad : s.kind = 1 ∧ s.num = x := by
            simp only [Bool.and_eq_true] at h3
            obtain ⟨rfl, rfl⟩ := h3
            exact ⟨tt hc1, (tt hc2).trans hbx⟩
          rw [if_pos hbad] at he3
          refine W_cs (.a 1 rfl <| .k [10] rfl) ?_
          refine W_ret ?_
          exact ⟨_, _, ResL.of rfl, Pur.pure, by rw [he3]; rfl⟩
        · have hok : ¬ (s.kind = 1 ∧ s.num = x) := by
            rintro ⟨e1, e2⟩
            rw [decide_eq_true e1] at hc1
            rw [decide_eq_true (e2.trans hbx.symm)] at hc2
            subst hc1
            subst hc2
            cases h3
          rw [if_neg hok] at he3
          refine W_skip ?_
          refine W_ren [] (.c 3 <| .c 11 <| .c 37 <| .c 38 <| .c 39 <| .nil) .nil rfl rfl ?_
          refine W_chain (.v (y_ar rfl) rfl <| .a 1 rfl <| .k [3, 11, 37, 38, 39] rfl) ?_
          exact ⟨l.length - (k + 1), by omega, k + 1, (endS T s x).1, by omega, rfl, g2, e3, he3, fun h => by omega, fun _ => e2, rfl⟩
      · have hbx : n = x := hx0 (by have := ff h2; omega)
        obtain ⟨c2, hc2⟩ : ∃ q, decide (s.num = n) = q := ⟨_, rfl⟩
        refine W_skip ?_
        refine W_csK 60 (.raw (.bool (c1 && c2))) [3, 11, 37, 38, 39] rfl ?_ ?_
        · refine .a 2 rfl <| .v (y_q rfl (hc1)) rfl <| .a 1 rfl <| ?_
          cases c1
          · exact .a 5 rfl <| .k [60, 3, 11, 37, 38, 39] rfl
          · exact .a 3 rfl <| .v (y_q rfl (hc2)) rfl <| .a 1 rfl <| .k [60, 3, 11, 37, 38, 39] rfl
        refine W_cond rfl (fun h3 => ?_) (fun h3 => ?_)
        · have hbad : s.kind = 1 ∧ s.num = x := by
            simp only [Bool.and_eq_true] at h3
            obtain ⟨rfl, rfl⟩ := h3
            exact ⟨tt hc1, (tt hc2).trans hbx⟩
          rw [if_pos hbad] at he3
          refine W_cs (.a 1 rfl <| .k [10] rfl) ?_
          refine W_ret ?_
          exact ⟨_, _, ResL.of rfl, Pur.pure, by rw [he3]; rfl⟩
        · have hok : ¬ (s.kind = 1 ∧ s.num = x) := by
            rintro ⟨e1, e2⟩
            rw [decide_eq_true e1] at hc1
            rw [decide_eq_true (e2.trans hbx.symm)] at hc2
            subst hc1
            subst hc2
            cases h3
          rw [if_neg hok] at he3
          refine W_skip ?_
          refine W_ren [] (.c 3 <| .c 11 <| .c 37 <| .c 38 <| .c 39 <| .nil) .nil rfl rfl ?_
          refine W_chain (.v (y_ar rfl) rfl <| .a 1 rfl <| .k [3, 11, 37, 38, 39] rfl) ?_
          exact ⟨l.length - (k + 1), by omega, k + 1, (endS T s x).1, by omega, rfl, g2, e3, he3, fun h => by omega, fun _ => e2, rfl⟩
    · have hke : k = l.length := by have := ff h1; omega
      subst hke
      rw [List.drop_length] at he3
      simp only [noDeg] at he3
      refine W_exit ?_
      refine W_cs (.a 1 rfl <| .k [10] rfl) ?_
      refine W_ret ?_
      exact ⟨_, _, ResL.of rfl, Pur.pure, by rw [he3]; rfl⟩
set_option maxRecDepth 10000 in
set_option maxHeartbeats 1000000 in
theorem rpath27_can (T : Topo) (D : List Bool) (x y : Int) : Can Try.prog 26 [topoV T, boolsV D, num x, num y] (· = intsE (spE T D x y) (spathL T D x.toNat y.toNat)) := by
  refine can_of Try.func26 rfl Try.ntmps26 rfl ?_
  refine W_cs (.a 3 rfl <| .k [1, 2, 3, 4] rfl) ?_
  refine W_cs (.a 4 rfl <| .c rfl (rspath_can T D x y) rfl <| .a 4 rfl <| .k [8, 9] rfl) ?_
  refine W_ret ?_
  exact ⟨_, _, ResL.of rfl, Pur.pure, rfl⟩
theorem lst_pos {T : Topo} {D : List Bool} {n : Int} {p : List Int} (hp : 0 < p.length) : 0 < (lstL T D n p).length := by
  unfold lstL
  obtain ⟨f, hf⟩ : ∃ f, p.length = f + 1 := ⟨p.length - 1, by omega⟩
  rw [hf]
  simp only [lstF]
  rw [if_pos (by omega)]
  cases topD (covB T D n p 0) 0 p.length <;> simp
set_option maxRecDepth 10000 in
set_option maxHeartbeats 1000000 in
theorem lawSDetour_can (c : Qry) : Can Try.prog 9 [qryV c] (· = flag true) := by
  obtain ⟨w1, hw1⟩ : ∃ q, q = true := ⟨_, rfl⟩
  have haw : Can Try.prog 10 [] (· = flag w1) := hw1 ▸ awake28_can
  obtain ⟨w2, hw2⟩ : ∃ q, largeQ c = q := ⟨_, rfl⟩
  refine can_of Try.func9 rfl Try.ntmps9 rfl ?_
  refine W_cs (.a 2 rfl <| .k [1] rfl) ?_
  refine W_seq ?_
  refine W_csK 12 (.raw (.bool ((!w1) || w2))) [1] rfl ?_ ?_
  · refine .c rfl (haw) rfl <| .a 2 rfl <| ?_
    cases w1
    · exact .a 3 rfl <| .k [12, 1] rfl
    · exact .a 1 rfl <| .c rfl (hw2 ▸ large28_can c) rfl <| .a 1 rfl <| .k [12, 1] rfl
  refine W_cond rfl (fun hc => ?_) (fun hc => ?_)
  · skip
    refine W_cs (.c rfl (awake28_can) rfl <| .a 1 rfl <| .k [2] rfl) ?_
    refine W_ret ?_
    exact ⟨_, _, ResL.of rfl, Pur.pure, rfl⟩
  · have hy : largeQ c = false := by rw [hw2]; exact (Bool.or_eq_false_iff.1 hc).2
    obtain ⟨s1, s2, s3⟩ := largeQ_small hy
    refine W_skip ?_
    refine W_cs (.a 8 rfl <| .c rfl (rpath27_can c.T c.D c.x c.y) rfl <| .a 5 rfl <| .k [1, 3, 4] rfl) ?_
    refine W_seq ?_
    refine W_cs (.a 2 rfl <| .k [1, 3, 27] rfl) ?_
    refine W_cond rfl (fun hz => ?_) (fun hz => ?_)
    · skip
      refine W_cs (.a 1 rfl <| .k [2] rfl) ?_
      refine W_ret ?_
      exact ⟨_, _, ResL.of rfl, Pur.pure, rfl⟩
    · have he : spE c.T c.D c.x c.y = 0 := Classical.byContradiction (ff hz)
      rw [he, if_pos rfl]
      obtain ⟨a, b, hxa, hyb, haN, hbN, hv, hsp⟩ := spE_facts he
      have hf : fitsB c.T c.D = true := by
        unfold spE at he
        split at he
        · rename_i h1; exact (nodeE_zero h1).2.1
        · rename_i h1; exact absurd he h1
      have hlt := hsp.len_lt hv hbN
      obtain ⟨p, hp⟩ : ∃ p, spathL c.T c.D c.x.toNat c.y.toNat = p := ⟨_, rfl⟩
      rw [hp] at hsp hlt ⊢
      have hup := hsp.ch.ups
      have hF : Fol c.T c.D c.x p := ⟨hv, hf, by rw [hxa]; exact nodeB_iff.2 ⟨by omega, haN⟩, by rw [hxa]; exact ch_walk hsp.ch, hup⟩
      have hf0 := fol_zero hF
      obtain ⟨L, hL⟩ : ∃ L, lstL c.T [] c.x p = L := ⟨_, rfl⟩
      have he1 : Can Try.prog 12 [topoV c.T, boolsV c.D, intsV p, num c.x] (· = .tuple [segsV L, num 0]) := by
        have := slist_can c.T c.D p c.x (by omega) (by omega) s1
        unfold segsE at this
        rw [hf0, if_pos rfl, hL] at this
        exact this
      have hLl : L.length ≤ p.length := by rw [← hL]; exact lst_len _ _
      have hck : ckE c.T c.D L c.x p = true := by
        unfold ckE
        rw [if_pos hf0, ck_iff hF.bare L 0 (Nat.zero_le _), ← hL, Bool.and_eq_true]
        exact ⟨ex_lst hF.bare _ 0 (Nat.zero_le _) (by omega), deg_lst hF.bare _ 0 (Nat.zero_le _)⟩
      obtain ⟨q1, h1⟩ : ∃ q, decide ((0 : Int) = 0) = q := ⟨_, rfl⟩
      have hq1 : q1 = true := by rw [← h1]; rfl
      obtain ⟨q2, h2⟩ : ∃ q, decide ((L.length : Int) ≤ (p.length : Int)) = q := ⟨_, rfl⟩
      have hq2 : q2 = true := by rw [← h2]; exact decide_eq_true (by omega)
      obtain ⟨q3, h3⟩ : ∃ q, decide ((0 : Int) < (L.length : Int)) = q := ⟨_, rfl⟩
      obtain ⟨q4, h4⟩ : ∃ q, decide ((0 : Int) < (p.length : Int)) = q := ⟨_, rfl⟩
      have hq3 : (q3 == q4) = true := by
        have : q3 = q4 := by
          rw [← h3, ← h4]
          refine decide_eq_decide.2 ⟨fun h => by omega, fun h => ?_⟩
          have := lst_pos (T := c.T) (D := []) (n := c.x) (p := p) (by omega)
          rw [hL] at this
          omega
        rw [this]; simp
      obtain ⟨q5, h5⟩ : ∃ q, ckE c.T c.D L c.x p = q := ⟨_, rfl⟩
      have hq5 : q5 = true := by rw [← h5]; exact hck
      refine W_skip ?_
      refine W_cs (.a 7 rfl <| .c rfl (he1) rfl <| .a 5 rfl <| .k [1, 3, 5, 6] rfl) ?_
      obtain ⟨q6, h6⟩ : ∃ q, (q3 == q4) = q := ⟨_, rfl⟩
      refine W_csK 2 (.raw (.bool (((q1 && q2) && q6) && q5))) [] rfl ?_ ?_
      · refine .a 1 rfl <| .v (y_q rfl (h1)) rfl <| .a 1 rfl <| ?_
        cases q1
        · exact .a 27 rfl <| .k [2] rfl
        · refine .a 4 rfl <| .v (y_q rfl (h2)) rfl <| .a 2 rfl <| ?_
          cases q2
          · exact .a 20 rfl <| .k [2] rfl
          · refine .a 2 rfl <| .v (y_q rfl (h3)) rfl <| .a 2 rfl <| .v (y_q rfl (h4)) rfl <| .v (y_q rfl (h6)) rfl <| .a 2 rfl <| ?_
            cases q6
            · exact .a 11 rfl <| .k [2] rfl
            · exact .a 8 rfl <| .c rfl (h5 ▸ sck_can c.T c.D L c.x p (by omega) (by omega) (by omega) s1) rfl <| .a 2 rfl <| .k [2] rfl
      refine W_ret ?_
      exact ⟨_, _, ResL.of rfl, Pur.pure, by rw [hq1, hq2, ← h6, hq3, hq5]; rfl⟩
set_option maxRecDepth 10000 in
set_option maxHeartbeats 1000000 in
theorem lawSRoutes_can (c : Qry) : Can Try.prog 8 [qryV c] (· = flag true) := by
  obtain ⟨w1, hw1⟩ : ∃ q, q = true := ⟨_, rfl⟩
  have haw : Can Try.prog 10 [] (· = flag w1) := hw1 ▸ awake28_can
  obtain ⟨w2, hw2⟩ : ∃ q, largeQ c = q := ⟨_, rfl⟩
  obtain ⟨w3, hw3⟩ : ∃ q, sgB c.T c.D c.x c.y = q := ⟨_, rfl⟩
  refine can_of Try.func8 rfl Try.ntmps8 rfl ?_
  refine W_cs (.a 2 rfl <| .k [1] rfl) ?_
  refine W_seq ?_
  refine W_csK 28 (.raw (.bool (((!w1) || w2) || !w3))) [1] rfl ?_ ?_
  · refine .c rfl (haw) rfl <| .a 2 rfl <| ?_
    cases w1
    · exact .a 15 rfl <| .k [28, 1] rfl
    · refine .a 1 rfl <| .c rfl (hw2 ▸ large28_can c) rfl <| .a 2 rfl <| ?_
      cases w2
      · exact .a 8 rfl <| .c rfl (hw3 ▸ sseg_can c.T c.D c.x c.y (by have := largeQ_small (c := c) (by rw [hw2]); exact this.1) (by have := largeQ_small (c := c) (by rw [hw2]); have := this.2.1; omega)) rfl <| .a 2 rfl <| .k [28, 1] rfl
      · exact .a 11 rfl <| .k [28, 1] rfl
  refine W_cond rfl (fun hc => ?_) (fun hc => ?_)
  · skip
    refine W_cs (.c rfl (awake28_can) rfl <| .a 1 rfl <| .k [2] rfl) ?_
    refine W_ret ?_
    exact ⟨_, _, ResL.of rfl, Pur.pure, rfl⟩
  · obtain ⟨hc1, hc2⟩ := Bool.or_eq_false_iff.1 hc
    have hy : largeQ c = false := by rw [hw2]; exact (Bool.or_eq_false_iff.1 hc1).2
    obtain ⟨s1, s2, s3⟩ := largeQ_small hy
    have hsg : sgB c.T c.D c.x c.y = true := by rw [hw3]; simpa using hc2
    obtain ⟨x, y, hx, hy2, hS, hsp0⟩ := stab_of hsg
    have hsp := rspath_can c.T [] c.x c.y
    rw [hsp0] at hsp
    rw [show c.x.toNat = x by omega, show c.y.toNat = y by omega] at hsp
    obtain ⟨p, hp⟩ : ∃ p, spathL c.T [] x y = p := ⟨_, rfl⟩
    rw [hp] at hS hsp
    unfold intsE at hsp
    rw [if_pos rfl] at hsp
    have hv := hS.valid
    have hF := hS.fol
    have ha := hF.arcs
    have hpos := hS.pos
    have hlt := hS.sp.len_lt hv hS.hy
    refine W_skip ?_
    refine W_cs (.a 6 rfl <| .v (y_cP rfl (PurL.cons Pur.pure <| PurL.cons Pur.nils <| PurL.cons Pur.pure <| PurL.cons Pur.pure PurL.nil) (hsp)) rfl <| .a 5 rfl <| .k [1, 3] rfl) ?_
    refine W_seq ?_
    refine W_cs (.a 3 rfl <| .k [1, 3, 41, 42] rfl) ?_
    refine W_block ?_
    refine W_k [1, 3, 41, 42] rfl ?_
    refine W_loop (fun r st => ∃ i : Nat, i ≤ p.length ∧ r = p.length - i ∧ st = ⟨[(1, .pin (qryP c) 0), (3, intsV p), (41, num p.length), (42, num i)], []⟩) p.length ⟨0, by omega, by omega, rfl⟩ ?_
    rintro r st ⟨i, hi, rfl, rfl⟩
    refine W_cs (.a 1 rfl <| .k [1, 3, 41, 42, 43] rfl) ?_
    refine W_seq ?_
    refine W_cond rfl (fun h1 => ?_) (fun h1 => ?_)
    · have hil : i < p.length := by have := tt h1; omega
      obtain ⟨u, hu, huN⟩ := end_node hv hF.node ha i (by omega)
      have htl := part_tail hF hil hu
      obtain ⟨n1, n2, _⟩ := hS.next hil hu
      have ht := rtailI_can c.T hv _ (ha _ (getD_mem (d := 0) hil))
      rw [htl] at ht
      have hnE : ∀ D, fitsB c.T D = true → nodeE c.T D (u : Int) c.y = 0 := fun D hf => by
        unfold nodeE
        rw [hy2, if_pos (chk_of hv hf hS.hy), nodeB_iff.2 ⟨by omega, huN⟩]
        rfl
      have hn1 : Can Try.prog 24 [topoV c.T, boolsV [], num u, num c.y] (· = .tuple [intsV [p.getD i 0], num 0]) := by
        have := rnext_can c.T [] (u : Int) c.y
        unfold intsE at this
        rw [hnE [] (fits_nil _), if_pos rfl, Int.toNat_natCast, show c.y.toNat = y by omega, n1] at this
        exact this
      have hn2 : Can Try.prog 24 [topoV c.T, boolsV c.D, num u, num c.y] (· = .tuple [intsV [p.getD i 0], num 0]) := by
        have := rnext_can c.T c.D (u : Int) c.y
        unfold intsE at this
        rw [hnE c.D hS.fits, if_pos rfl, Int.toNat_natCast, show c.y.toNat = y by omega, n2] at this
        exact this
      have hpt : partL p i (i + 1) = [p.getD i 0] := by
        unfold partL
        rw [drop_cons p i hil, show i + 1 - i = 1 by omega]
        rfl
      obtain ⟨g1, hg1⟩ : ∃ q, decide ((0 : Int) ≠ 0) = q := ⟨_, rfl⟩
      have hg1f : g1 = false := by rw [← hg1]; rfl
      obtain ⟨g2, hg2⟩ : ∃ q, sameB [p.getD i 0] (partL p i (i + 1)) = q := ⟨_, rfl⟩
      have hg2t : g2 = true := by rw [← hg2, hpt]; unfold sameB; exact decide_eq_true rfl
      refine W_skip ?_
      refine W_seq ?_
      refine W_block ?_
      refine W_cs (.a 2 rfl <| .k [1, 3, 5, 41, 42] rfl) ?_
      refine W_drs mixed (by kernel_rfl) (.a 4 rfl <| .v [47, 48] (y_ix (i) rfl) rfl rfl <| .v [49] (y_ld rfl (ints_get p i hil)) rfl rfl <| .v [46, 50] (y_c rfl (ht)) rfl rfl <| .a 1 rfl <| .k [1, 3, 5, 6, 41, 42] rfl) ?_
      refine W_cs (.a 5 rfl <| .v (y_cP rfl (PurL.cons Pur.pure <| PurL.cons Pur.nils <| PurL.cons Pur.pure <| PurL.cons Pur.pure PurL.nil) (hn1)) rfl <| .a 5 rfl <| .k [1, 3, 5, 6, 7, 8, 41, 42] rfl) ?_
      refine W_cs (.a 7 rfl <| .c rfl (hn2) rfl <| .a 5 rfl <| .k [1, 3, 5, 7, 8, 9, 10, 41, 42] rfl) ?_
      refine W_csK 97 (.raw (.bool (((g1 || g1) || !g2) || !g2))) [1, 3, 41, 42] rfl ?_ ?_
      · refine .a 1 rfl <| .v (y_q rfl (hg1)) rfl <| .a 1 rfl <| ?_
        cases g1
        · refine .a 1 rfl <| .v (y_q rfl (hg1)) rfl <| .a 6 rfl <| .v (y_ar rfl) rfl <| .v (y_part (i := i) (k := i + 1) rfl (fok.el.get rfl) rfl rfl rfl (by omega) (by omega)) rfl <| .c rfl (hg2 ▸ rsame_can [p.getD i 0] (partL p i (i + 1))) rfl <| .a 3 rfl <| ?_
          cases g2
          · exact .a 9 rfl <| .k [97, 1, 3, 41, 42] rfl
          · exact .a 4 rfl <| .v (y_ar rfl) rfl <| .v (y_part (i := i) (k := i + 1) rfl (fok.el.get rfl) rfl rfl rfl (by omega) (by omega)) rfl <| .c rfl (hg2 ▸ rsame_can [p.getD i 0] (partL p i (i + 1))) rfl <| .a 2 rfl <| .k [97, 1, 3, 41, 42] rfl
        · exact .a 23 rfl <| .k [97, 1, 3, 41, 42] rfl
      refine W_cond rfl (fun h2 => ?_) (fun h2 => ?_)
      · rw [hg1f, hg2t] at h2
        exact absurd h2 (by decide)
      · skip
        refine W_skip ?_
        refine W_chain (.v (y_ar rfl) rfl <| .a 1 rfl <| .k [1, 3, 41, 42] rfl) ?_
        exact ⟨p.length - (i + 1), by omega, i + 1, by omega, rfl, rfl⟩
    · obtain ⟨g3, hg3⟩ : ∃ q, decide ((0 : Int) < (p.length : Int)) = q := ⟨_, rfl⟩
      have hg3t : g3 = true := by rw [← hg3]; exact decide_eq_true (by omega)
      refine W_exit ?_
      refine W_cs (.a 2 rfl <| .v (y_q rfl (hg3)) rfl <| .a 1 rfl <| .k [2] rfl) ?_
      refine W_ret ?_
      exact ⟨_, _, ResL.of rfl, Pur.pure, by rw [hg3t]; rfl⟩
set_option maxRecDepth 10000 in
set_option maxHeartbeats 1000000 in
theorem lawSParts_can (c : Qry) (a b : Nat) (ha8 : a < 256) (hb8 : b < 256) (up : Int) : Can Try.prog 7 [qryV c, .agg [.raw (.int .u8 a), .raw (.int .u8 b)], num up] (· = flag true) := by
  obtain ⟨w1, hw1⟩ : ∃ q, q = true := ⟨_, rfl⟩
  have haw : Can Try.prog 10 [] (· = flag w1) := hw1 ▸ awake28_can
  obtain ⟨w2, hw2⟩ : ∃ q, largeQ c = q := ⟨_, rfl⟩
  obtain ⟨w3, hw3⟩ : ∃ q, sgB c.T c.D c.x c.y = q := ⟨_, rfl⟩
  refine can_of Try.func7 rfl Try.ntmps7 rfl ?_
  refine W_cs (.a 3 rfl <| .k [2, 3, 4] rfl) ?_
  refine W_seq ?_
  refine W_csK 29 (.raw (.bool (((!w1) || w2) || !w3))) [2, 3, 4] rfl ?_ ?_
  · refine .c rfl (haw) rfl <| .a 2 rfl <| ?_
    cases w1
    · exact .a 15 rfl <| .k [29, 2, 3, 4] rfl
    · refine .a 1 rfl <| .c rfl (hw2 ▸ large28_can c) rfl <| .a 2 rfl <| ?_
      cases w2
      · exact .a 8 rfl <| .c rfl (hw3 ▸ sseg_can c.T c.D c.x c.y (by have := largeQ_small (c := c) (by rw [hw2]); exact this.1) (by have := largeQ_small (c := c) (by rw [hw2]); have := this.2.1; omega)) rfl <| .a 2 rfl <| .k [29, 2, 3, 4] rfl
      · exact .a 11 rfl <| .k [29, 2, 3, 4] rfl
  refine W_cond rfl (fun hc => ?_) (fun hc => ?_)
  · skip
    refine W_cs (.c rfl (awake28_can) rfl <| .a 1 rfl <| .k [6] rfl) ?_
    refine W_ret ?_
    exact ⟨_, _, ResL.of rfl, Pur.pure, rfl⟩
  · obtain ⟨hc1, hc2⟩ := Bool.or_eq_false_iff.1 hc
    have hy : largeQ c = false := by rw [hw2]; exact (Bool.or_eq_false_iff.1 hc1).2
    obtain ⟨s1, s2, s3⟩ := largeQ_small hy
    have hsg : sgB c.T c.D c.x c.y = true := by rw [hw3]; simpa using hc2
    obtain ⟨x, y, hx, hy2, hS, hsp0⟩ := stab_of hsg
    have hsp := rspath_can c.T [] c.x c.y
    rw [hsp0] at hsp
    rw [show c.x.toNat = x by omega, show c.y.toNat = y by omega] at hsp
    obtain ⟨p, hp⟩ : ∃ p, spathL c.T [] x y = p := ⟨_, rfl⟩
    rw [hp] at hS hsp
    unfold intsE at hsp
    rw [if_pos rfl] at hsp
    have hv := hS.valid
    have hF := hS.fol
    have ha := hF.arcs
    have hpos := hS.pos
    have hlt := hS.sp.len_lt hv hS.hy
    obtain ⟨g1, hg1⟩ : ∃ q, decide ((0 : Int) ≠ 0) = q := ⟨_, rfl⟩
    have hg1f : g1 = false := by rw [← hg1]; rfl
    obtain ⟨g2, hg2⟩ : ∃ q, decide ((p.length : Int) = 0) = q := ⟨_, rfl⟩
    have hg2f : g2 = false := by rw [← hg2]; exact decide_eq_false (by omega)
    clear hc
    refine W_skip ?_
    refine W_cs (.a 6 rfl <| .v (y_cP rfl (PurL.cons Pur.pure <| PurL.cons Pur.nils <| PurL.cons Pur.pure <| PurL.cons Pur.pure PurL.nil) (hsp)) rfl <| .a 5 rfl <| .k [2, 3, 4, 7, 8] rfl) ?_
    refine W_seq ?_
    refine W_csK 47 (.raw (.bool (g1 || g2))) [2, 3, 4, 7] rfl ?_ ?_
    · refine .a 1 rfl <| .v (y_q rfl (hg1)) rfl <| .a 1 rfl <| ?_
      cases g1
      · exact .a 2 rfl <| .v (y_q rfl (hg2)) rfl <| .a 1 rfl <| .k [47, 2, 3, 4, 7] rfl
      · exact .a 4 rfl <| .k [47, 2, 3, 4, 7] rfl
    refine W_cond rfl (fun h1 => ?_) (fun h1 => ?_)
    · rw [hg1f, hg2f] at h1
      exact absurd h1 (by decide)
    · obtain ⟨i, hi⟩ : ∃ i, a % p.length = i := ⟨_, rfl⟩
      obtain ⟨k, hk⟩ : ∃ k, b % p.length = k := ⟨_, rfl⟩
      have hil : i < p.length := by rw [← hi]; exact Nat.mod_lt _ hpos
      have hkl : k < p.length := by rw [← hk]; exact Nat.mod_lt _ hpos
      obtain ⟨g3, hg3⟩ : ∃ q, decide ((i : Int) ≤ (k : Int)) = q := ⟨_, rfl⟩
      have ht := rtailI_can c.T hv _ (ha _ (getD_mem (d := 0) hil))
      have hh := rheadI_can c.T hv _ (ha _ (getD_mem (d := 0) hkl))
      obtain ⟨w4, hw4⟩ : ∃ q, sgB c.T c.D (tailN c.T (p.getD i 0).toNat) (headN c.T (p.getD k 0).toNat) = q := ⟨_, rfl⟩
      refine W_skip ?_
      refine W_drs mixed (by kernel_rfl) (.v [4] (y_ix (0) rfl (show (0 : Int) ≤ 0 by decide) (show (0 : Int) < 2 by decide) rfl) rfl rfl <| .v [48] (y_ld rfl ((show [PV.raw (.int .u8 a), PV.raw (.int .u8 b)][0]? = some (PV.raw (.int .u8 a)) from rfl))) rfl rfl <| .v [49] (y_conv (c := (a : Int)) rfl Try.underlying5 Try.underlying3 rfl (wrap_in (by unfold In64; omega))) rfl rfl <| .a 2 rfl <| .v [50, 52] (y_rem (b := (p.length : Int)) (c := (i : Int)) rfl rfl rfl (by omega) (by rw [Int.tmod_eq_emod_of_nonneg (by omega), ← hi]; rfl)) rfl rfl <| .v [4] (y_ix (1) rfl (show (0 : Int) ≤ 1 by decide) (show (1 : Int) < 2 by decide) rfl) rfl rfl <| .v [54] (y_ld rfl ((show [PV.raw (.int .u8 a), PV.raw (.int .u8 b)][1]? = some (PV.raw (.int .u8 b)) from rfl))) rfl rfl <| .v [55] (y_conv (c := (b : Int)) rfl Try.underlying5 Try.underlying3 rfl (wrap_in (by unfold In64; omega))) rfl rfl <| .a 2 rfl <| .v [56, 58] (y_rem (b := (p.length : Int)) (c := (k : Int)) rfl rfl rfl (by omega) (by rw [Int.tmod_eq_emod_of_nonneg (by omega), ← hk]; rfl)) rfl rfl <| .a 2 rfl <| .k [2, 3, 7, 9, 10] rfl) ?_
      refine W_seq ?_
      refine W_drsK mixed (by kernel_rfl) 84 (.raw (.bool (g3 && !w4))) [2, 3] rfl ?_ ?_
      · refine .a 2 rfl <| .v [60, 61] (y_q rfl (hg3)) rfl rfl <| .a 1 rfl <| ?_
        cases g3
        · exact .a 21 rfl <| .k [84, 2, 3] rfl
        · exact .a 8 rfl <| .v [70, 71] (y_ix (i) rfl) rfl rfl <| .v [72] (y_ld rfl (ints_get p i hil)) rfl rfl <| .v [69, 73] (y_c rfl (ht)) rfl rfl <| .a 4 rfl <| .v [77, 78] (y_ix (k) rfl) rfl rfl <| .v [79] (y_ld rfl (ints_get p k hkl)) rfl rfl <| .v [76, 80] (y_c rfl (hh)) rfl rfl <| .v [65, 67, 74, 81] (y_c rfl (hw4 ▸ sseg_can c.T c.D _ _ s1 (by omega))) rfl rfl <| .a 2 rfl <| .k [84, 2, 3] rfl
      refine W_cond rfl (fun h2 => ?_) (fun h2 => ?_)
      · have h3 : g3 = true ∧ w4 = false := by simpa using h2
        obtain ⟨rfl, rfl⟩ := h3
        have h4 := hS.part (show i ≤ k by have := tt hg3; omega) hkl
        rw [hw4] at h4
        exact absurd h4 (by decide)
      · obtain ⟨g4, hg4⟩ : ∃ q, decide (up < 0) = q := ⟨_, rfl⟩
        obtain ⟨g5, hg5⟩ : ∃ q, decide ((c.D.length : Int) ≤ up) = q := ⟨_, rfl⟩
        refine W_skip ?_
        refine W_seq ?_
        refine W_csK 93 (.raw (.bool (g4 || g5))) [2, 3] rfl ?_ ?_
        · refine .a 1 rfl <| .v (y_q rfl (hg4)) rfl <| .a 1 rfl <| ?_
          cases g4
          · exact .a 4 rfl <| .v (y_q rfl (hg5)) rfl <| .a 1 rfl <| .k [93, 2, 3] rfl
          · exact .a 6 rfl <| .k [93, 2, 3] rfl
        refine W_cond rfl (fun h3 => ?_) (fun h3 => ?_)
        · skip
          refine W_cs (.a 1 rfl <| .k [6] rfl) ?_
          refine W_ret ?_
          exact ⟨_, _, ResL.of rfl, Pur.pure, rfl⟩
        · obtain ⟨rfl, rfl⟩ := Bool.or_eq_false_iff.1 h3
          obtain ⟨m, rfl⟩ := Int.eq_ofNat_of_zero_le (show 0 ≤ up by have := ff hg4; omega)
          have hml : m < c.D.length := by have := ff hg5; omega
          have hfw := sg_fewer hsg m
          have hsw := sseg_can c.T (c.D.set m false) c.x c.y s1 (by omega)
          rw [hfw] at hsw
          refine W_skip ?_
          refine W_rs ?_
          refine WR_l (l_emptySlice rfl (fok.sl.get rfl)) rfl <| WR_a 2 rfl <| WR_l (l_append rfl (fok.rk.get rfl) rfl rfl rfl (by rw [boolsP_len, Nat.mul_one]) (by unfold maxLen; omega)) rfl <| WR_a 1 rfl ?_
          refine WR_ren [1] (.c 2 <| .c 3 <| .c 11 <| .nil) (.kept rfl (.rowP (show 0 + c.D.length = c.D.length by omega) (show [] ++ boolsP c.D = boolsP c.D from rfl)) <| .nil) rfl rfl (WR_nil ?_)
          refine W_rs ?_
          refine WR_a 2 rfl <| WR_v (y_ix (m) rfl (by omega) (by omega)) rfl <| WR_loud0 ((by first | exact l_storeInts rfl (fok.tk.get rfl) rfl rfl rfl (by first | omega | (simp; omega)) | exact l_storeBools rfl (fok.tk.get rfl) rfl rfl rfl (by first | omega | (simp; omega)))) rfl rfl <| WR_k [3, 11] rfl ?_
          refine W_sto (σ' := [some (.row 4 1 (c.D.set m false).length (boolsP (c.D.set m false)))]) (by rw [List.length_set]; rfl) ?_
          refine W_cs (.a 7 rfl <| .v (y_cV rfl (PurL.cons Pur.pure (PurL.cons (Pur.ownL rfl PurL.pure) (PurL.cons Pur.pure (PurL.cons Pur.pure PurL.nil)))) (hsw)) rfl <| .a 1 rfl <| .k [6] rfl) ?_
          refine W_ret ?_
          exact ⟨_, _, ResL.of rfl, Pur.pure, rfl⟩
end PW
end Go.Proofs.Ytkgepjiebihodaa

namespace Go.Proofs.Ytkgepjiebihodaa.stableParts
set_option linter.unusedVariables false
set_option linter.unusedSimpArgs false
open Go.ChangeShapes Go.WideShapes Go.ChangeAt Go.RowKit
open Reg Mem PW

structure Pair8 where
  a : Nat
  b : Nat
  ha : a < 256
  hb : b < 256
theorem u8_of {n : Int} (hw : (Lit.int .u8 n).wf = true) : 0 ≤ n ∧ n ≤ 255 := by
  simp only [Lit.wf, Bool.and_eq_true, decide_eq_true_eq] at hw
  exact hw
set_option maxRecDepth 10000 in
theorem rd_pair8 {H : Type} {enc : TypeId × Value → H} {W : World} {base : Nat} {v : Value} {d : DataW H} {p : List MemPlace} (hv : Value.okWide Try.prog W .any base 42 v) (h : DataW.Trod enc Try.prog W 0 (fun _ => true) true 42 v d p) : ∃ u : Pair8, Rep EN W v (.agg [.raw (.int .u8 (u.a : Nat)), .raw (.int .u8 (u.b : Nat))]) := by
  have hC : Try.prog.cellsOf 42 = 2 := by kernel_rfl
  have k0 : Try.prog.cellsOf 5 = 1 := by kernel_rfl
  have hv2 : ∃ cs, v = .agg cs ∧ cs.size = Try.prog.cellsOf 42 := by
    unfold Value.okWide at hv
    simp only [Try.underlying42] at hv
    obtain ⟨cs, h1, h2, _⟩ := hv
    exact ⟨cs, h1, by simpa using h2⟩
  obtain ⟨cs, rfl, hsz⟩ := hv2
  rw [hC] at hsz
  obtain ⟨fuel, hf⟩ := h
  obtain ⟨cl⟩ := cs
  match cl, hsz with
  | [c0, c1], _ =>
    obtain ⟨xs, m, _, _, _, hlen, hg⟩ := DataW.trod_array Try.underlying42 hf
    match xs, hlen with
    | [y0, y1], _ =>
      have f0 : DataW.trod enc Try.prog W 0 (fun _ => true) true m 5 (([c0, c1].drop (0 * Try.prog.cellsOf 5)).take (Try.prog.cellsOf 5)) = some y0 := hg 0 (by omega)
      have f1 : DataW.trod enc Try.prog W 0 (fun _ => true) true m 5 (([c0, c1].drop (1 * Try.prog.cellsOf 5)).take (Try.prog.cellsOf 5)) = some y1 := hg 1 (by omega)
      rw [k0] at f0 f1
      obtain ⟨a, ha, _, hwa⟩ := DataW.trod_int Try.underlying5 f0
      obtain ⟨b, hb, _, hwb⟩ := DataW.trod_int Try.underlying5 f1
      simp at ha hb
      subst ha
      subst hb
      have ra := u8_of hwa
      have rb := u8_of hwb
      refine ⟨⟨a.toNat, b.toNat, by omega, by omega⟩, ?_⟩
      simp only
      rw [show ((a.toNat : Nat) : Int) = a by omega, show ((b.toNat : Nat) : Int) = b by omega]
      have hall : RepL EN W [.int .u8 a, .int .u8 b] [.raw (.int .u8 a), .raw (.int .u8 b)] := RepL.cons (.raw _) <| RepL.cons (.raw _) (RepL.nil _ _)
      exact .agg _ _ hall.1 (fun i x u h1 h2 => hall.2 i x u (by simpa using h1) h2)
set_option maxRecDepth 10000 in
theorem rd_i64 {H : Type} {enc : TypeId × Value → H} {W : World} {base : Nat} {v : Value} {d : DataW H} {p : List MemPlace} (hv : Value.okWide Try.prog W .any base 3 v) (h : DataW.Trod enc Try.prog W 0 (fun _ => true) true 3 v d p) : ∃ n : Int, Rep EN W v (num n) := by
  obtain ⟨n, rfl, _, _, hw⟩ := open_int Try.underlying3 hv h
  exact ⟨n, .raw _⟩
set_option maxRecDepth 100000 in
theorem lifted (os : Os) (started : os.Started) (H : Type) (enc : TypeId × Value → H) :
    ReturnsInHanded {} Try.checked os 7 .any (Rows.stablePartsSpec.pre6 enc Try.prog Try.f7 Rows.stablePartsRow.domain false) (Rows.stablePartsSpec.post enc Try.prog Try.f7 false true false false) := by
  refine returnsInHanded_of_change (C := Try.checked) own started (by kernel_rfl) Try.func7
    (ChangeSpec.witness6 (enc := enc) (C := Try.checked) false ⟨#[], #[.agg #[.int .i64 0, .slice none 0 0, .slice none 0 0, .slice none 0 0, .int .i64 0, .int .i64 0], .agg #[.int .u8 0, .int .u8 0], .int .i64 0], []⟩ 8 (by kernel_rfl) (by kernel_rfl) (by kernel_rfl) (by kernel_rfl)) ?_
  intro W base args ds gs before hval0 hW hcnd _
  have hval : ∀ (j : Nat) t v, Try.f7.params[j]? = some t → args[j]? = some v → Value.okWide Try.prog W .any base t v := hval0
  have hW' := hW
  obtain ⟨p, q, hA0, hV, rfl, hfz, hnd⟩ := hW
  have hA : DataW.TrodAll enc Try.prog W 0 (fun _ => true) true Try.f7.params.toList args.toList ds p := hA0
  rw [Try.params7] at hA hval
  obtain ⟨v0, vs0, d0, ds0, p0, q0, hargs, rfl, rfl, h0, r0⟩ := trodAll_cons hA
  obtain ⟨v1, vs1, d1, ds1, p1, q1, rfl, rfl, rfl, h1, r1⟩ := trodAll_cons r0
  obtain ⟨v2, vs2, d2, ds2, p2, q2, rfl, rfl, rfl, h2, r2⟩ := trodAll_cons r1
  obtain ⟨rfl, rfl, rfl⟩ := trodAll_nil r2
  obtain rfl : args = #[v0, v1, v2] := by cases args; simp_all
  obtain ⟨rfl, rfl⟩ := trodVars_none hV
  have lt0 := lt_of h0
  obtain ⟨c, R0⟩ := rd_query (hval 0 39 v0 rfl rfl) h0
  have lt1 := lt_of h1
  obtain ⟨⟨a, b, ha, hb⟩, R1⟩ := rd_pair8 (hval 1 42 v1 rfl rfl) h1
  have lt2 := lt_of h2
  obtain ⟨up, R2⟩ := rd_i64 (hval 2 3 v2 rfl rfl) h2
  clear hA0 hval0
  refine ((lawSParts_can c a b ha hb up) (fun _ => False) W #[v0, v1, v2] (fun _ h => h.elim) (noGlob _ W) (RepL.cons R0 (RepL.cons R1 (RepL.cons R2 (RepL.nil _ _))))).mono fun e W' ⟨x, he, bel, r, hr, hx⟩ => ?_
  subst hr
  cases hx
  subst he
  exact ⟨_, rfl, _, _, _, [], _, [], hW', trodAll_mk1 (shut_bool Try.underlying4 _), (trodAll_cons_mk (Below.trod laidOut (by kernel_rfl) (of_decide_eq_true (by kernel_rfl)) h0 bel lt0) (trodAll_cons_mk (Below.trod laidOut (by kernel_rfl) (of_decide_eq_true (by kernel_rfl)) h1 bel lt1) (trodAll_cons_mk (Below.trod laidOut (by kernel_rfl) (of_decide_eq_true (by kernel_rfl)) h2 bel lt2) trodAll_mk0))), rfl, bel.frame _, fun h => by cases h⟩

theorem over : Rows.stablePartsRow.holds Try.pinned (OpenSpec.ofChange Rows.stablePartsSpec) :=
  OpenClaim.holds_of_wide 7 Try.f7 rfl rfl rfl rfl rfl rfl rfl ⟨rfl, rfl, rfl, rfl, rfl⟩ rfl rfl rfl rfl rfl (by kernel_rfl) Try.func7 (by kernel_rfl)
    (of_decide_eq_true (by kernel_rfl)) (by unfold Func.isWrapper; first | (rw [if_pos (by decide +kernel)]; kernel_rfl) | (rw [if_neg (by decide +kernel)]; exact ⟨rfl, rfl⟩))
    (fun os started H enc _ => lifted os started H enc)

theorem proved : Rows.StablePartsSaid := over
end Go.Proofs.Ytkgepjiebihodaa.stableParts
