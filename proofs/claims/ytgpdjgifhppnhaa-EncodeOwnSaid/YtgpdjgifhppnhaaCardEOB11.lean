/- EncodeOwn returns true for every input: the list of a path is exact, expands to the path, and has at most as many segments as the path has arcs. No conditions. -/
import Derived.Test.YtgpdjgifhppnhaaCardEOB10
/- The ends of segments: package segment's Valid, End, the reference's. -/
namespace Go.Proofs.Ytgpdjgifhppnhaa
set_option linter.unusedVariables false
set_option linter.unusedSimpArgs false
namespace PW
open Go.RowKit Reg Mem Net

/-- The end of a segment from a node of a valid topology, or the error. -/
def endS (T : Topo) (s : Seg) (n : Int) : Int × Int := if segB T s = false then (0, 1) else if nodeB T n = false then (0, 2) else if s.kind = 1 then (s.num, 0) else if s.kind = 2 then (if tailN T s.num.toNat ≠ n then (0, 4) else (headN T s.num.toNat, 0)) else (0, 7)
def endV (x : Int × Int) : PV := .tuple [num x.1, num x.2]
set_option maxRecDepth 10000 in
set_option maxHeartbeats 1000000 in
theorem svalid_can (T : Topo) (hv : validB T = true) (s : Seg) : Can Try.prog 76 [topoV T, segV s] (· = flag (segB T s)) := by
  obtain ⟨p1, hp1⟩ : ∃ q, validB T = q := ⟨_, rfl⟩
  obtain ⟨p2, hp2⟩ : ∃ q, segB T s = q := ⟨_, rfl⟩
  have hll := links_le hv
  rw [hp2]
  have e1 : p1 = true := by rw [← hp1]; exact hv
  refine can_of Try.func76 rfl Try.ntmps76 rfl ?_
  refine W_cs (.a 3 rfl <| .k [2, 3] rfl) ?_
  refine W_csK 4 (.raw (.bool (p1 && p2))) [] rfl ?_ ?_
  · refine .a 1 rfl <| .c rfl (hp1 ▸ valid_can T) rfl <| .a 1 rfl <| ?_
    cases p1
    · exact .a 5 rfl <| .k [4] rfl
    · exact .a 2 rfl <| .c rfl (hp2 ▸ segm_can T (by omega) s) rfl <| .a 2 rfl <| .k [4] rfl
  refine W_ret ?_
  exact ⟨_, _, ResL.of rfl, Pur.pure, by rw [e1]; rfl⟩
set_option maxRecDepth 10000 in
set_option maxHeartbeats 1000000 in
theorem send_can (T : Topo) (hv : validB T = true) (s : Seg) (n : Int) : Can Try.prog 62 [topoV T, segV s, num n] (· = endV (endS T s n)) := by
  have hll := links_le hv
  refine can_of Try.func62 rfl Try.ntmps62 rfl ?_
  refine W_cs (.a 4 rfl <| .k [2, 3, 4] rfl) ?_
  refine W_seq ?_
  refine W_cs (.a 2 rfl <| .c rfl (svalid_can T hv s) rfl <| .a 1 rfl <| .k [2, 3, 4, 11] rfl) ?_
  refine W_cond rfl (fun h1 => ?_) (fun h1 => ?_)
  · have hs : segB T s = false := by simpa using h1
    refine W_cs (.a 2 rfl <| .k [6, 7] rfl) ?_
    refine W_ret ?_
    exact ⟨_, _, ResL.of rfl, Pur.pure, by unfold endS; rw [if_pos hs]; rfl⟩
  · have hs : ¬ segB T s = false := by simpa using h1
    have hst : segB T s = true := by simpa using h1
    refine W_skip ?_
    refine W_seq ?_
    refine W_cs (.a 2 rfl <| .c rfl (node_can T n) rfl <| .a 1 rfl <| .k [2, 3, 4, 15] rfl) ?_
    refine W_cond rfl (fun h2 => ?_) (fun h2 => ?_)
    · have hn : nodeB T n = false := by simpa using h2
      refine W_cs (.a 2 rfl <| .k [6, 7] rfl) ?_
      refine W_ret ?_
      exact ⟨_, _, ResL.of rfl, Pur.pure, by unfold endS; rw [if_neg hs, if_pos hn]; rfl⟩
    · have hn : ¬ nodeB T n = false := by simpa using h2
      refine W_skip ?_
      refine W_seq ?_
      refine W_cs (.a 2 rfl <| .k [2, 3, 4, 17] rfl) ?_
      refine W_block ?_
      refine W_cs (.a 2 rfl <| .k [2, 3, 4, 17, 18] rfl) ?_
      refine W_cond rfl (fun h3 => ?_) (fun h3 => ?_)
      · have hk : s.kind = 1 := tt h3
        refine W_cs (.a 4 rfl <| .k [6, 7] rfl) ?_
        refine W_ret ?_
        exact ⟨_, _, ResL.of rfl, Pur.pure, by unfold endS; rw [if_neg hs, if_neg hn, if_pos hk]; rfl⟩
      · have hk : ¬ s.kind = 1 := ff h3
        refine W_cs (.a 2 rfl <| .k [2, 3, 4, 22] rfl) ?_
        refine W_cond rfl (fun h4 => ?_) (fun h4 => ?_)
        · have hk2 : s.kind = 2 := tt h4
          have hab : arcB T s.num = true := by unfold segB at hst; rw [if_neg hk, if_pos hk2] at hst; exact hst
          refine W_seq ?_
          refine W_cs (.a 3 rfl <| .c rfl (tailI_can T s.num hab) rfl <| .a 2 rfl <| .k [3, 4, 29] rfl) ?_
          refine W_cond rfl (fun h5 => ?_) (fun h5 => ?_)
          · have ht : tailN T s.num.toNat ≠ n := tt h5
            refine W_cs (.a 2 rfl <| .k [6, 7] rfl) ?_
            refine W_ret ?_
            exact ⟨_, _, ResL.of rfl, Pur.pure, by unfold endS; rw [if_neg hs, if_neg hn, if_neg hk, if_pos hk2, if_pos ht]; rfl⟩
          · have ht : ¬ tailN T s.num.toNat ≠ n := ff h5
            refine W_skip ?_
            refine W_cs (.a 3 rfl <| .c rfl (headI_can T (by omega) s.num hab) rfl <| .a 2 rfl <| .k [6, 7] rfl) ?_
            refine W_ret ?_
            exact ⟨_, _, ResL.of rfl, Pur.pure, by unfold endS; rw [if_neg hs, if_neg hn, if_neg hk, if_pos hk2, if_neg ht]; rfl⟩
        · have hk2 : ¬ s.kind = 2 := ff h4
          refine W_skip ?_
          refine W_cs (.a 2 rfl <| .k [6, 7] rfl) ?_
          refine W_ret ?_
          exact ⟨_, _, ResL.of rfl, Pur.pure, by unfold endS; rw [if_neg hs, if_neg hn, if_neg hk, if_neg hk2]; rfl⟩
set_option maxRecDepth 10000 in
set_option maxHeartbeats 1000000 in
theorem rend_can (T : Topo) (hv : validB T = true) (s : Seg) (n : Int) : Can Try.prog 69 [topoV T, segV s, num n] (· = endV (endS T s n)) := by
  obtain ⟨g1, hg1⟩ : ∃ q, decide (n < 0) = q := ⟨_, rfl⟩
  obtain ⟨g2, hg2⟩ : ∃ q, decide (T.nodes ≤ n) = q := ⟨_, rfl⟩
  have hnb : nodeB T n = !(g1 || g2) := by rw [← hg1, ← hg2, ← Bool.decide_or, ← decide_not]; unfold nodeB; exact decide_eq_decide.2 (by omega)
  refine can_of Try.func69 rfl Try.ntmps69 rfl ?_
  refine W_cs (.a 4 rfl <| .k [2, 3, 4] rfl) ?_
  refine W_seq ?_
  refine W_block ?_
  refine W_cs (.a 2 rfl <| .c rfl (rseg_can T hv s) rfl <| .a 2 rfl <| .k [2, 3, 4, 8] rfl) ?_
  refine W_cond rfl (fun h1 => ?_) (fun h1 => ?_)
  · have hs : segB T s = false := by simpa using h1
    refine W_cs (.a 2 rfl <| .k [6, 7] rfl) ?_
    refine W_ret ?_
    exact ⟨_, _, ResL.of rfl, Pur.pure, by unfold endS; rw [if_pos hs]; rfl⟩
  · have hs : ¬ segB T s = false := by simpa using h1
    have hst : segB T s = true := by simpa using h1
    refine W_csK 13 (.raw (.bool (g1 || g2))) [2, 3, 4] rfl ?_ ?_
    · refine .a 1 rfl <| .v (y_q rfl (hg1)) rfl <| .a 1 rfl <| ?_
      cases g1
      · exact .a 3 rfl <| .v (y_q rfl (hg2)) rfl <| .a 2 rfl <| .k [13, 2, 3, 4] rfl
      · exact .a 6 rfl <| .k [13, 2, 3, 4] rfl
    refine W_cond rfl (fun h2 => ?_) (fun h2 => ?_)
    · have hn : nodeB T n = false := by rw [hnb, h2]; rfl
      refine W_cs (.a 2 rfl <| .k [6, 7] rfl) ?_
      refine W_ret ?_
      exact ⟨_, _, ResL.of rfl, Pur.pure, by unfold endS; rw [if_neg hs, if_pos hn]; rfl⟩
    · have hn : ¬ nodeB T n = false := by rw [hnb, h2]; simp
      refine W_cs (.a 4 rfl <| .k [2, 3, 4, 22] rfl) ?_
      refine W_cond rfl (fun h3 => ?_) (fun h3 => ?_)
      · have hk : s.kind = 1 := tt h3
        refine W_cs (.a 4 rfl <| .k [6, 7] rfl) ?_
        refine W_ret ?_
        exact ⟨_, _, ResL.of rfl, Pur.pure, by unfold endS; rw [if_neg hs, if_neg hn, if_pos hk]; rfl⟩
      · have hk : ¬ s.kind = 1 := ff h3
        refine W_cs (.a 4 rfl <| .k [2, 3, 4, 28] rfl) ?_
        refine W_cond rfl (fun h4 => ?_) (fun h4 => ?_)
        · have hk2 : ¬ s.kind = 2 := tt h4
          refine W_cs (.a 2 rfl <| .k [6, 7] rfl) ?_
          refine W_ret ?_
          exact ⟨_, _, ResL.of rfl, Pur.pure, by unfold endS; rw [if_neg hs, if_neg hn, if_neg hk, if_neg hk2]; rfl⟩
        · have hk2 : s.kind = 2 := Classical.byContradiction (ff h4)
          have hab : arcB T s.num = true := by unfold segB at hst; rw [if_neg hk, if_pos hk2] at hst; exact hst
          refine W_cs (.a 3 rfl <| .c rfl (rtailI_can T hv s.num hab) rfl <| .a 3 rfl <| .k [3, 4, 32] rfl) ?_
          refine W_cond rfl (fun h5 => ?_) (fun h5 => ?_)
          · have ht : tailN T s.num.toNat ≠ n := tt h5
            refine W_cs (.a 2 rfl <| .k [6, 7] rfl) ?_
            refine W_ret ?_
            exact ⟨_, _, ResL.of rfl, Pur.pure, by unfold endS; rw [if_neg hs, if_neg hn, if_neg hk, if_pos hk2, if_pos ht]; rfl⟩
          · have ht : ¬ tailN T s.num.toNat ≠ n := ff h5
            refine W_skip ?_
            refine W_cs (.a 3 rfl <| .c rfl (rheadI_can T hv s.num hab) rfl <| .a 2 rfl <| .k [6, 7] rfl) ?_
            refine W_ret ?_
            exact ⟨_, _, ResL.of rfl, Pur.pure, by unfold endS; rw [if_neg hs, if_neg hn, if_neg hk, if_pos hk2, if_neg ht]; rfl⟩
/-- The ends of a list of segments from a node, or the first error. -/
def endsL (T : Topo) : Int → List Seg → List Int × Int
  | _, [] => ([], 0)
  | n, s :: l => if (endS T s n).2 ≠ 0 then ([], (endS T s n).2) else ((endS T s n).1 :: (endsL T (endS T s n).1 l).1, (endsL T (endS T s n).1 l).2)
/-- With the checks of the arguments. -/
def endsE (T : Topo) (l : List Seg) (n : Int) : Int := if validB T = false then 1 else if nodeB T n = false then 2 else (endsL T n l).2
theorem segs_cons (l : List Seg) (k : Nat) (h : k < l.length) : ∃ s, l[k]? = some s ∧ l.drop k = s :: l.drop (k + 1) := ⟨l[k], List.getElem?_eq_getElem h, List.drop_eq_getElem_cons h⟩
set_option maxRecDepth 10000 in
set_option maxHeartbeats 1000000 in
theorem rends_can (T : Topo) (l : List Seg) (n : Int) (hl : l.length ≤ 1000) : Can Try.prog 48 [topoV T, segsV l, num n] (· = intsE (endsE T l n) (endsL T n l).1) := by
  obtain ⟨g1, hg1⟩ : ∃ q, decide (n < 0) = q := ⟨_, rfl⟩
  obtain ⟨g2, hg2⟩ : ∃ q, decide (T.nodes ≤ n) = q := ⟨_, rfl⟩
  have hnb : nodeB T n = !(g1 || g2) := by rw [← hg1, ← hg2, ← Bool.decide_or, ← decide_not]; unfold nodeB; exact decide_eq_decide.2 (by omega)
  refine can_of Try.func48 rfl Try.ntmps48 rfl ?_
  refine W_cs (.a 3 rfl <| .k [1, 2, 3] rfl) ?_
  refine W_seq ?_
  refine W_cs (.a 1 rfl <| .c rfl (rvalid_can T) rfl <| .a 1 rfl <| .k [1, 2, 3, 14] rfl) ?_
  refine W_cond rfl (fun h1 => ?_) (fun h1 => ?_)
  · have hv : validB T = false := by simpa using h1
    refine W_cs (.a 2 rfl <| .k [6, 7] rfl) ?_
    refine W_ret ?_
    exact ⟨_, _, ResL.of rfl, Pur.tupleL (PurL.cons Pur.nils (PurL.cons Pur.pure PurL.nil)), by unfold intsE endsE; rw [if_pos hv]; rfl⟩
  · have hv : validB T = true := by simpa using h1
    have hv' : ¬ validB T = false := by simpa using h1
    refine W_skip ?_
    refine W_seq ?_
    refine W_csK 22 (.raw (.bool (g1 || g2))) [1, 2, 3] rfl ?_ ?_
    · refine .a 1 rfl <| .v (y_q rfl (hg1)) rfl <| .a 1 rfl <| ?_
      cases g1
      · exact .a 3 rfl <| .v (y_q rfl (hg2)) rfl <| .a 1 rfl <| .k [22, 1, 2, 3] rfl
      · exact .a 5 rfl <| .k [22, 1, 2, 3] rfl
    refine W_cond rfl (fun h2 => ?_) (fun h2 => ?_)
    · have hn : nodeB T n = false := by rw [hnb, h2]; rfl
      refine W_cs (.a 2 rfl <| .k [6, 7] rfl) ?_
      refine W_ret ?_
      exact ⟨_, _, ResL.of rfl, Pur.tupleL (PurL.cons Pur.nils (PurL.cons Pur.pure PurL.nil)), by unfold intsE endsE; rw [if_neg hv', if_pos hn]; rfl⟩
    · have hn : ¬ nodeB T n = false := by rw [hnb, h2]; simp
      have hE : endsE T l n = (endsL T n l).2 := by unfold endsE; rw [if_neg hv', if_neg hn]
      rw [hE]
      refine W_skip ?_
      refine W_cs (.a 1 rfl <| .k [1, 2, 3, 8] rfl) ?_
      refine W_adopt 8 3 1 rfl ?_
      refine W_seq ?_
      refine W_cs (.a 1 rfl <| .k [1, 2, 3, 8, 9] rfl) ?_
      refine W_block ?_
      refine W_k [1, 2, 3, 8, 9] rfl ?_
      refine W_loop (fun r st => ∃ (k : Nat) (m : Int) (es : List Int), k ≤ l.length ∧ r = l.length - k ∧ es.length = k ∧ (endsL T n l).2 = (endsL T m (l.drop k)).2 ∧ ((endsL T n l).2 = 0 → (endsL T n l).1 = es ++ (endsL T m (l.drop k)).1) ∧ st = ⟨[(1, segsV l), (2, num m), (3, .pin (topoP T) 0), (8, .own 0), (9, num k)], [irow es]⟩) l.length ⟨0, n, [], by omega, by omega, rfl, rfl, fun _ => rfl, rfl⟩ ?_
      rintro r st ⟨k, m, es, hk, rfl, hel, he1, he2, rfl⟩
      refine W_seq ?_
      refine W_cs (.a 4 rfl <| .k [1, 2, 3, 8, 9, 26] rfl) ?_
      refine W_cond rfl (fun h3 => ?_) (fun h3 => ?_)
      · have hlt : k < l.length := by have := tt h3; omega
        obtain ⟨s, hs, hdr⟩ := segs_cons l k hlt
        rw [hdr] at he1 he2
        simp only [endsL] at he1 he2
        refine W_skip ?_
        refine W_seq ?_
        refine W_block ?_
        refine W_drs mixed (by kernel_rfl) (.a 3 rfl <| .v [31, 32] (y_ix ((k * 2)) rfl) rfl rfl <| .v [33] (y_la rfl (segs_drop l k s hs) rfl) rfl rfl <| .a 1 rfl <| .v [30, 34, 35] (y_c rfl (rend_can T hv s m)) rfl rfl <| .a 5 rfl <| .k [1, 3, 8, 9, 10, 11] rfl) ?_
        refine W_seq ?_
        refine W_cs (.a 2 rfl <| .k [1, 3, 8, 9, 10, 11, 40] rfl) ?_
        refine W_cond rfl (fun h4 => ?_) (fun h4 => ?_)
        · have hx : (endS T s m).2 ≠ 0 := tt h4
          rw [if_pos hx] at he1
          refine W_cs (.a 3 rfl <| .k [6, 7] rfl) ?_
          refine W_ret ?_
          exact ⟨_, _, ResL.of rfl, Pur.tupleL (PurL.cons Pur.nils (PurL.cons Pur.pure PurL.nil)), by unfold intsE; rw [he1, if_neg hx]; rfl⟩
        · have hx : ¬ (endS T s m).2 ≠ 0 := ff h4
          rw [if_neg hx] at he1 he2
          refine W_skip ?_
          refine W_rs ?_
          refine WR_a 3 rfl <| WR_l (l_append rfl (fok.rk.get rfl) rfl rfl rfl rfl (by unfold maxLen; omega)) rfl <| WR_a 1 rfl ?_
          refine WR_ren [1] (.c 1 <| .c 3 <| .c 8 <| .c 9 <| .c 10 <| .nil) (.kept rfl (.rowP rfl (intsP_snoc _ _)) <| .nil) rfl rfl (WR_nil ?_)
          refine W_chain (.a 2 rfl <| .k [1, 2, 3, 8, 9] rfl) ?_
          refine W_chain (.a 1 rfl <| .v (y_ar rfl) rfl <| .a 1 rfl <| .k [1, 2, 3, 8, 9] rfl) ?_
          refine ⟨l.length - (k + 1), by omega, k + 1, (endS T s m).1, es ++ [(endS T s m).1], by omega, rfl, by simp [hel], he1, fun h => by rw [he2 h, List.append_assoc]; rfl, ?_⟩
          unfold irow
          simp only [List.length_append, List.length_singleton]
          rfl
      · have hke : k = l.length := by have := ff h3; omega
        subst hke
        rw [List.drop_length] at he1 he2
        simp only [endsL, List.append_nil] at he1 he2
        have he3 := he2 he1
        refine W_exit ?_
        refine W_cs (.a 3 rfl <| .k [6, 7] rfl) ?_
        refine W_ret ?_
        exact ⟨_, _, ResL.of rfl, Pur.tupleL (PurL.cons (Pur.ownL rfl PurL.pure) (PurL.cons Pur.pure PurL.nil)), by unfold intsE; rw [he1, if_pos rfl, he3]; rfl⟩
set_option maxRecDepth 10000 in
set_option maxHeartbeats 1000000 in
theorem sends_can (T : Topo) (l : List Seg) (n : Int) (hl : l.length ≤ 1000) : Can Try.prog 42 [topoV T, segsV l, num n] (· = intsE (endsE T l n) (endsL T n l).1) := by
  refine can_of Try.func42 rfl Try.ntmps42 rfl ?_
  refine W_cs (.a 3 rfl <| .k [1, 2, 3] rfl) ?_
  refine W_seq ?_
  refine W_cs (.a 1 rfl <| .c rfl (valid_can T) rfl <| .a 1 rfl <| .k [1, 2, 3, 15] rfl) ?_
  refine W_cond rfl (fun h1 => ?_) (fun h1 => ?_)
  · have hv : validB T = false := by simpa using h1
    refine W_cs (.a 2 rfl <| .k [6, 7] rfl) ?_
    refine W_ret ?_
    exact ⟨_, _, ResL.of rfl, Pur.tupleL (PurL.cons Pur.nils (PurL.cons Pur.pure PurL.nil)), by unfold intsE endsE; rw [if_pos hv]; rfl⟩
  · have hv : validB T = true := by simpa using h1
    have hv' : ¬ validB T = false := by simpa using h1
    refine W_skip ?_
    refine W_seq ?_
    refine W_cs (.a 2 rfl <| .c rfl (node_can T n) rfl <| .a 1 rfl <| .k [1, 2, 3, 19] rfl) ?_
    refine W_cond rfl (fun h2 => ?_) (fun h2 => ?_)
    · have hn : nodeB T n = false := by simpa using h2
      refine W_cs (.a 2 rfl <| .k [6, 7] rfl) ?_
      refine W_ret ?_
      exact ⟨_, _, ResL.of rfl, Pur.tupleL (PurL.cons Pur.nils (PurL.cons Pur.pure PurL.nil)), by unfold intsE endsE; rw [if_neg hv', if_pos hn]; rfl⟩
    · have hn : ¬ nodeB T n = false := by simpa using h2
      have hE : endsE T l n = (endsL T n l).2 := by unfold endsE; rw [if_neg hv', if_neg hn]
      rw [hE]
      refine W_skip ?_
      refine W_cs (.a 1 rfl <| .k [1, 2, 3, 8] rfl) ?_
      refine W_adopt 8 3 1 rfl ?_
      refine W_seq ?_
      refine W_cs (.a 3 rfl <| .k [2, 3, 8, 20, 21, 22] rfl) ?_
      refine W_block ?_
      refine W_k [2, 3, 8, 20, 21, 22] rfl ?_
      refine W_loop (fun r st => ∃ (k : Nat) (m : Int) (es : List Int), k ≤ l.length ∧ r = l.length - k ∧ es.length = k ∧ (endsL T n l).2 = (endsL T m (l.drop k)).2 ∧ ((endsL T n l).2 = 0 → (endsL T n l).1 = es ++ (endsL T m (l.drop k)).1) ∧ st = ⟨[(2, num m), (3, .pin (topoP T) 0), (8, .own 0), (20, segsV l), (21, num l.length), (22, num k)], [irow es]⟩) l.length ⟨0, n, [], by omega, by omega, rfl, rfl, fun _ => rfl, rfl⟩ ?_
      rintro r st ⟨k, m, es, hk, rfl, hel, he1, he2, rfl⟩
      refine W_cs (.a 1 rfl <| .k [2, 3, 8, 20, 21, 22, 23] rfl) ?_
      refine W_seq ?_
      refine W_cond rfl (fun h3 => ?_) (fun h3 => ?_)
      · have hlt : k < l.length := by have := tt h3; omega
        obtain ⟨s, hs, hdr⟩ := segs_cons l k hlt
        rw [hdr] at he1 he2
        simp only [endsL] at he1 he2
        refine W_skip ?_
        refine W_seq ?_
        refine W_block ?_
        refine W_rs ?_
        refine WR_v (y_ix ((k * 2)) rfl) rfl <| WR_v (y_la rfl (segs_drop l k s hs) rfl) rfl <| WR_a 2 rfl <| WR_k [2, 3, 8, 10, 20, 21, 22] rfl ?_
        refine W_sto (σ' := [irow es, some (.cells 43 (segP s))]) rfl ?_
        refine W_cs (.a 3 rfl <| .c rfl (send_can T hv s m) rfl <| .a 5 rfl <| .k [3, 8, 11, 12, 20, 21, 22] rfl) ?_
        refine W_seq ?_
        refine W_cs (.a 2 rfl <| .k [3, 8, 11, 12, 20, 21, 22, 34] rfl) ?_
        refine W_cond rfl (fun h4 => ?_) (fun h4 => ?_)
        · have hx : (endS T s m).2 ≠ 0 := tt h4
          rw [if_pos hx] at he1
          refine W_cs (.a 3 rfl <| .k [6, 7] rfl) ?_
          refine W_ret ?_
          exact ⟨_, _, ResL.of rfl, Pur.tupleL (PurL.cons Pur.nils (PurL.cons Pur.pure PurL.nil)), by unfold intsE; rw [he1, if_neg hx]; rfl⟩
        · have hx : ¬ (endS T s m).2 ≠ 0 := ff h4
          rw [if_neg hx] at he1 he2
          refine W_skip ?_
          refine W_rs ?_
          refine WR_a 3 rfl <| WR_l (l_append rfl (fok.rk.get rfl) rfl rfl rfl rfl (by unfold maxLen; omega)) rfl <| WR_a 1 rfl ?_
          refine WR_ren [2] (.c 3 <| .c 8 <| .c 11 <| .c 20 <| .c 21 <| .c 22 <| .nil) (.kept rfl (.rowP rfl (intsP_snoc _ _)) <| .nil) rfl rfl (WR_nil ?_)
          refine W_chain (.a 2 rfl <| .k [2, 3, 8, 20, 21, 22] rfl) ?_
          refine W_chain (.v (y_ar rfl) rfl <| .a 1 rfl <| .k [2, 3, 8, 20, 21, 22] rfl) ?_
          refine ⟨l.length - (k + 1), by omega, k + 1, (endS T s m).1, es ++ [(endS T s m).1], by omega, rfl, by simp [hel], he1, fun h => by rw [he2 h, List.append_assoc]; rfl, ?_⟩
          unfold irow
          simp only [List.length_append, List.length_singleton]
          rfl
      · have hke : k = l.length := by have := ff h3; omega
        subst hke
        rw [List.drop_length] at he1 he2
        simp only [endsL, List.append_nil] at he1 he2
        have he3 := he2 he1
        refine W_exit ?_
        refine W_cs (.a 3 rfl <| .k [6, 7] rfl) ?_
        refine W_ret ?_
        exact ⟨_, _, ResL.of rfl, Pur.tupleL (PurL.cons (Pur.ownL rfl PurL.pure) (PurL.cons Pur.pure PurL.nil)), by unfold intsE; rw [he1, if_pos rfl, he3]; rfl⟩
end PW
end Go.Proofs.Ytgpdjgifhppnhaa

/- Exact lists and expansions, as plain mathematics. -/
namespace Go.Proofs.Ytgpdjgifhppnhaa
set_option linter.unusedVariables false
set_option linter.unusedSimpArgs false
namespace PW
open Go.RowKit Reg Mem Net

/-- The first index from i on whose node is x, or the last index. -/
def fstJ (T : Topo) (n : Int) (p : List Int) (x : Int) : Nat → Nat → Nat
  | 0, i => i
  | f + 1, i => if endL T n (p.take i) = x then i else fstJ T n p x f (i + 1)
/-- Where a segment leads from i. -/
noncomputable def stepX (T : Topo) (D : List Bool) (n : Int) (p : List Int) (i : Nat) (s : Seg) : Option Nat :=
  if s.kind = 2 ∧ i < p.length ∧ p.getD i 0 = s.num then some (i + 1)
  else if s.kind = 1 then (if endL T n (p.take (fstJ T n p s.num (p.length - i) i)) = s.num ∧ covB T D n p i (fstJ T n p s.num (p.length - i) i) = true then some (fstJ T n p s.num (p.length - i) i) else none)
  else none
/-- Whether a list is exact for the path from i on. -/
noncomputable def exB (T : Topo) (D : List Bool) (n : Int) (p : List Int) : Nat → List Seg → Bool
  | i, [] => decide (i = p.length)
  | i, s :: l => match stepX T D n p i s with
    | some j => exB T D n p j l
    | none => false
/-- The path of a list from a node, or the error. -/
noncomputable def expL (T : Topo) (D : List Bool) : Int → List Seg → Int × List Int
  | _, [] => (0, [])
  | x, s :: l => if s.kind = 2 then (if downN D s.num.toNat = true then (7, []) else ((expL T D (endS T s x).1 l).1, s.num :: (expL T D (endS T s x).1 l).2))
    else if spE T D x (endS T s x).1 ≠ 0 then (spE T D x (endS T s x).1, [])
    else if uniqB T D x (endS T s x).1 = false then (9, [])
    else ((expL T D (endS T s x).1 l).1, spathL T D x.toNat (endS T s x).1.toNat ++ (expL T D (endS T s x).1 l).2)
noncomputable def expE (T : Topo) (D : List Bool) (l : List Seg) (n : Int) : Int :=
  if (validB T && fitsB T D) = false then 1 else if endsE T l n ≠ 0 then endsE T l n else if (expL T D n l).1 ≠ 0 then (expL T D n l).1 else pathX T n (expL T D n l).2
section
variable {T : Topo} {D : List Bool} {n : Int} {p : List Int}
theorem fst_ge (x : Int) : ∀ f i, i ≤ fstJ T n p x f i ∧ fstJ T n p x f i ≤ i + f
  | 0, i => by simp [fstJ]
  | f + 1, i => by
    simp only [fstJ]
    split
    · omega
    · have := fst_ge x f (i + 1); omega
theorem fst_no (x : Int) : ∀ f i k, i ≤ k → k < fstJ T n p x f i → endL T n (p.take k) ≠ x
  | 0, i, k, h1, h2 => by simp only [fstJ] at h2; omega
  | f + 1, i, k, h1, h2 => by
    simp only [fstJ] at h2
    split at h2
    · omega
    · rename_i h3
      by_cases e : k = i
      · subst e; exact h3
      · exact fst_no x f (i + 1) k (by omega) h2
theorem fst_is (x : Int) : ∀ f i j, i ≤ j → j ≤ i + f → endL T n (p.take j) = x → (∀ k, i ≤ k → k < j → endL T n (p.take k) ≠ x) → fstJ T n p x f i = j
  | 0, i, j, h1, h2, _, _ => by simp only [fstJ]; omega
  | f + 1, i, j, h1, h2, h3, h4 => by
    simp only [fstJ]
    by_cases e : i = j
    · subst e; rw [if_pos h3]
    · rw [if_neg (h4 i (Nat.le_refl _) (by omega))]
      exact fst_is x f (i + 1) j (by omega) (by omega) h3 (fun k h5 h6 => h4 k (by omega) h6)
theorem Ch.fin {d : Nat} {m : Nat} {q : List Int} (h : Ch T D d m q) : endL T (m : Int) q = (d : Int) := by
  induction h with
  | nil => rfl
  | @cons n a m p ha ht hu hm ho hp ih => simp only [endL, Int.toNat_natCast, hm]; exact ih
/-- A covered part ends where its end's node is met first. -/
theorem cov_first (h : Fol T D n p) {i j : Nat} (hij : i ≤ j) (hj : j ≤ p.length) (hc : covB T D n p i j = true) : fstJ T n p (endL T n (p.take j)) (p.length - i) i = j := by
  have ha := h.arcs
  have hv := h.valid
  refine fst_is _ _ _ _ hij (by omega) rfl fun k h1 h2 he => ?_
  obtain ⟨u, hu, huN⟩ := end_node hv h.node ha i (by omega)
  obtain ⟨y, hy, hyN⟩ := end_node hv h.node ha j hj
  obtain ⟨z, hz, hzN⟩ := end_node hv h.node ha k (by omega)
  have hzy : z = y := by omega
  subst hzy
  obtain ⟨c1, c2⟩ := (cov_iff h hij hj hu hy).1 hc
  rw [part_split p h1 (show k ≤ j by omega)] at c1
  obtain ⟨c3, c4⟩ := c1.suffix hv hyN c2 (h.ch h1 (by omega) hu hz)
  have := c3.self
  have hl := part_len p (show k ≤ j by omega) hj
  rw [this] at hl
  simp at hl
  omega
theorem part_drop (p : List Int) {i j : Nat} (hij : i ≤ j) (hj : j ≤ p.length) : p.drop i = partL p i j ++ p.drop j := by
  have h1 : p.drop j = (p.drop i).drop (j - i) := by rw [List.drop_drop]; congr 1; omega
  rw [h1]
  unfold partL
  exact (List.take_append_drop _ _).symm
theorem spE_zero {x y : Nat} (hv : validB T = true) (hf : fitsB T D = true) (hx : (x : Int) < T.nodes) (hy : (y : Int) < T.nodes) : spE T D x y = if dN T D y x < 0 then 11 else 0 := by
  have hne : nodeE T D (x : Int) (y : Int) = 0 := by
    unfold nodeE
    rw [if_pos (chk_of hv hf hy), nodeB_iff.2 ⟨by omega, hx⟩]
    rfl
  unfold spE; rw [if_pos hne]; simp only [Int.toNat_natCast]
theorem uniq_iff {x y : Nat} (hv : validB T = true) (hf : fitsB T D = true) (hx : (x : Int) < T.nodes) (hy : (y : Int) < T.nodes) : uniqB T D x y = true ↔ cntS T D y x = 1 := by
  have hne : nodeE T D (x : Int) (y : Int) = 0 := by
    unfold nodeE
    rw [if_pos (chk_of hv hf hy), nodeB_iff.2 ⟨by omega, hx⟩]
    rfl
  unfold uniqB
  rw [hne]
  simp
/-- A part that is covered is the shortest path, and the other way round. -/
theorem cov_sp (h : Fol T D n p) {i j x y : Nat} (hij : i ≤ j) (hj : j ≤ p.length) (hx : endL T n (p.take i) = (x : Int)) (hy : endL T n (p.take j) = (y : Int)) : covB T D n p i j = true ↔ spE T D x y = 0 ∧ uniqB T D x y = true ∧ spathL T D x y = partL p i j := by
  have ha := h.arcs
  have hv := h.valid
  obtain ⟨x', hx', hxN⟩ := end_node hv h.node ha i (by omega)
  obtain ⟨y', hy', hyN⟩ := end_node hv h.node ha j hj
  have e1 : x' = x := by omega
  have e2 : y' = y := by omega
  subst e1
  subst e2
  rw [cov_iff h hij hj hx hy, spE_zero hv h.fits hxN hyN, uniq_iff hv h.fits hxN hyN]
  constructor
  · rintro ⟨h1, h2⟩
    have h0 := (h1.cost hv hyN).2
    exact ⟨by rw [if_neg (by omega)], h2, (spath_sp hv hyN hxN h0).unique hv hyN h1 h2⟩
  · rintro ⟨h1, h2, h3⟩
    have h0 : 0 ≤ dN T D y' x' := by
      split at h1
      · omega
      · omega
    exact ⟨by rw [← h3]; exact spath_sp hv hyN hxN h0, h2⟩
/-- A list is exact if and only if it expands to the path. -/
theorem ex_iff (h : Fol T D n p) : ∀ (l : List Seg) (i : Nat), i ≤ p.length → (exB T D n p i l = true ↔ (endsL T (endL T n (p.take i)) l).2 = 0 ∧ (expL T D (endL T n (p.take i)) l).1 = 0 ∧ (expL T D (endL T n (p.take i)) l).2 = p.drop i)
  | [], i, hi => by
    simp only [exB, endsL, expL, decide_eq_true_eq, true_and]
    constructor
    · rintro rfl; simp
    · intro h
      have := congrArg List.length h
      simp at this
      omega
  | s :: l, i, hi => by
    have ha := h.arcs
    have hv := h.valid
    obtain ⟨x, hx, hxN⟩ := end_node hv h.node ha i hi
    have hnb : nodeB T (x : Int) = true := nodeB_iff.2 ⟨by omega, hxN⟩
    rw [hx]
    simp only [exB]
    by_cases hk2 : s.kind = 2
    · by_cases hp : i < p.length ∧ p.getD i 0 = s.num
      · have hst : stepX T D n p i s = some (i + 1) := by unfold stepX; rw [if_pos ⟨hk2, hp⟩]
        have hmem := getD_mem (d := 0) hp.1
        have hab := ha _ hmem
        have htl := part_tail h hp.1 hx
        have hup := h.up _ hmem
        have hed := endL_step T n p i hp.1
        rw [hp.2] at hab htl hup hed
        have hsg : segB T s = true := by unfold segB; rw [if_neg (by omega), if_pos hk2]; exact hab
        have hes : endS T s x = (endL T n (p.take (i + 1)), 0) := by
          unfold endS
          rw [if_neg (by rw [hsg]; simp), if_neg (by rw [hnb]; simp), if_neg (by omega), if_pos hk2, if_neg (by rw [htl]; simp), hed]
        rw [hst]
        simp only [endsL, expL]
        rw [hes, if_neg (by simp), if_pos hk2, if_neg (by rw [hup]; simp)]
        simp only
        rw [ex_iff h l (i + 1) hp.1, drop_cons p i hp.1, hp.2]
        simp
      · have hst : stepX T D n p i s = none := by unfold stepX; rw [if_neg (fun e => hp e.2), if_neg (by omega)]
        rw [hst]
        constructor
        · intro e; cases e
        · rintro ⟨_, e2, e3⟩
          exfalso
          simp only [expL] at e2 e3
          rw [if_pos hk2] at e2 e3
          split at e2
          · simp at e2
          · rename_i hd
            rw [if_neg hd] at e3
            simp only at e3
            have hlt : i < p.length := by
              have := congrArg List.length e3
              simp at this
              omega
            rw [drop_cons p i hlt] at e3
            exact hp ⟨hlt, (List.cons.inj e3).1.symm⟩
    · by_cases hk1 : s.kind = 1
      · have hes : (endS T s x).2 = 0 → nodeB T s.num = true ∧ (endS T s x).1 = s.num := fun e => by
          unfold endS at e ⊢
          split at e
          · simp at e
          · rename_i h1
            rw [if_neg h1]
            rw [if_neg (by rw [hnb]; simp), if_pos hk1]
            have hsg : segB T s = true := by simpa using h1
            unfold segB at hsg
            rw [if_pos hk1] at hsg
            exact ⟨hsg, rfl⟩
        constructor
        · intro e
          cases hst : stepX T D n p i s with
          | none => rw [hst] at e; cases e
          | some j =>
            rw [hst] at e
            simp only at e
            unfold stepX at hst
            rw [if_neg (fun e => hk2 e.1), if_pos hk1] at hst
            split at hst
            · rename_i hc
              simp only [Option.some.injEq] at hst
              rw [hst] at hc
              have hge := fst_ge (T := T) (n := n) (p := p) s.num (p.length - i) i
              rw [hst] at hge
              have hj : j ≤ p.length := by omega
              obtain ⟨y, hy, hyN⟩ := end_node hv h.node ha j hj
              obtain ⟨c1, c2, c3⟩ := (cov_sp h hge.1 hj hx hy).1 hc.2
              have hsy : s.num = (y : Int) := by rw [← hc.1]; exact hy
              have hsg : segB T s = true := by unfold segB; rw [if_pos hk1, hsy]; exact nodeB_iff.2 ⟨by omega, hyN⟩
              have hes2 : endS T s x = ((y : Int), 0) := by
                unfold endS
                rw [if_neg (by rw [hsg]; simp), if_neg (by rw [hnb]; simp), if_pos hk1, hsy]
              have ih := (ex_iff h l j hj).1 e
              rw [hy] at ih
              simp only [endsL, expL]
              rw [hes2, if_neg (by simp), if_neg hk2, if_neg (by simpa using c1), if_neg (by rw [c2]; simp)]
              simp only [Int.toNat_natCast]
              refine ⟨ih.1, ih.2.1, ?_⟩
              rw [ih.2.2, c3, ← part_drop p hge.1 hj]
            · cases hst
        · rintro ⟨e1, e2, e3⟩
          simp only [endsL] at e1
          by_cases h0 : (endS T s x).2 = 0
          · rw [if_neg (by rw [h0]; simp)] at e1
            simp only at e1
            obtain ⟨hn, he⟩ := hes h0
            obtain ⟨hn0, hnN⟩ := nodeB_iff.1 hn
            obtain ⟨y, hy⟩ := Int.eq_ofNat_of_zero_le hn0
            have hyN : (y : Int) < T.nodes := by omega
            rw [he] at e1
            simp only [expL] at e2 e3
            rw [if_neg hk2, he] at e2 e3
            rw [hy] at e1 e2 e3
            split at e2
            · rename_i h5; simp only at e2; exact absurd e2 h5
            · rename_i h5
              rw [if_neg h5] at e3
              split at e2
              · simp at e2
              · rename_i h6
                rw [if_neg h6] at e3
                simp only [Int.toNat_natCast] at e2 e3
                have h5' : spE T D x y = 0 := by simpa using h5
                have h6' : uniqB T D x y = true := by simpa using h6
                rw [spE_zero hv h.fits hxN hyN] at h5'
                have hd0 : 0 ≤ dN T D y x := by
                  split at h5'
                  · omega
                  · omega
                have hsp := spath_sp hv hyN hxN hd0
                have hlen : (spathL T D x y).length ≤ p.length - i := by
                  have := congrArg List.length e3
                  simp at this
                  omega
                have hj : i + (spathL T D x y).length ≤ p.length := by omega
                generalize hjj : i + (spathL T D x y).length = j at hj
                have hij : i ≤ j := by omega
                have hpd := part_drop p hij hj
                have hpl := part_len p hij hj
                rw [← e3] at hpd
                obtain ⟨hq1, hq2⟩ := List.append_inj hpd (by omega)
                have hyj : endL T n (p.take j) = (y : Int) := by
                  rw [take_part p hij, endL_append, hx, ← hq1]
                  exact hsp.ch.fin
                have hcv : covB T D n p i j = true := (cov_sp h hij hj hx hyj).2 ⟨by simpa using h5, h6', hq1⟩
                have hfs := cov_first h hij hj hcv
                rw [hyj, ← hy] at hfs
                have hst : stepX T D n p i s = some j := by
                  unfold stepX
                  rw [if_neg (fun e => hk2 e.1), if_pos hk1, hfs, if_pos ⟨by rw [hyj, hy], hcv⟩]
                rw [hst]
                simp only
                rw [ex_iff h l j hj, hyj]
                exact ⟨e1, e2, hq2⟩
          · rw [if_pos h0] at e1
            exact absurd e1 h0
      · have hst : stepX T D n p i s = none := by unfold stepX; rw [if_neg (fun e => hk2 e.1), if_neg hk1]
        rw [hst]
        constructor
        · intro e; cases e
        · rintro ⟨e1, _⟩
          exfalso
          simp only [endsL] at e1
          have h0 : (endS T s x).2 ≠ 0 := by
            unfold endS
            rw [if_neg hk1, if_neg hk2]
            repeat' split
            all_goals simp
          rw [if_pos h0] at e1
          exact h0 e1
/-- Only what is covered is stepped over. -/
theorem step_some {i j : Nat} {s : Seg} (hi : i ≤ p.length) (hst : stepX T D n p i s = some j) : (j = i + 1 ∧ i < p.length) ∨ (i ≤ j ∧ j ≤ p.length ∧ covB T D n p i j = true) := by
  unfold stepX at hst
  split at hst
  · rename_i h1
    cases hst
    exact .inl ⟨rfl, h1.2.1⟩
  · split at hst
    · split at hst
      · rename_i h3
        simp only [Option.some.injEq] at hst
        rw [hst] at h3
        have hge := fst_ge (T := T) (n := n) (p := p) s.num (p.length - i) i
        rw [hst] at hge
        exact .inr ⟨hge.1, by omega, h3.2⟩
      · cases hst
    · cases hst
/-- No exact list is shorter. -/
theorem ex_len (h : Fol T D n p) : ∀ (l : List Seg) (i : Nat), i ≤ p.length → exB T D n p i l = true → gN T D n p i ≤ l.length
  | [], i, hi, he => by
    simp only [exB, decide_eq_true_eq] at he
    rw [gN_end (by omega)]
    exact Nat.zero_le _
  | s :: l, i, hi, he => by
    simp only [exB] at he
    cases hst : stepX T D n p i s with
    | none => rw [hst] at he; cases he
    | some j =>
      rw [hst] at he
      simp only at he
      have hs := step_some hi hst
      have ih := ex_len h l j (by omega) he
      simp only [List.length_cons]
      rcases hs with ⟨rfl, h1⟩ | ⟨h1, h2, h3⟩
      · have := gN_le h h1 (.inl rfl)
        omega
      · by_cases e : i = j
        · subst e; omega
        · have := gN_le h (show i < p.length by omega) (.inr ⟨by omega, h2, h3⟩)
          omega
/-- The list of the path is exact. -/
theorem ex_lst (h : Fol T D n p) : ∀ (f i : Nat), i ≤ p.length → p.length - i ≤ f → exB T D n p i (lstF T D n p f i) = true
  | f, i, hi, hf => by
    by_cases hlt : i < p.length
    · cases f with
      | zero => omega
      | succ f =>
        cases ht : topD (covB T D n p i) i p.length with
        | none =>
          rw [lst_none hlt (fun k h1 h2 => topD_isNone _ ht k h1 h2)]
          simp only [exB]
          have hst : stepX T D n p i ⟨2, p.getD i 0⟩ = some (i + 1) := by unfold stepX; rw [if_pos ⟨rfl, hlt, rfl⟩]
          rw [hst]
          exact ex_lst h f (i + 1) (by omega) (by omega)
        | some j =>
          obtain ⟨t1, t2, t3, t4⟩ := topD_is _ _ ht
          rw [lst_some hlt t1 t2 t3 t4]
          simp only [exB]
          have hst : stepX T D n p i ⟨1, endL T n (p.take j)⟩ = some j := by
            unfold stepX
            simp only
            rw [if_neg (by omega), if_pos trivial, cov_first h (by omega) t2 t3, if_pos ⟨rfl, t3⟩]
          rw [hst]
          exact ex_lst h f j t2 (by omega)
    · rw [lst_end f i (by omega)]
      simp only [exB, decide_eq_true_eq]
      omega
theorem lst_len : ∀ f i, (lstF T D n p f i).length ≤ f := fun f => by
  induction f with
  | zero => intro i; simp [lstF]
  | succ f ih =>
    intro i
    simp only [lstF]
    split
    · split
      · have := ih ‹Nat›; simp only [List.length_cons]; omega
      · have := ih (i + 1); simp only [List.length_cons]; omega
    · simp
theorem fol_zero (h : Fol T D n p) : folE T D n p = 0 := by
  unfold folE
  have h2 : pathX T n p = 0 := by unfold pathX; rw [if_pos h.valid, if_pos h.node]; exact h.walk
  rw [if_pos (by rw [h.valid, h.fits]; rfl), if_pos h2, if_neg]
  intro e
  obtain ⟨x, h3, h4⟩ := List.any_eq_true.1 e
  rw [h.up x h3] at h4
  cases h4
/-- The reference's answer. -/
theorem exact_iff (l : List Seg) (n : Int) (p : List Int) (h : Fol T D n p) : exB T D n p 0 l = (decide (expE T D l n = 0) && sameB (if expE T D l n = 0 then (expL T D n l).2 else []) p) := by
  have hi := ex_iff h l 0 (Nat.zero_le _)
  rw [List.take_zero, List.drop_zero] at hi
  simp only [endL] at hi
  have hvf : ¬ (validB T && fitsB T D) = false := by rw [h.valid, h.fits]; simp
  have hend : endsE T l n = (endsL T n l).2 := by unfold endsE; rw [if_neg (by rw [h.valid]; simp), if_neg (by rw [h.node]; simp)]
  have hpx : pathX T n p = 0 := by unfold pathX; rw [if_pos h.valid, if_pos h.node]; exact h.walk
  rw [Bool.eq_iff_iff, hi, Bool.and_eq_true, decide_eq_true_eq]
  unfold sameB
  rw [decide_eq_true_eq]
  constructor
  · rintro ⟨h1, h2, h3⟩
    have he : expE T D l n = 0 := by
      unfold expE
      rw [if_neg hvf, if_neg (by rw [hend, h1]; simp), if_neg (by rw [h2]; simp), h3, hpx]
    rw [he, if_pos rfl]
    exact ⟨rfl, h3⟩
  · rintro ⟨h1, h2⟩
    rw [if_pos h1] at h2
    unfold expE at h1
    rw [if_neg hvf, hend] at h1
    split at h1
    · rename_i h3; exact absurd h1 h3
    · rename_i h3
      split at h1
      · rename_i h4; exact absurd h1 h4
      · rename_i h4
        exact ⟨by simpa using h3, by simpa using h4, h2⟩
end
end PW
end Go.Proofs.Ytgpdjgifhppnhaa

/- Package encode's Exact, walked. -/
namespace Go.Proofs.Ytgpdjgifhppnhaa
set_option linter.unusedVariables false
set_option linter.unusedSimpArgs false
namespace PW
open Go.RowKit Reg Mem Net

def onlyQ (K : St → Prop) : Exit → St → Prop
  | .normal, s => K s
  | _, _ => False
theorem W_seqM {P : Program} {N L : Nat} {x y : Code} {st : St} {Q : Exit → St → Prop} {Q1 : St → Prop} (h : W P N L x st (onlyQ Q1)) (k : ∀ s, Q1 s → W P N L y s Q) : W P N L (.seq x y) st Q :=
  W_seq (h.mono fun e s hq => by
    cases e <;> first | exact k s hq | exact hq.elim)
section
variable {T : Topo} {D : List Bool} {n : Int} {p : List Int}
theorem fst_stop (x : Int) : ∀ f i j, i ≤ j → j ≤ i + f → (∀ k, i ≤ k → k < j → endL T n (p.take k) ≠ x) → (j = i + f ∨ endL T n (p.take j) = x) → fstJ T n p x f i = j
  | 0, i, j, h1, h2, _, _ => by simp only [fstJ]; omega
  | f + 1, i, j, h1, h2, h4, h5 => by
    simp only [fstJ]
    by_cases e : i = j
    · subst e
      rcases h5 with h5 | h5
      · omega
      · rw [if_pos h5]
    · rw [if_neg (h4 i (Nat.le_refl _) (by omega))]
      exact fst_stop x f (i + 1) j (by omega) (by omega) (fun k h6 h7 => h4 k (by omega) h7) (by rcases h5 with h5 | h5; exact .inl (by omega); exact .inr h5)
end
theorem cell_pure (s : Seg) : PureD (some (.cells 43 (segP s))) := fun b hb => by cases hb; exact (inferInstance : IsPureL (segP s))
noncomputable def exactB (T : Topo) (D : List Bool) (l : List Seg) (n : Int) (p : List Int) : Bool := if folE T D n p = 0 then exB T D n p 0 l else false
set_option maxRecDepth 10000 in
set_option maxHeartbeats 2000000 in
theorem exact_can (T : Topo) (D : List Bool) (l : List Seg) (n : Int) (p : List Int) (hp : p.length ≤ 1000) (hl : l.length ≤ 1000) (hlk : T.links.length ≤ 256) (h12 : T.nodes ≤ 12) : Can Try.prog 22 [topoV T, boolsV D, segsV l, num n, intsV p] (· = flag (exactB T D l n p)) := by
  refine can_of Try.func22 rfl Try.ntmps22 rfl ?_
  refine W_cs (.a 2 rfl <| .k [1, 2, 3, 4, 5] rfl) ?_
  refine W_rs ?_
  refine WR_a 4 rfl <| WR_cS rfl rfl (CanS.mono (follow_one T D p n hp hlk) (fun r σ' h => ?_))
  obtain ⟨x, rfl, hx⟩ := h
  refine WR_a 5 rfl <| WR_k [2, 4, 11, 12] rfl ?_
  refine W_seq ?_
  refine W_cs (.a 2 rfl <| .k [2, 4, 11, 26] rfl) ?_
  refine W_cond rfl (fun hc => ?_) (fun hc => ?_)
  · have he : folE T D n p ≠ 0 := tt hc
    refine W_cs (.a 1 rfl <| .k [10] rfl) ?_
    refine W_ret ?_
    exact ⟨_, _, ResL.of rfl, Pur.pure, by unfold exactB; rw [if_neg he]; rfl⟩
  · have he : folE T D n p = 0 := Classical.byContradiction (ff hc)
    obtain ⟨rfl, rfl⟩ := hx he
    have hF := fol_of he
    have hv := hF.valid
    have ha := hF.arcs
    have hX : exactB T D l n p = exB T D n p 0 l := by unfold exactB; rw [if_pos he]
    rw [hX]
    clear hc
    have hl1 := ndL_len T n p
    refine W_skip ?_
    refine W_cs (.a 1 rfl <| .k [2, 4, 11, 13] rfl) ?_
    refine W_seq ?_
    refine W_cs (.a 3 rfl <| .k [4, 11, 13, 27, 28, 29] rfl) ?_
    refine W_block ?_
    refine W_k [4, 11, 13, 27, 28, 29] rfl ?_
    refine W_loop (fun r st => ∃ (k i : Nat) (dm : List (Int × PV)) (um : List ((Int × Int) × PV)), k ≤ l.length ∧ i ≤ p.length ∧ r = l.length - k ∧ exB T D n p 0 l = exB T D n p i (l.drop k) ∧ MemD T D dm ∧ MemU T D um ∧ st = ⟨[(4, intsV p), (11, .ptr 4 0), (13, num i), (27, segsV l), (28, num l.length), (29, num k)], trk T D p (ndL T n p) (csL T p) dm um⟩) l.length ⟨0, 0, [], [], by omega, by omega, by omega, rfl, (fun _ _ h => by cases h), (fun _ _ h => by cases h), rfl⟩ ?_
    rintro r st ⟨k, i, dm, um, hk, hi, rfl, hex, hdm, hum, rfl⟩
    refine W_cs (.a 1 rfl <| .k [4, 11, 13, 27, 28, 29, 30] rfl) ?_
    refine W_seq ?_
    refine W_cond rfl (fun h1 => ?_) (fun h1 => ?_)
    · have hlt : k < l.length := by have := tt h1; omega
      obtain ⟨s, hs, hdr⟩ := segs_cons l k hlt
      rw [hdr] at hex
      simp only [exB] at hex
      refine W_skip ?_
      refine W_seq ?_
      refine W_block ?_
      refine W_rs ?_
      refine WR_v (y_ix ((k * 2)) rfl) rfl <| WR_v (y_la rfl (segs_drop l k s hs) rfl) rfl <| WR_a 2 rfl <| WR_k [4, 11, 13, 15, 27, 28, 29] rfl ?_
      refine W_sto (σ' := trk T D p (ndL T n p) (csL T p) dm um ++ [some (.cells 43 (segP s))]) rfl ?_
      obtain ⟨q1, hq1⟩ : ∃ q, decide (s.kind = 2) = q := ⟨_, rfl⟩
      obtain ⟨q2, hq2⟩ : ∃ q, decide ((i : Int) < p.length) = q := ⟨_, rfl⟩
      obtain ⟨q3, hq3⟩ : ∃ q, decide (p.getD i 0 = s.num) = q := ⟨_, rfl⟩
      refine W_block ?_
      refine W_drsK mixed (by kernel_rfl) 33 (.raw (.bool ((q1 && q2) && q3))) [4, 11, 13, 15, 27, 28, 29] rfl ?_ ?_
      · refine .a 2 rfl <| .v [35] (y_q rfl (hq1)) rfl rfl <| .a 1 rfl <| ?_
        cases q1
        · exact .a 15 rfl <| .k [33, 4, 11, 13, 15, 27, 28, 29] rfl
        · refine .a 3 rfl <| .v [38, 40] (y_q rfl (hq2)) rfl rfl <| .a 2 rfl <| ?_
          cases q2
          · exact .a 9 rfl <| .k [33, 4, 11, 13, 15, 27, 28, 29] rfl
          · exact .a 2 rfl <| .v [44, 45] (y_ix (i) rfl (by omega) (by have := tt hq2; omega)) rfl rfl <| .v [46] (y_ld rfl (ints_get p i (by have := tt hq2; omega))) rfl rfl <| .a 2 rfl <| .v [47, 49] (y_q rfl (hq3)) rfl rfl <| .a 2 rfl <| .k [33, 4, 11, 13, 15, 27, 28, 29] rfl
      refine W_cond rfl (fun h2 => ?_) (fun h2 => ?_)
      · have hst : stepX T D n p i s = some (i + 1) := by
          simp only [Bool.and_eq_true] at h2
          obtain ⟨⟨rfl, rfl⟩, rfl⟩ := h2
          unfold stepX
          rw [if_pos ⟨tt hq1, by have := tt hq2; omega, tt hq3⟩]
        have hi2 : i + 1 ≤ p.length := by
          simp only [Bool.and_eq_true] at h2
          obtain ⟨⟨rfl, rfl⟩, rfl⟩ := h2
          have := tt hq2; omega
        rw [hst] at hex
        simp only at hex
        refine W_chain (.a 1 rfl <| .v (y_ar rfl) rfl <| .a 1 rfl <| .k [4, 11, 13, 27, 28, 29] rfl) ?_
        refine W_ren [0, 1, 2, 3, 4] (.c 4 <| .c 11 <| .c 13 <| .c 27 <| .c 28 <| .c 29 <| .nil) (.kept rfl (.row RenL.pure) <| .kept rfl (.row RenL.pure) <| .same (MemD.pure hdm) rfl <| .same (MemU.pure hum) rfl <| .kept rfl (.cells (RenL.c <| RenL.c <| RenL.c <| RenL.c <| RenL.c <| RenL.c <| RenL.c <| RenL.c <| RenL.c <| RenL.nil)) <| .nil) rfl rfl ?_
        refine W_chain (.v (y_ar rfl) rfl <| .a 1 rfl <| .k [4, 11, 13, 27, 28, 29] rfl) ?_
        first
          | exact ⟨l.length - (k + 1), by omega, k + 1, i + 1, dm, um, by omega, hi2, rfl, hex, hdm, hum, rfl⟩
          | exact ⟨l.length - (k + 1), by omega, k + 1, j, dm, um, by omega, hj, rfl, hex, hdm, hum, rfl⟩
      · have hn2 : ¬ (s.kind = 2 ∧ i < p.length ∧ p.getD i 0 = s.num) := by
          rintro ⟨e1, e2, e3⟩
          rw [decide_eq_true e1] at hq1
          rw [decide_eq_true (by omega)] at hq2
          rw [decide_eq_true e3] at hq3
          subst hq1
          subst hq2
          subst hq3
          cases h2
        clear hq1 hq2 hq3
        refine W_cs (.a 4 rfl <| .k [4, 11, 13, 15, 27, 28, 29, 54] rfl) ?_
        refine W_cond rfl (fun h3 => ?_) (fun h3 => ?_)
        · have hk1 : s.kind = 1 := tt h3
          refine W_cs (.a 2 rfl <| .k [4, 11, 13, 15, 16, 27, 28, 29] rfl) ?_
          refine W_seq ?_
          refine W_block ?_
          refine W_k [4, 11, 13, 15, 16, 27, 28, 29] rfl ?_
          refine W_loop (fun r st => ∃ j : Nat, i ≤ j ∧ j ≤ p.length ∧ r = p.length - j ∧ (∀ k, i ≤ k → k < j → endL T n (p.take k) ≠ s.num) ∧ st = ⟨[(4, intsV p), (11, .ptr 4 0), (13, num i), (15, .ptr 5 0), (16, num j), (27, segsV l), (28, num l.length), (29, num k)], trk T D p (ndL T n p) (csL T p) dm um ++ [some (.cells 43 (segP s))]⟩) (p.length - i) ⟨i, by omega, hi, rfl, fun k h4 h5 => by omega, rfl⟩ ?_
          rintro r st ⟨j, hij, hj, rfl, hno, rfl⟩
          have hgj := ndL_get T n p j hj
          obtain ⟨g1, hg1⟩ : ∃ q, decide ((j : Int) < p.length) = q := ⟨_, rfl⟩
          obtain ⟨g, hg⟩ : ∃ q, decide (endL T n (p.take j) ≠ s.num) = q := ⟨_, rfl⟩
          refine W_seq ?_
          refine W_drsK mixed (by kernel_rfl) 74 (.raw (.bool (g1 && g))) [4, 11, 13, 15, 16, 27, 28, 29] rfl ?_ ?_
          · refine .a 3 rfl <| .v [59, 61] (y_q rfl (hg1)) rfl rfl <| .a 1 rfl <| ?_
            cases g1
            · exact .a 11 rfl <| .k [74, 4, 11, 13, 15, 16, 27, 28, 29] rfl
            · exact .a 5 rfl <| .v [67, 68] (y_ix (j) rfl) rfl rfl <| .v [69] (y_ld rfl ((ints_get _ j (by omega)).trans (by rw [hgj]))) rfl rfl <| .a 2 rfl <| .v [70, 72] (y_q rfl (hg)) rfl rfl <| .a 1 rfl <| .k [74, 4, 11, 13, 15, 16, 27, 28, 29] rfl
          refine W_cond rfl (fun h4 => ?_) (fun h4 => ?_)
          · have h5 : j < p.length ∧ endL T n (p.take j) ≠ s.num := by
              simp only [Bool.and_eq_true] at h4
              obtain ⟨rfl, rfl⟩ := h4
              exact ⟨by have := tt hg1; omega, tt hg⟩
            refine W_skip ?_
            refine W_block ?_
            refine W_chain (.a 1 rfl <| .v (y_ar rfl) rfl <| .a 1 rfl <| .k [4, 11, 13, 15, 16, 27, 28, 29] rfl) ?_
            refine ⟨p.length - (j + 1), by omega, j + 1, by omega, h5.1, rfl, fun k h6 h7 => ?_, rfl⟩
            by_cases e : k = j
            · subst e; exact h5.2
            · exact hno k h6 (by omega)
          · have hfs : fstJ T n p s.num (p.length - i) i = j := by
              refine fst_stop _ _ _ _ hij (by omega) hno ?_
              by_cases e : endL T n (p.take j) = s.num
              · exact .inr e
              · left
                rw [decide_eq_true e] at hg
                subst hg
                rw [Bool.and_true] at h4
                subst h4
                have := ff hg1
                omega
            clear hg1 h4
            have hsx : stepX T D n p i s = if endL T n (p.take j) = s.num ∧ covB T D n p i j = true then some j else none := by unfold stepX; rw [if_neg hn2, if_pos hk1, hfs]
            refine W_exit ?_
            refine W_seq ?_
            refine W_seqM (Q1 := fun st => ∃ (dm : List (Int × PV)) (um : List ((Int × Int) × PV)), MemD T D dm ∧ MemU T D um ∧ st = ⟨[(93, .raw (.bool (g || !covB T D n p i j))), (4, intsV p), (11, .ptr 4 0), (16, num j), (27, segsV l), (28, num l.length), (29, num k)], trk T D p (ndL T n p) (csL T p) dm um ++ [some (.cells 43 (segP s))]⟩) ?_ ?_
            · cases g
              · refine W_drawSeq 14 20 [77, 78, 79, 80, 81, 82, 83, 84, 85, 86, 87, 88, 89, 90] mixed (by kernel_rfl) (by kernel_rfl) (by kernel_rfl) rfl (.a 5 rfl <| .v [80, 81] (y_ix (j) rfl) rfl rfl <| .v [82] (y_ld rfl ((ints_get _ j (by omega)).trans (by rw [hgj]))) rfl rfl <| .a 2 rfl <| .v [83, 85] (y_q rfl (hg)) rfl rfl <| .a 4 rfl <| .k [4, 11, 16, 27, 28, 29, 87, 88, 89, 90] rfl) ?_
                refine WR_cS rfl rfl (CanS.mono (covered_can T D p n dm um (some (.cells 43 (segP s))) (cell_pure s) hv hF.fits h12 hF.node ha hp i j hi hj hdm hum) (fun _ σ' h => ?_))
                obtain ⟨rfl, dm1, um1, hdm1, hum1, rfl⟩ := h
                refine WR_a 2 rfl <| WR_k [93, 4, 11, 16, 27, 28, 29] rfl ?_
                exact ⟨dm1, um1, hdm1, hum1, rfl⟩
              · refine W_drK mixed (by kernel_rfl) 93 (.raw (.bool (true))) [4, 11, 16, 27, 28, 29] rfl ?_ ?_
                · exact .a 5 rfl <| .v [80, 81] (y_ix (j) rfl) rfl rfl <| .v [82] (y_ld rfl ((ints_get _ j (by omega)).trans (by rw [hgj]))) rfl rfl <| .a 2 rfl <| .v [83, 85] (y_q rfl (hg)) rfl rfl <| .a 7 rfl <| .k [93, 4, 11, 16, 27, 28, 29] rfl
                exact ⟨dm, um, hdm, hum, rfl⟩
            clear hdm hum
            rintro _ ⟨dm, um, hdm, hum, rfl⟩
            refine W_cond rfl (fun h6 => ?_) (fun h6 => ?_)
            · have hst : stepX T D n p i s = none := by
                rw [hsx, if_neg]
                rintro ⟨e1, e2⟩
                rw [decide_eq_false (by simpa using e1)] at hg
                subst hg
                rw [e2] at h6
                cases h6
              rw [hst] at hex
              simp only at hex
              refine W_cs (.a 1 rfl <| .k [10] rfl) ?_
              refine W_ret ?_
              exact ⟨_, _, ResL.of rfl, Pur.pure, by rw [hex]; rfl⟩
            · have hst : stepX T D n p i s = some j := by
                obtain ⟨rfl, h7⟩ := Bool.or_eq_false_iff.1 h6
                rw [hsx, if_pos ⟨by have := ff hg; simpa using this, by simpa using h7⟩]
              rw [hst] at hex
              simp only at hex
              refine W_skip ?_
              refine W_chain (.a 2 rfl <| .k [4, 11, 13, 27, 28, 29] rfl) ?_
              refine W_ren [0, 1, 2, 3, 4] (.c 4 <| .c 11 <| .c 13 <| .c 27 <| .c 28 <| .c 29 <| .nil) (.kept rfl (.row RenL.pure) <| .kept rfl (.row RenL.pure) <| .same (MemD.pure hdm) rfl <| .same (MemU.pure hum) rfl <| .kept rfl (.cells (RenL.c <| RenL.c <| RenL.c <| RenL.c <| RenL.c <| RenL.c <| RenL.c <| RenL.c <| RenL.c <| RenL.nil)) <| .nil) rfl rfl ?_
              refine W_chain (.v (y_ar rfl) rfl <| .a 1 rfl <| .k [4, 11, 13, 27, 28, 29] rfl) ?_
              first
                | exact ⟨l.length - (k + 1), by omega, k + 1, i + 1, dm, um, by omega, hi2, rfl, hex, hdm, hum, rfl⟩
                | exact ⟨l.length - (k + 1), by omega, k + 1, j, dm, um, by omega, hj, rfl, hex, hdm, hum, rfl⟩
        · have hk1 : ¬ s.kind = 1 := ff h3
          have hst : stepX T D n p i s = none := by unfold stepX; rw [if_neg hn2, if_neg hk1]
          rw [hst] at hex
          simp only at hex
          refine W_cs (.a 1 rfl <| .k [10] rfl) ?_
          refine W_ret ?_
          exact ⟨_, _, ResL.of rfl, Pur.pure, by rw [hex]; rfl⟩
    · have hke : k = l.length := by have := ff h1; omega
      subst hke
      rw [List.drop_length] at hex
      simp only [exB] at hex
      refine W_exit ?_
      refine W_cs (.a 5 rfl <| .k [10] rfl) ?_
      refine W_ret ?_
      refine ⟨_, _, ResL.of rfl, Pur.pure, ?_⟩
      rw [hex]
      exact congrArg (fun b => flag b) (decide_eq_decide.2 (by omega))
end PW
end Go.Proofs.Ytgpdjgifhppnhaa

/- Expansions of lists: package encode's Expand, the reference's Expand and Exact. -/
namespace Go.Proofs.Ytgpdjgifhppnhaa
set_option linter.unusedVariables false
set_option linter.unusedSimpArgs false
namespace PW
open Go.RowKit Reg Mem Net

section
variable {T : Topo} {D : List Bool}
theorem Ch.arcs {d m : Nat} {q : List Int} (h : Ch T D d m q) : ∀ a ∈ q, arcB T a = true := by
  induction h with
  | nil => intro a ha; cases ha
  | @cons n a m p ha ht hu hm ho hp ih =>
    intro b hb
    rcases List.mem_cons.1 hb with rfl | hb
    · exact arcB_iff.2 ⟨by omega, by omega⟩
    · exact ih b hb
theorem spE_facts {x y : Int} (h : spE T D x y = 0) : ∃ a b : Nat, x = (a : Int) ∧ y = (b : Int) ∧ (a : Int) < T.nodes ∧ (b : Int) < T.nodes ∧ validB T = true ∧ SP T D b a (spathL T D x.toNat y.toNat) := by
  unfold spE at h
  split at h
  · rename_i he
    obtain ⟨hv, hf, hn, hd⟩ := nodeE_zero he
    rw [nodeB_iff] at hn hd
    obtain ⟨a, rfl⟩ := Int.eq_ofNat_of_zero_le hn.1
    obtain ⟨b, rfl⟩ := Int.eq_ofNat_of_zero_le hd.1
    refine ⟨a, b, rfl, rfl, hn.2, hd.2, hv, ?_⟩
    simp only [Int.toNat_natCast] at h ⊢
    exact spath_sp hv hd.2 hn.2 (by split at h <;> omega)
  · rename_i he
    exact absurd h he
theorem end_zero {s : Seg} {x : Int} (h : (endS T s x).2 = 0) : segB T s = true ∧ nodeB T x = true ∧ (s.kind = 1 ∧ (endS T s x).1 = s.num ∨ s.kind = 2 ∧ arcB T s.num = true) := by
  unfold endS at h ⊢
  split at h
  · simp at h
  · rename_i h1
    have hsg : segB T s = true := by simpa using h1
    split at h
    · simp at h
    · rename_i h2
      rw [if_neg h1, if_neg h2]
      refine ⟨hsg, by simpa using h2, ?_⟩
      split at h
      · rename_i h3
        exact .inl ⟨h3, by rw [if_pos h3]⟩
      · rename_i h3
        split at h
        · rename_i h4
          right
          unfold segB at hsg
          rw [if_neg h3, if_pos h4] at hsg
          exact ⟨h4, hsg⟩
        · simp at h
theorem exp_arcs : ∀ (l : List Seg) (x : Int), (endsL T x l).2 = 0 → (expL T D x l).1 = 0 → ∀ a ∈ (expL T D x l).2, arcB T a = true
  | [], x, _, _ => by intro a ha; simp [expL] at ha
  | s :: l, x, h1, h2 => by
    simp only [endsL] at h1
    by_cases h0 : (endS T s x).2 = 0
    · rw [if_neg (by rw [h0]; simp)] at h1
      simp only at h1
      have hz := end_zero h0
      simp only [expL] at h2 ⊢
      split at h2
      · rename_i hk
        rw [if_pos hk]
        split at h2
        · simp at h2
        · rename_i hd
          rw [if_neg hd]
          simp only at h2 ⊢
          intro a ha
          rcases List.mem_cons.1 ha with rfl | ha
          · rcases hz.2.2 with h | h
            · omega
            · exact h.2
          · exact exp_arcs l _ h1 h2 a ha
      · rename_i hk
        rw [if_neg hk]
        split at h2
        · rename_i h5; exact absurd h2 h5
        · rename_i h5
          rw [if_neg h5]
          split at h2
          · simp at h2
          · rename_i h6
            rw [if_neg h6]
            simp only at h2 ⊢
            intro a ha
            rcases List.mem_append.1 ha with ha | ha
            · obtain ⟨_, _, _, _, _, _, _, hsp⟩ := spE_facts (Classical.byContradiction h5)
              exact hsp.ch.arcs a ha
            · exact exp_arcs l _ h1 h2 a ha
    · rw [if_pos h0] at h1; exact absurd h1 h0
theorem walk_four : ∀ (l : List Int) (f : Bool) (x : Int), (∀ a ∈ l, arcB T a = true) → walkE T f x l = 0 ∨ walkE T f x l = 4
  | [], _, _, _ => .inl rfl
  | a :: l, f, x, h => by
    simp only [walkE]
    rw [if_neg (by rw [h a (by simp)]; simp)]
    split
    · exact .inr rfl
    · exact walk_four l _ _ (fun b hb => h b (by simp [hb]))
theorem ends_cons {s : Seg} {l : List Seg} {x : Int} (h : (endsL T x (s :: l)).2 = 0) : (endS T s x).2 = 0 ∧ (endsL T (endS T s x).1 l).2 = 0 ∧ (endsL T x (s :: l)).1 = (endS T s x).1 :: (endsL T (endS T s x).1 l).1 := by
  simp only [endsL] at h ⊢
  by_cases h0 : (endS T s x).2 = 0
  · rw [if_neg (by rw [h0]; simp)] at h
    rw [if_neg (by rw [h0]; simp)]
    exact ⟨h0, h, rfl⟩
  · rw [if_pos h0] at h; exact absurd h h0
theorem ends_len : ∀ (l : List Seg) (x : Int), (endsL T x l).2 = 0 → (endsL T x l).1.length = l.length
  | [], _, _ => rfl
  | s :: l, x, h => by
    obtain ⟨_, h2, h3⟩ := ends_cons h
    rw [h3, List.length_cons, ends_len l _ h2, List.length_cons]
/-- The next step of an expansion. -/
structure ExpI (T : Topo) (D : List Bool) (l : List Seg) (n : Int) (k : Nat) (x : Int) (out : List Int) : Prop where
  ends : (endsL T x (l.drop k)).2 = 0
  row : (endsL T n l).1.drop k = (endsL T x (l.drop k)).1
  err : (expL T D n l).1 = (expL T D x (l.drop k)).1
  val : (expL T D n l).1 = 0 → (expL T D n l).2 = out ++ (expL T D x (l.drop k)).2
  len : out.length ≤ 12 * k
theorem ExpI.start {l : List Seg} {n : Int} (h : (endsL T n l).2 = 0) : ExpI T D l n 0 n [] := ⟨h, rfl, rfl, fun _ => rfl, by simp⟩
theorem ExpI.get {l : List Seg} {n : Int} {k : Nat} {x : Int} {out : List Int} (h : ExpI T D l n k x out) {s : Seg} (hd : l.drop k = s :: l.drop (k + 1)) (hk : k < (endsL T n l).1.length) : (endS T s x).2 = 0 ∧ (endsL T n l).1.getD k 0 = (endS T s x).1 ∧ (endsL T n l).1.drop (k + 1) = (endsL T (endS T s x).1 (l.drop (k + 1))).1 ∧ (endsL T (endS T s x).1 (l.drop (k + 1))).2 = 0 := by
  have h1 := h.ends
  have h2 := h.row
  rw [hd] at h1 h2
  obtain ⟨e1, e2, e3⟩ := ends_cons h1
  rw [e3, drop_cons _ _ hk] at h2
  exact ⟨e1, (List.cons.inj h2).1, (List.cons.inj h2).2, e2⟩
end
theorem segs_k (l : List Seg) (k : Nat) (s : Seg) (h : l[k]? = some s) : (segsP l)[k * 2 + 0]? = some (num s.kind) := segs_get l k 0 s h (by omega)
theorem segs_n (l : List Seg) (k : Nat) (s : Seg) (h : l[k]? = some s) : (segsP l)[k * 2 + 1]? = some (num s.num) := segs_get l k 1 s h (by omega)
instance (T : Topo) (n : Int) (l : List Int) : IsFlat (pathV T n l) := by unfold pathV; infer_instance
set_option maxRecDepth 10000 in
set_option maxHeartbeats 2000000 in
theorem rexpand_can (T : Topo) (D : List Bool) (l : List Seg) (n : Int) (hl : l.length ≤ 1000) (h12 : T.nodes ≤ 12) : Can Try.prog 25 [topoV T, boolsV D, segsV l, num n] (· = intsE (expE T D l n) (expL T D n l).2) := by
  obtain ⟨q1, hq1⟩ : ∃ q, (validB T && fitsB T D) = q := ⟨_, rfl⟩
  refine can_of Try.func25 rfl Try.ntmps25 rfl ?_
  refine W_cs (.a 3 rfl <| .k [1, 2, 3, 4] rfl) ?_
  refine W_seq ?_
  refine W_cs (.a 2 rfl <| .c rfl (hq1 ▸ rfits_can T D) rfl <| .a 1 rfl <| .k [1, 2, 3, 4, 20] rfl) ?_
  refine W_cond rfl (fun hc => ?_) (fun hc => ?_)
  · have h1 : q1 = false := by cases q1; rfl; cases hc
    have he : expE T D l n = 1 := by unfold expE; rw [hq1, if_pos h1]
    refine W_cs (.a 2 rfl <| .k [8, 9] rfl) ?_
    refine W_ret ?_
    exact ⟨_, _, ResL.of rfl, Pur.tupleL (PurL.cons Pur.nils (PurL.cons Pur.pure PurL.nil)), by unfold intsE; rw [he]; rfl⟩
  · have h1 : q1 = true := by cases q1; cases hc; rfl
    subst h1
    obtain ⟨hv, hf⟩ := Bool.and_eq_true_iff.1 hq1
    have hvf : ¬ (validB T && fitsB T D) = false := by rw [hq1]; simp
    refine W_skip ?_
    refine W_cs (.a 3 rfl <| .c rfl (rends_can T l n hl) rfl <| .a 5 rfl <| .k [1, 2, 3, 4, 10, 11] rfl) ?_
    refine W_seq ?_
    refine W_cs (.a 2 rfl <| .k [1, 2, 3, 4, 10, 11, 29] rfl) ?_
    refine W_cond rfl (fun h2 => ?_) (fun h2 => ?_)
    · have he0 : endsE T l n ≠ 0 := tt h2
      have he : expE T D l n = endsE T l n := by unfold expE; rw [if_neg hvf, if_pos he0]
      refine W_cs (.a 3 rfl <| .k [8, 9] rfl) ?_
      refine W_ret ?_
      exact ⟨_, _, ResL.of rfl, Pur.tupleL (PurL.cons Pur.nils (PurL.cons Pur.pure PurL.nil)), by unfold intsE; rw [he, if_neg he0]; rfl⟩
    · have he0 : endsE T l n = 0 := Classical.byContradiction (ff h2)
      have hen : (endsL T n l).2 = 0 := by
        unfold endsE at he0
        split at he0
        · omega
        · split at he0
          · omega
          · exact he0
      have hel := ends_len l n hen
      have hE : expE T D l n = if (expL T D n l).1 ≠ 0 then (expL T D n l).1 else pathX T n (expL T D n l).2 := by unfold expE; rw [if_neg hvf, if_neg (by rw [he0]; simp)]
      rw [hE, he0, if_pos rfl]
      clear h2
      refine W_skip ?_
      refine W_cs (.a 1 rfl <| .k [1, 2, 3, 4, 10, 12] rfl) ?_
      refine W_adopt 12 3 1 rfl ?_
      refine W_cs (.a 2 rfl <| .k [1, 2, 3, 4, 10, 12, 13] rfl) ?_
      refine W_seq ?_
      refine W_cs (.a 1 rfl <| .k [1, 2, 3, 4, 10, 12, 13, 14] rfl) ?_
      refine W_block ?_
      refine W_k [1, 2, 3, 4, 10, 12, 13, 14] rfl ?_
      refine W_loop (fun r st => ∃ (k : Nat) (x : Int) (out : List Int), k ≤ l.length ∧ r = l.length - k ∧ ExpI T D l n k x out ∧ st = ⟨[(1, boolsV D), (2, segsV l), (3, num n), (4, .pin (topoP T) 0), (10, intsV (endsL T n l).1), (12, .own 0), (13, num x), (14, num k)], [irow out]⟩) l.length ⟨0, n, [], by omega, by omega, .start hen, rfl⟩ ?_
      rintro r st ⟨k, x, out, hk, rfl, hI, rfl⟩
      have hol := hI.len
      refine W_seq ?_
      refine W_cs (.a 4 rfl <| .k [1, 2, 3, 4, 10, 12, 13, 14, 35] rfl) ?_
      refine W_cond rfl (fun h3 => ?_) (fun h3 => ?_)
      · have hlt : k < l.length := by have := tt h3; omega
        obtain ⟨s, hs, hdr⟩ := segs_cons l k hlt
        obtain ⟨g1, g2, g3, g4⟩ := hI.get hdr (by omega)
        obtain ⟨z1, z2, z3⟩ := end_zero g1
        have i1 := hI.err
        have i2 := hI.val
        rw [hdr] at i1 i2
        simp only [expL] at i1 i2
        refine W_skip ?_
        refine W_seq ?_
        refine W_block ?_
        refine W_seq ?_
        refine W_cs (.a 2 rfl <| .v (y_ix ((k * 2)) rfl) rfl <| .a 1 rfl <| .v (y_ld rfl (segs_k l k s hs)) rfl <| .a 1 rfl <| .k [1, 2, 3, 4, 10, 12, 13, 14, 43] rfl) ?_
        refine W_cond rfl (fun h4 => ?_) (fun h4 => ?_)
        · have hk2 : s.kind = 2 := tt h4
          rw [if_pos hk2] at i1 i2
          have hab : arcB T s.num = true := by
            rcases z3 with h | h
            · omega
            · exact h.2
          have hab2 := hab
          simp only [arcB, decide_eq_true_eq] at hab2
          obtain ⟨a, hae⟩ : ∃ a : Nat, s.num = (a : Int) := ⟨s.num.toNat, by omega⟩
          have hD : D.length = 0 ∨ a < D.length := by simp only [fitsB, decide_eq_true_eq] at hf; omega
          refine W_seq ?_
          refine W_cs (.a 3 rfl <| .v (y_ix ((k * 2)) rfl) rfl <| .a 1 rfl <| .v (y_ld rfl ((segs_n l k s hs).trans (by rw [hae]))) rfl <| .c rfl (rup_can D a hD) rfl <| .a 1 rfl <| .k [1, 2, 3, 4, 10, 12, 14, 51] rfl) ?_
          refine W_cond rfl (fun h5 => ?_) (fun h5 => ?_)
          · have hz1 : downN D a = true := by simpa using h5
            rw [if_pos (by rw [hae]; exact hz1)] at i1
            refine W_cs (.a 2 rfl <| .k [8, 9] rfl) ?_
            refine W_ret ?_
            exact ⟨_, _, ResL.of rfl, Pur.tupleL (PurL.cons Pur.nils (PurL.cons Pur.pure PurL.nil)), by unfold intsE; rw [i1]; rfl⟩
          · have hz1 : ¬ downN D s.num.toNat = true := by rw [hae]; simpa using h5
            rw [if_neg hz1] at i1 i2
            simp only at i1 i2
            obtain ⟨y, hy⟩ : ∃ y, (endS T s x).1 = y := ⟨_, rfl⟩
            rw [hy] at g2 g3 g4 i1 i2
            have hI2 : ExpI T D l n (k + 1) y (out ++ [s.num]) := ⟨g4, g3, i1, fun h => by rw [i2 h, List.append_assoc]; rfl, by simp; omega⟩
            refine W_skip ?_
            refine W_region ?_
            refine WR_a 3 rfl <| WR_v (y_ix ((k * 2)) rfl) rfl <| WR_a 1 rfl <| WR_v (y_ld rfl (segs_n l k s hs)) rfl <| WR_a 1 rfl <| WR_l (l_append rfl (fok.rk.get rfl) rfl rfl rfl rfl (by unfold maxLen; omega)) rfl <| WR_a 1 rfl ?_
            refine WR_ren [1] (.c 1 <| .c 2 <| .c 3 <| .c 4 <| .c 10 <| .c 12 <| .c 14 <| .nil) (.kept rfl (.rowP rfl (intsP_snoc _ _)) <| .nil) rfl rfl (WR_nil ?_)
            refine W_sto (σ' := [irow (out ++ [s.num])]) (by unfold irow; simp only [List.length_append, List.length_singleton]) ?_
            generalize out ++ [s.num] = out2 at hI2
            refine W_chain (.a 2 rfl <| .v (y_ix (k) rfl) rfl <| .v (y_ld rfl ((ints_get _ k (by omega)).trans (by rw [g2]))) rfl <| .a 1 rfl <| .k [1, 2, 3, 4, 10, 12, 13, 14] rfl) ?_
            refine W_chain (.a 1 rfl <| .v (y_ar rfl) rfl <| .a 1 rfl <| .k [1, 2, 3, 4, 10, 12, 13, 14] rfl) ?_
            exact ⟨l.length - (k + 1), by omega, k + 1, y, out2, by omega, rfl, hI2, rfl⟩
        · have hk2 : ¬ s.kind = 2 := ff h4
          rw [if_neg hk2] at i1 i2
          obtain ⟨y, hy⟩ : ∃ y, (endS T s x).1 = y := ⟨_, rfl⟩
          rw [hy] at g2 g3 g4 i1 i2
          refine W_drs mixed (by kernel_rfl) (.a 5 rfl <| .v [64, 65] (y_ix (k) rfl) rfl rfl <| .v [66] (y_ld rfl ((ints_get _ k (by omega)).trans (by rw [g2]))) rfl rfl <| .v [61, 62, 63, 67] (y_c rfl (rspath_can T D x y)) rfl rfl <| .a 5 rfl <| .k [1, 2, 3, 4, 10, 12, 13, 14, 15, 16] rfl) ?_
          refine W_seq ?_
          refine W_cs (.a 2 rfl <| .k [1, 2, 3, 4, 10, 12, 13, 14, 15, 16, 72] rfl) ?_
          refine W_cond rfl (fun h6 => ?_) (fun h6 => ?_)
          · have hs0 : spE T D x y ≠ 0 := tt h6
            rw [if_pos hs0] at i1
            refine W_cs (.a 3 rfl <| .k [8, 9] rfl) ?_
            refine W_ret ?_
            exact ⟨_, _, ResL.of rfl, Pur.tupleL (PurL.cons Pur.nils (PurL.cons Pur.pure PurL.nil)), by unfold intsE; rw [i1, if_pos hs0, if_neg hs0]; rfl⟩
          · have hs0 : spE T D x y = 0 := Classical.byContradiction (ff h6)
            rw [if_neg (by rw [hs0]; simp)] at i1 i2
            rw [hs0, if_pos rfl]
            obtain ⟨xa, yb, hxa, hyb, hxN, hyN, _, hsp⟩ := spE_facts hs0
            have hlt2 := hsp.len_lt hv hyN
            refine W_skip ?_
            refine W_seq ?_
            refine W_drs mixed (by kernel_rfl) (.a 5 rfl <| .v [77, 78] (y_ix (k) rfl) rfl rfl <| .v [79] (y_ld rfl ((ints_get _ k (by omega)).trans (by rw [g2]))) rfl rfl <| .v [74, 75, 76, 80] (y_c rfl (runique_can T D x y h12)) rfl rfl <| .a 1 rfl <| .k [1, 2, 3, 4, 10, 12, 14, 15, 82] rfl) ?_
            refine W_cond rfl (fun h7 => ?_) (fun h7 => ?_)
            · have hu : uniqB T D x y = false := by simpa using h7
              rw [if_pos hu] at i1
              refine W_cs (.a 2 rfl <| .k [8, 9] rfl) ?_
              refine W_ret ?_
              exact ⟨_, _, ResL.of rfl, Pur.tupleL (PurL.cons Pur.nils (PurL.cons Pur.pure PurL.nil)), by unfold intsE; rw [i1]; rfl⟩
            · have hu : uniqB T D x y = true := by simpa using h7
              rw [if_neg (by rw [hu]; simp)] at i1 i2
              simp only at i1 i2
              have hI2 : ExpI T D l n (k + 1) y (out ++ spathL T D x.toNat y.toNat) := ⟨g4, g3, i1, fun h => by rw [i2 h, List.append_assoc], by simp; omega⟩
              refine W_skip ?_
              refine W_region ?_
              refine WR_a 2 rfl <| WR_l (l_append rfl (fok.rk.get rfl) rfl rfl rfl (by rw [intsP_len, Nat.mul_one]) (by unfold maxLen; omega)) rfl <| WR_a 1 rfl ?_
              refine WR_ren [1] (.c 1 <| .c 2 <| .c 3 <| .c 4 <| .c 10 <| .c 12 <| .c 14 <| .nil) (.kept rfl (.rowP rfl (intsP_append _ _)) <| .nil) rfl rfl (WR_nil ?_)
              refine W_sto (σ' := [irow (out ++ spathL T D x.toNat y.toNat)]) (by unfold irow; simp only [List.length_append]) ?_
              generalize out ++ spathL T D x.toNat y.toNat = out2 at hI2
              refine W_chain (.a 2 rfl <| .v (y_ix (k) rfl) rfl <| .v (y_ld rfl ((ints_get _ k (by omega)).trans (by rw [g2]))) rfl <| .a 1 rfl <| .k [1, 2, 3, 4, 10, 12, 13, 14] rfl) ?_
              refine W_chain (.a 1 rfl <| .v (y_ar rfl) rfl <| .a 1 rfl <| .k [1, 2, 3, 4, 10, 12, 13, 14] rfl) ?_
              exact ⟨l.length - (k + 1), by omega, k + 1, y, out2, by omega, rfl, hI2, rfl⟩
      · have hke : k = l.length := by have := ff h3; omega
        subst hke
        have i1 := hI.err
        have i2 := hI.val
        rw [List.drop_length] at i1 i2
        simp only [expL, List.append_nil] at i1 i2
        have i3 := i2 i1
        rw [if_neg (by rw [i1]; simp), i3]
        refine W_exit ?_
        refine W_cs (.a 3 rfl <| .v (y_cV rfl (PurL.cons Pur.pure (PurL.cons Pur.pure (PurL.cons (Pur.ownL rfl PurL.pure) PurL.nil))) (rpath_can T n out (by omega))) rfl <| .a 5 rfl <| .k [11, 12] rfl) ?_
        refine W_seq ?_
        refine W_cs (.a 2 rfl <| .k [11, 12, 99] rfl) ?_
        refine W_cond rfl (fun h8 => ?_) (fun h8 => ?_)
        · have hx0 : pathX T n out ≠ 0 := tt h8
          refine W_cs (.a 3 rfl <| .k [8, 9] rfl) ?_
          refine W_ret ?_
          exact ⟨_, _, ResL.of rfl, Pur.tupleL (PurL.cons Pur.nils (PurL.cons Pur.pure PurL.nil)), by unfold intsE; rw [if_neg hx0]; rfl⟩
        · have hx0 : pathX T n out = 0 := Classical.byContradiction (ff h8)
          rw [hx0]
          refine W_skip ?_
          refine W_cs (.a 3 rfl <| .k [8, 9] rfl) ?_
          refine W_ret ?_
          exact ⟨_, _, ResL.of rfl, Pur.tupleL (PurL.cons (Pur.ownL rfl PurL.pure) (PurL.cons Pur.pure PurL.nil)), by unfold intsE; rw [if_pos rfl]; rfl⟩
set_option maxRecDepth 10000 in
set_option maxHeartbeats 2000000 in
theorem rexact_can (T : Topo) (D : List Bool) (l : List Seg) (n : Int) (p : List Int) (hp : p.length ≤ 1000) (hl : l.length ≤ 1000) (h12 : T.nodes ≤ 12) : Can Try.prog 23 [topoV T, boolsV D, segsV l, num n, intsV p] (· = flag (exactB T D l n p)) := by
  refine can_of Try.func23 rfl Try.ntmps23 rfl ?_
  refine W_cs (.a 2 rfl <| .k [1, 2, 3, 4, 5] rfl) ?_
  refine W_seq ?_
  refine W_cs (.a 4 rfl <| .c rfl (rcheck_can T D p n hp) rfl <| .a 1 rfl <| .k [1, 2, 3, 4, 5, 18] rfl) ?_
  refine W_cond rfl (fun hc => ?_) (fun hc => ?_)
  · have he : folE T D n p ≠ 0 := tt hc
    refine W_cs (.a 1 rfl <| .k [10] rfl) ?_
    refine W_ret ?_
    exact ⟨_, _, ResL.of rfl, Pur.pure, by unfold exactB; rw [if_neg he]; rfl⟩
  · have he : folE T D n p = 0 := Classical.byContradiction (ff hc)
    have hX : exactB T D l n p = exB T D n p 0 l := by unfold exactB; rw [if_pos he]
    rw [hX, exact_iff l n p (fol_of he)]
    obtain ⟨q1, h1⟩ : ∃ q, decide (expE T D l n = 0) = q := ⟨_, rfl⟩
    obtain ⟨q2, h2⟩ : ∃ q, sameB (if expE T D l n = 0 then (expL T D n l).2 else []) p = q := ⟨_, rfl⟩
    rw [h1, h2]
    refine W_skip ?_
    refine W_cs (.a 4 rfl <| .c rfl (rexpand_can T D l n hl h12) rfl <| .a 5 rfl <| .k [4, 11, 12] rfl) ?_
    refine W_csK 10 (.raw (.bool (q1 && q2))) [] rfl ?_ ?_
    · refine .a 1 rfl <| .v (y_q rfl (h1)) rfl <| .a 1 rfl <| ?_
      cases q1
      · exact .a 5 rfl <| .k [10] rfl
      · exact .a 2 rfl <| .c rfl (h2 ▸ rsame_can _ p) rfl <| .a 2 rfl <| .k [10] rfl
    refine W_ret ?_
    exact ⟨_, _, ResL.of rfl, Pur.pure, rfl⟩
set_option maxRecDepth 10000 in
set_option maxHeartbeats 2000000 in
theorem expand_can (T : Topo) (D : List Bool) (l : List Seg) (n : Int) (hl : l.length ≤ 1000) (h12 : T.nodes ≤ 12) (hlk : T.links.length ≤ 256) : Can Try.prog 24 [topoV T, boolsV D, segsV l, num n] (· = intsE (expE T D l n) (expL T D n l).2) := by
  obtain ⟨q1, hq1⟩ : ∃ q, validB T = q := ⟨_, rfl⟩
  obtain ⟨q2, hq2⟩ : ∃ q, fitsB T D = q := ⟨_, rfl⟩
  refine can_of Try.func24 rfl Try.ntmps24 rfl ?_
  refine W_cs (.a 3 rfl <| .k [1, 2, 3, 4] rfl) ?_
  refine W_seq ?_
  refine W_csK 29 (.raw (.bool ((!q1) || !q2))) [1, 2, 3, 4] rfl ?_ ?_
  · refine .a 1 rfl <| .c rfl (hq1 ▸ valid_can T) rfl <| .a 2 rfl <| ?_
    cases q1
    · exact .a 5 rfl <| .k [29, 1, 2, 3, 4] rfl
    · exact .a 2 rfl <| .c rfl (hq2 ▸ fits_can T D (by omega)) rfl <| .a 2 rfl <| .k [29, 1, 2, 3, 4] rfl
  refine W_cond rfl (fun hc => ?_) (fun hc => ?_)
  · have he : expE T D l n = 1 := by unfold expE; rw [hq1, hq2]; cases q1 <;> cases q2 <;> first | rfl | cases hc
    refine W_cs (.a 2 rfl <| .k [8, 9] rfl) ?_
    refine W_ret ?_
    exact ⟨_, _, ResL.of rfl, Pur.tupleL (PurL.cons Pur.nils (PurL.cons Pur.pure PurL.nil)), by unfold intsE; rw [he]; rfl⟩
  · have hv : validB T = true := by rw [hq1]; cases q1; cases hc; rfl
    have hf : fitsB T D = true := by rw [hq2]; cases q2; cases q1 <;> cases hc; rfl
    have hvf : ¬ (validB T && fitsB T D) = false := by rw [hv, hf]; simp
    refine W_skip ?_
    refine W_cs (.a 3 rfl <| .c rfl (sends_can T l n hl) rfl <| .a 5 rfl <| .k [1, 2, 3, 4, 10, 11] rfl) ?_
    refine W_seq ?_
    refine W_cs (.a 2 rfl <| .k [1, 2, 3, 4, 10, 11, 38] rfl) ?_
    refine W_cond rfl (fun h2 => ?_) (fun h2 => ?_)
    · have he0 : endsE T l n ≠ 0 := tt h2
      have he : expE T D l n = endsE T l n := by unfold expE; rw [if_neg hvf, if_pos he0]
      refine W_cs (.a 3 rfl <| .k [8, 9] rfl) ?_
      refine W_ret ?_
      exact ⟨_, _, ResL.of rfl, Pur.tupleL (PurL.cons Pur.nils (PurL.cons Pur.pure PurL.nil)), by unfold intsE; rw [he, if_neg he0]; rfl⟩
    · have he0 : endsE T l n = 0 := Classical.byContradiction (ff h2)
      have hen : (endsL T n l).2 = 0 ∧ nodeB T n = true := by
        unfold endsE at he0
        split at he0
        · omega
        · split at he0
          · omega
          · rename_i hx; exact ⟨he0, by simpa using hx⟩
      obtain ⟨hen, hnn⟩ := hen
      have hel := ends_len l n hen
      have hE : expE T D l n = if (expL T D n l).1 ≠ 0 then (expL T D n l).1 else pathX T n (expL T D n l).2 := by unfold expE; rw [if_neg hvf, if_neg (by rw [he0]; simp)]
      rw [hE, he0, if_pos rfl]
      clear h2
      refine W_skip ?_
      refine W_cs (.a 1 rfl <| .k [1, 2, 3, 4, 10, 12] rfl) ?_
      refine W_adopt 12 3 1 rfl ?_
      refine W_cs (.a 2 rfl <| .k [1, 2, 3, 4, 10, 12, 13] rfl) ?_
      refine W_seq ?_
      refine W_cs (.a 3 rfl <| .k [1, 3, 4, 10, 12, 13, 41, 42, 43] rfl) ?_
      refine W_block ?_
      refine W_k [1, 3, 4, 10, 12, 13, 41, 42, 43] rfl ?_
      refine W_loop (fun r st => ∃ (k : Nat) (x : Int) (out : List Int), k ≤ l.length ∧ r = l.length - k ∧ ExpI T D l n k x out ∧ st = ⟨[(1, boolsV D), (3, num n), (4, .pin (topoP T) 0), (10, intsV (endsL T n l).1), (12, .own 0), (13, num x), (41, segsV l), (42, num l.length), (43, num k)], [irow out]⟩) l.length ⟨0, n, [], by omega, by omega, .start hen, rfl⟩ ?_
      rintro r st ⟨k, x, out, hk, rfl, hI, rfl⟩
      have hol := hI.len
      refine W_cs (.a 1 rfl <| .k [1, 3, 4, 10, 12, 13, 41, 42, 43, 44] rfl) ?_
      refine W_seq ?_
      refine W_cond rfl (fun h3 => ?_) (fun h3 => ?_)
      · have hlt : k < l.length := by have := tt h3; omega
        obtain ⟨s, hs, hdr⟩ := segs_cons l k hlt
        obtain ⟨g1, g2, g3, g4⟩ := hI.get hdr (by omega)
        obtain ⟨z1, z2, z3⟩ := end_zero g1
        have i1 := hI.err
        have i2 := hI.val
        rw [hdr] at i1 i2
        simp only [expL] at i1 i2
        refine W_skip ?_
        refine W_seq ?_
        refine W_block ?_
        refine W_rs ?_
        refine WR_a 1 rfl <| WR_v (y_ix ((k * 2)) rfl) rfl <| WR_v (y_la rfl (segs_drop l k s hs) rfl) rfl <| WR_a 3 rfl <| WR_k [1, 3, 4, 10, 12, 13, 14, 15, 41, 42, 43] rfl ?_
        refine W_sto (σ' := [irow out, some (.cells 43 (segP s))]) rfl ?_
        refine W_seq ?_
        refine W_cs (.a 3 rfl <| .k [1, 3, 4, 10, 12, 13, 14, 15, 41, 42, 43, 50] rfl) ?_
        refine W_cond rfl (fun h4 => ?_) (fun h4 => ?_)
        · have hk2 : s.kind = 2 := tt h4
          rw [if_pos hk2] at i1 i2
          have hab : arcB T s.num = true := by
            rcases z3 with h | h
            · omega
            · exact h.2
          have hab2 := hab
          simp only [arcB, decide_eq_true_eq] at hab2
          obtain ⟨a, hae⟩ : ∃ a : Nat, s.num = (a : Int) := ⟨s.num.toNat, by omega⟩
          have hD : D.length = 0 ∨ a < D.length := by simp only [fitsB, decide_eq_true_eq] at hf; omega
          refine W_seq ?_
          refine W_cs (.a 2 rfl <| .v (y_ld rfl ((show some (num s.num) = some (num (a : Int)) by rw [hae]))) rfl <| .c rfl (down_can D a hD) rfl <| .k [1, 3, 4, 10, 12, 14, 15, 41, 42, 43, 54] rfl) ?_
          refine W_cond rfl (fun h5 => ?_) (fun h5 => ?_)
          · rw [if_pos (by rw [hae]; exact h5)] at i1
            refine W_cs (.a 2 rfl <| .k [8, 9] rfl) ?_
            refine W_ret ?_
            exact ⟨_, _, ResL.of rfl, Pur.tupleL (PurL.cons Pur.nils (PurL.cons Pur.pure PurL.nil)), by unfold intsE; rw [i1]; rfl⟩
          · have hz1 : ¬ downN D s.num.toNat = true := by rw [hae, Int.toNat_natCast, h5]; simp
            rw [if_neg hz1] at i1 i2
            simp only at i1 i2
            obtain ⟨y, hy⟩ : ∃ y, (endS T s x).1 = y := ⟨_, rfl⟩
            rw [hy] at g2 g3 g4 i1 i2
            have hI2 : ExpI T D l n (k + 1) y (out ++ [s.num]) := ⟨g4, g3, i1, fun h => by rw [i2 h, List.append_assoc]; rfl, by simp; omega⟩
            refine W_skip ?_
            refine W_region ?_
            refine WR_a 4 rfl <| WR_l (l_append rfl (fok.rk.get rfl) rfl rfl rfl rfl (by unfold maxLen; omega)) rfl <| WR_a 1 rfl ?_
            refine WR_ren [2] (.c 1 <| .c 3 <| .c 4 <| .c 10 <| .c 12 <| .c 14 <| .c 41 <| .c 42 <| .c 43 <| .nil) (.kept rfl (.rowP rfl (intsP_snoc _ _)) <| .nil) rfl rfl (WR_nil ?_)
            refine W_sto (σ' := [irow (out ++ [s.num])]) (by unfold irow; simp only [List.length_append, List.length_singleton]) ?_
            generalize out ++ [s.num] = out2 at hI2
            refine W_chain (.a 2 rfl <| .v (y_ix (k) rfl) rfl <| .v (y_ld rfl ((ints_get _ k (by omega)).trans (by rw [g2]))) rfl <| .a 1 rfl <| .k [1, 3, 4, 10, 12, 13, 41, 42, 43] rfl) ?_
            refine W_chain (.v (y_ar rfl) rfl <| .a 1 rfl <| .k [1, 3, 4, 10, 12, 13, 41, 42, 43] rfl) ?_
            exact ⟨l.length - (k + 1), by omega, k + 1, y, out2, by omega, rfl, hI2, rfl⟩
        · have hk2 : ¬ s.kind = 2 := ff h4
          rw [if_neg hk2] at i1 i2
          obtain ⟨y, hy⟩ : ∃ y, (endS T s x).1 = y := ⟨_, rfl⟩
          rw [hy] at g2 g3 g4 i1 i2
          refine W_drs mixed (by kernel_rfl) (.a 5 rfl <| .v [64, 65] (y_ix (k) rfl) rfl rfl <| .v [66] (y_ld rfl ((ints_get _ k (by omega)).trans (by rw [g2]))) rfl rfl <| .v [61, 62, 63, 67] (y_c rfl (spath_can T D x y)) rfl rfl <| .a 5 rfl <| .k [1, 3, 4, 10, 12, 13, 14, 16, 17, 41, 42, 43] rfl) ?_
          refine W_seq ?_
          refine W_cs (.a 2 rfl <| .k [1, 3, 4, 10, 12, 13, 14, 16, 17, 41, 42, 43, 72] rfl) ?_
          refine W_cond rfl (fun h6 => ?_) (fun h6 => ?_)
          · have hs0 : spE T D x y ≠ 0 := tt h6
            rw [if_pos hs0] at i1
            refine W_cs (.a 3 rfl <| .k [8, 9] rfl) ?_
            refine W_ret ?_
            exact ⟨_, _, ResL.of rfl, Pur.tupleL (PurL.cons Pur.nils (PurL.cons Pur.pure PurL.nil)), by unfold intsE; rw [i1, if_pos hs0, if_neg hs0]; rfl⟩
          · have hs0 : spE T D x y = 0 := Classical.byContradiction (ff h6)
            rw [if_neg (by rw [hs0]; simp)] at i1 i2
            rw [hs0, if_pos rfl]
            obtain ⟨xa, yb, hxa, hyb, hxN, hyN, _, hsp⟩ := spE_facts hs0
            have hlt2 := hsp.len_lt hv hyN
            refine W_skip ?_
            refine W_seq ?_
            refine W_drs mixed (by kernel_rfl) (.a 5 rfl <| .v [77, 78] (y_ix (k) rfl) rfl rfl <| .v [79] (y_ld rfl ((ints_get _ k (by omega)).trans (by rw [g2]))) rfl rfl <| .v [74, 75, 76, 80] (y_c rfl (unique_can T D x y h12)) rfl rfl <| .a 1 rfl <| .k [1, 3, 4, 10, 12, 14, 16, 41, 42, 43, 82] rfl) ?_
            refine W_cond rfl (fun h7 => ?_) (fun h7 => ?_)
            · have hu : uniqB T D x y = false := by simpa using h7
              rw [if_pos hu] at i1
              refine W_cs (.a 2 rfl <| .k [8, 9] rfl) ?_
              refine W_ret ?_
              exact ⟨_, _, ResL.of rfl, Pur.tupleL (PurL.cons Pur.nils (PurL.cons Pur.pure PurL.nil)), by unfold intsE; rw [i1]; rfl⟩
            · have hu : uniqB T D x y = true := by simpa using h7
              rw [if_neg (by rw [hu]; simp)] at i1 i2
              simp only at i1 i2
              have hI2 : ExpI T D l n (k + 1) y (out ++ spathL T D x.toNat y.toNat) := ⟨g4, g3, i1, fun h => by rw [i2 h, List.append_assoc], by simp; omega⟩
              refine W_skip ?_
              refine W_region ?_
              refine WR_a 2 rfl <| WR_l (l_append rfl (fok.rk.get rfl) rfl rfl rfl (by rw [intsP_len, Nat.mul_one]) (by unfold maxLen; omega)) rfl <| WR_a 1 rfl ?_
              refine WR_ren [2] (.c 1 <| .c 3 <| .c 4 <| .c 10 <| .c 12 <| .c 14 <| .c 41 <| .c 42 <| .c 43 <| .nil) (.kept rfl (.rowP rfl (intsP_append _ _)) <| .nil) rfl rfl (WR_nil ?_)
              refine W_sto (σ' := [irow (out ++ spathL T D x.toNat y.toNat)]) (by unfold irow; simp only [List.length_append]) ?_
              generalize out ++ spathL T D x.toNat y.toNat = out2 at hI2
              refine W_chain (.a 2 rfl <| .v (y_ix (k) rfl) rfl <| .v (y_ld rfl ((ints_get _ k (by omega)).trans (by rw [g2]))) rfl <| .a 1 rfl <| .k [1, 3, 4, 10, 12, 13, 41, 42, 43] rfl) ?_
              refine W_chain (.v (y_ar rfl) rfl <| .a 1 rfl <| .k [1, 3, 4, 10, 12, 13, 41, 42, 43] rfl) ?_
              exact ⟨l.length - (k + 1), by omega, k + 1, y, out2, by omega, rfl, hI2, rfl⟩
      · have hke : k = l.length := by have := ff h3; omega
        subst hke
        have i1 := hI.err
        have i2 := hI.val
        rw [List.drop_length] at i1 i2
        simp only [expL, List.append_nil] at i1 i2
        have i3 := i2 i1
        have harc := exp_arcs (D := D) l n hen i1
        rw [if_neg (by rw [i1]; simp), i3]
        rw [i3] at harc
        have hfour := walk_four out true n harc
        refine W_exit ?_
        refine W_seq ?_
        refine W_cs (.a 3 rfl <| .v (y_cV rfl (PurL.cons Pur.pure (PurL.cons Pur.pure (PurL.cons (Pur.ownL rfl PurL.pure) PurL.nil))) (path_can T n out (by omega))) rfl <| .a 7 rfl <| .k [12, 20] rfl) ?_
        refine W_cs (.a 2 rfl <| .k [12, 100] rfl) ?_
        refine W_cond rfl (fun h8 => ?_) (fun h8 => ?_)
        · have hx0 : pathX T n out ≠ 0 := tt h8
          have hx4 : pathX T n out = 4 := by
            unfold pathX at hx0 ⊢
            rw [if_pos hv, if_pos hnn] at hx0 ⊢
            omega
          refine W_cs (.a 2 rfl <| .k [8, 9] rfl) ?_
          refine W_ret ?_
          exact ⟨_, _, ResL.of rfl, Pur.tupleL (PurL.cons Pur.nils (PurL.cons Pur.pure PurL.nil)), by unfold intsE; rw [hx4]; rfl⟩
        · have hx0 : pathX T n out = 0 := Classical.byContradiction (ff h8)
          rw [hx0]
          refine W_skip ?_
          refine W_cs (.a 3 rfl <| .k [8, 9] rfl) ?_
          refine W_ret ?_
          exact ⟨_, _, ResL.of rfl, Pur.tupleL (PurL.cons (Pur.ownL rfl PurL.pure) (PurL.cons Pur.pure PurL.nil)), by unfold intsE; rw [if_pos rfl]; rfl⟩
end PW
end Go.Proofs.Ytgpdjgifhppnhaa

/- The laws of layer 20 on exact lists and expansions, walked. -/
namespace Go.Proofs.Ytgpdjgifhppnhaa
set_option linter.unusedVariables false
set_option linter.unusedSimpArgs false
namespace PW
open Go.RowKit Reg Mem Net

section
variable {T : Topo} {D : List Bool} {n : Int} {p : List Int}
theorem own_exact (he : folE T D n p = 0) : exactB T D (lstL T D n p) n p = true := by
  unfold exactB
  rw [if_pos he]
  exact ex_lst (fol_of he) p.length 0 (Nat.zero_le _) (by omega)
theorem own_exp (he : folE T D n p = 0) : expE T D (lstL T D n p) n = 0 ∧ (expL T D n (lstL T D n p)).2 = p := by
  have h := own_exact (T := T) (D := D) he
  unfold exactB at h
  rw [if_pos he, exact_iff _ n p (fol_of he), Bool.and_eq_true, decide_eq_true_eq] at h
  obtain ⟨h1, h2⟩ := h
  rw [if_pos h1] at h2
  unfold sameB at h2
  exact ⟨h1, of_decide_eq_true h2⟩
theorem shorter {l : List Seg} (he : folE T D n p = 0) (hl : l.length < (lstL T D n p).length) : exactB T D l n p = false := by
  unfold exactB
  rw [if_pos he]
  cases h : exB T D n p 0 l with
  | false => rfl
  | true =>
    have := ex_len (fol_of he) l 0 (Nat.zero_le _) h
    have hg : gN T D n p 0 = (lstL T D n p).length := rfl
    omega
end
set_option maxRecDepth 10000 in
set_option maxHeartbeats 1000000 in
theorem lawExact_can (c : Cas) : Can Try.prog 6 [casV c] (· = flag true) := by
  refine can_of Try.func6 rfl Try.ntmps6 rfl ?_
  refine W_cs (.a 2 rfl <| .k [1] rfl) ?_
  refine W_seq ?_
  refine W_cs (.c rfl (awake20_can) rfl <| .a 1 rfl <| .k [1, 4] rfl) ?_
  refine W_cond rfl (fun hc => ?_) (fun hc => ?_)
  · cases hc
  · refine W_skip ?_
    refine W_seq ?_
    refine W_cs (.a 1 rfl <| .c rfl (large_can c) rfl <| .k [1, 6] rfl) ?_
    refine W_cond rfl (fun hy => ?_) (fun hy => ?_)
    · skip
      refine W_cs (.a 1 rfl <| .k [2] rfl) ?_
      refine W_ret ?_
      exact ⟨_, _, ResL.of rfl, Pur.pure, rfl⟩
    · obtain ⟨s1, s2, s3, s4, s5, s6⟩ := large_small hy
      obtain ⟨q, hq⟩ : ∃ q, exactB c.T c.D c.l c.n c.p = q := ⟨_, rfl⟩
      refine W_skip ?_
      refine W_drs mixed (by kernel_rfl) (.a 10 rfl <| .v [8, 10, 12, 14, 16] (y_c rfl (hq ▸ exact_can c.T c.D c.l c.n c.p (by omega) (by omega) (by omega) s4)) rfl rfl <| .a 10 rfl <| .v [19, 21, 23, 25, 27] (y_c rfl (hq ▸ rexact_can c.T c.D c.l c.n c.p (by omega) (by omega) s4)) rfl rfl <| .a 2 rfl <| .k [2] rfl) ?_
      refine W_ret ?_
      exact ⟨_, _, ResL.of rfl, Pur.pure, by cases q <;> rfl⟩
set_option maxRecDepth 10000 in
set_option maxHeartbeats 1000000 in
theorem lawShorter_can (c : Cas) : Can Try.prog 7 [casV c] (· = flag true) := by
  refine can_of Try.func7 rfl Try.ntmps7 rfl ?_
  refine W_cs (.a 2 rfl <| .k [1] rfl) ?_
  refine W_seq ?_
  refine W_cs (.c rfl (awake20_can) rfl <| .a 1 rfl <| .k [1, 6] rfl) ?_
  refine W_cond rfl (fun hc => ?_) (fun hc => ?_)
  · cases hc
  · refine W_skip ?_
    refine W_seq ?_
    refine W_cs (.a 1 rfl <| .c rfl (large_can c) rfl <| .k [1, 8] rfl) ?_
    refine W_cond rfl (fun hy => ?_) (fun hy => ?_)
    · skip
      refine W_cs (.a 1 rfl <| .k [2] rfl) ?_
      refine W_ret ?_
      exact ⟨_, _, ResL.of rfl, Pur.pure, rfl⟩
    · obtain ⟨s1, s2, s3, s4, s5, s6⟩ := large_small hy
      obtain ⟨L, hL⟩ : ∃ L, (if folE c.T c.D c.n c.p = 0 then lstL c.T c.D c.n c.p else []) = L := ⟨_, rfl⟩
      have he1 : Can Try.prog 13 [topoV c.T, boolsV c.D, intsV c.p, num c.n] (· = .tuple [segsV L, num (folE c.T c.D c.n c.p)]) := hL ▸ elist_can c.T c.D c.p c.n (by omega) (by omega) s4
      obtain ⟨g1, hg1⟩ : ∃ q, decide (folE c.T c.D c.n c.p ≠ 0) = q := ⟨_, rfl⟩
      obtain ⟨g2, hg2⟩ : ∃ q, decide ((L.length : Int) ≤ (c.l.length : Int)) = q := ⟨_, rfl⟩
      refine W_skip ?_
      refine W_cs (.a 8 rfl <| .c rfl (he1) rfl <| .a 5 rfl <| .k [1, 3, 4] rfl) ?_
      refine W_seq ?_
      refine W_csK 30 (.raw (.bool (g1 || g2))) [1] rfl ?_ ?_
      · refine .a 1 rfl <| .v (y_q rfl (hg1)) rfl <| .a 1 rfl <| ?_
        cases g1
        · exact .a 5 rfl <| .v (y_q rfl (hg2)) rfl <| .a 1 rfl <| .k [30, 1] rfl
        · exact .a 7 rfl <| .k [30, 1] rfl
      refine W_cond rfl (fun hz => ?_) (fun hz => ?_)
      · skip
        refine W_cs (.a 1 rfl <| .k [2] rfl) ?_
        refine W_ret ?_
        exact ⟨_, _, ResL.of rfl, Pur.pure, rfl⟩
      · obtain ⟨z1, z2⟩ := Bool.or_eq_false_iff.1 hz
        rw [z1] at hg1
        rw [z2] at hg2
        have he : folE c.T c.D c.n c.p = 0 := Classical.byContradiction (ff hg1)
        rw [if_pos he] at hL
        have hx : exactB c.T c.D c.l c.n c.p = false := shorter he (by rw [hL]; have := ff hg2; omega)
        refine W_skip ?_
        refine W_cs (.a 10 rfl <| .c rfl (hx ▸ exact_can c.T c.D c.l c.n c.p (by omega) (by omega) (by omega) s4) rfl <| .a 2 rfl <| .k [2] rfl) ?_
        refine W_ret ?_
        exact ⟨_, _, ResL.of rfl, Pur.pure, rfl⟩
set_option maxRecDepth 10000 in
set_option maxHeartbeats 1000000 in
theorem lawExpand_can (c : Cas) : Can Try.prog 9 [casV c] (· = flag true) := by
  refine can_of Try.func9 rfl Try.ntmps9 rfl ?_
  refine W_cs (.a 2 rfl <| .k [1] rfl) ?_
  refine W_seq ?_
  refine W_cs (.c rfl (awake20_can) rfl <| .a 1 rfl <| .k [1, 8] rfl) ?_
  refine W_cond rfl (fun hc => ?_) (fun hc => ?_)
  · cases hc
  · refine W_skip ?_
    refine W_seq ?_
    refine W_cs (.a 1 rfl <| .c rfl (large_can c) rfl <| .k [1, 10] rfl) ?_
    refine W_cond rfl (fun hy => ?_) (fun hy => ?_)
    · skip
      refine W_cs (.a 1 rfl <| .k [2] rfl) ?_
      refine W_ret ?_
      exact ⟨_, _, ResL.of rfl, Pur.pure, rfl⟩
    · obtain ⟨s1, s2, s3, s4, s5, s6⟩ := large_small hy
      obtain ⟨E, hE⟩ : ∃ E, expE c.T c.D c.l c.n = E := ⟨_, rfl⟩
      obtain ⟨L, hL⟩ : ∃ L, (if E = 0 then (expL c.T c.D c.n c.l).2 else []) = L := ⟨_, rfl⟩
      have he1 : Can Try.prog 24 [topoV c.T, boolsV c.D, segsV c.l, num c.n] (· = .tuple [intsV L, num E]) := by
        have := expand_can c.T c.D c.l c.n (by omega) s4 (by omega)
        unfold intsE at this
        rw [hE, hL] at this
        exact this
      have he2 : Can Try.prog 25 [topoV c.T, boolsV c.D, segsV c.l, num c.n] (· = .tuple [intsV L, num E]) := by
        have := rexpand_can c.T c.D c.l c.n (by omega) s4
        unfold intsE at this
        rw [hE, hL] at this
        exact this
      obtain ⟨q1, h1⟩ : ∃ q, decide (E = E) = q := ⟨_, rfl⟩
      have hq1 : q1 = true := by rw [← h1]; exact decide_eq_true rfl
      obtain ⟨q2, h2⟩ : ∃ q, sameB L L = q := ⟨_, rfl⟩
      have hq2 : q2 = true := by rw [← h2]; unfold sameB; exact decide_eq_true rfl
      refine W_skip ?_
      refine W_cs (.a 8 rfl <| .c rfl (he1) rfl <| .a 5 rfl <| .k [1, 3, 4] rfl) ?_
      refine W_cs (.a 8 rfl <| .c rfl (he2) rfl <| .a 5 rfl <| .k [3, 4, 5, 6] rfl) ?_
      refine W_csK 2 (.raw (.bool (q1 && q2))) [] rfl ?_ ?_
      · refine .a 2 rfl <| .v (y_q rfl (h1)) rfl <| .a 1 rfl <| ?_
        cases q1
        · exact .a 5 rfl <| .k [2] rfl
        · exact .a 2 rfl <| .c rfl (h2 ▸ rsame_can L L) rfl <| .a 2 rfl <| .k [2] rfl
      refine W_ret ?_
      exact ⟨_, _, ResL.of rfl, Pur.pure, by rw [hq1, hq2]; rfl⟩
set_option maxRecDepth 10000 in
set_option maxHeartbeats 1000000 in
theorem lawOwn_can (c : Cas) : Can Try.prog 10 [casV c] (· = flag true) := by
  refine can_of Try.func10 rfl Try.ntmps10 rfl ?_
  refine W_cs (.a 2 rfl <| .k [1] rfl) ?_
  refine W_seq ?_
  refine W_cs (.c rfl (awake20_can) rfl <| .a 1 rfl <| .k [1, 8] rfl) ?_
  refine W_cond rfl (fun hc => ?_) (fun hc => ?_)
  · cases hc
  · refine W_skip ?_
    refine W_seq ?_
    refine W_cs (.a 1 rfl <| .c rfl (large_can c) rfl <| .k [1, 10] rfl) ?_
    refine W_cond rfl (fun hy => ?_) (fun hy => ?_)
    · skip
      refine W_cs (.a 1 rfl <| .k [2] rfl) ?_
      refine W_ret ?_
      exact ⟨_, _, ResL.of rfl, Pur.pure, rfl⟩
    · obtain ⟨s1, s2, s3, s4, s5, s6⟩ := large_small hy
      obtain ⟨L, hL⟩ : ∃ L, (if folE c.T c.D c.n c.p = 0 then lstL c.T c.D c.n c.p else []) = L := ⟨_, rfl⟩
      have he1 : Can Try.prog 13 [topoV c.T, boolsV c.D, intsV c.p, num c.n] (· = .tuple [segsV L, num (folE c.T c.D c.n c.p)]) := hL ▸ elist_can c.T c.D c.p c.n (by omega) (by omega) s4
      obtain ⟨b, hb⟩ : ∃ q, exactB c.T c.D L c.n c.p = q := ⟨_, rfl⟩
      have hLl : L.length ≤ c.p.length := by
        rw [← hL]
        split
        · exact lst_len _ _
        · exact Nat.zero_le _
      have he2 : Can Try.prog 22 [topoV c.T, boolsV c.D, segsV L, num c.n, intsV c.p] (· = flag b) := hb ▸ exact_can c.T c.D L c.n c.p (by omega) (by omega) (by omega) s4
      refine W_skip ?_
      refine W_cs (.a 8 rfl <| .c rfl (he1) rfl <| .a 5 rfl <| .k [1, 3, 4] rfl) ?_
      refine W_seq ?_
      refine W_cs (.a 2 rfl <| .k [1, 3, 24] rfl) ?_
      refine W_cond rfl (fun hz => ?_) (fun hz => ?_)
      · have he : folE c.T c.D c.n c.p ≠ 0 := tt hz
        rw [if_neg he] at hL
        obtain ⟨g1, hg1⟩ : ∃ q, decide ((L.length : Int) = 0) = q := ⟨_, rfl⟩
        have hg : g1 = true := by rw [← hg1, ← hL]; exact decide_eq_true rfl
        have hb0 : b = false := by rw [← hb]; unfold exactB; rw [if_neg he]
        refine W_csK 2 (.raw (.bool (g1 && !b))) [] rfl ?_ ?_
        · refine .a 2 rfl <| .v (y_q rfl (hg1)) rfl <| .a 1 rfl <| ?_
          cases g1
          · exact .a 13 rfl <| .k [2] rfl
          · exact .a 9 rfl <| .c rfl (he2) rfl <| .a 3 rfl <| .k [2] rfl
        refine W_ret ?_
        exact ⟨_, _, ResL.of rfl, Pur.pure, by rw [hg, hb0]; rfl⟩
      · have he : folE c.T c.D c.n c.p = 0 := Classical.byContradiction (ff hz)
        rw [if_pos he] at hL
        obtain ⟨x1, x2⟩ := own_exp he
        have hb1 : b = true := by rw [← hb, ← hL]; exact own_exact he
        rw [hL] at x1 x2
        have he3 : Can Try.prog 24 [topoV c.T, boolsV c.D, segsV L, num c.n] (· = .tuple [intsV c.p, num 0]) := by
          have := expand_can c.T c.D L c.n (by omega) s4 (by omega)
          unfold intsE at this
          rw [x1, x2, if_pos rfl] at this
          exact this
        obtain ⟨q1, h1⟩ : ∃ q, decide ((0 : Int) = 0) = q := ⟨_, rfl⟩
        have hq1 : q1 = true := by rw [← h1]; rfl
        obtain ⟨q2, h2⟩ : ∃ q, sameB c.p c.p = q := ⟨_, rfl⟩
        have hq2 : q2 = true := by rw [← h2]; unfold sameB; exact decide_eq_true rfl
        obtain ⟨q4, h4⟩ : ∃ q, decide ((L.length : Int) ≤ (c.p.length : Int)) = q := ⟨_, rfl⟩
        have hq4 : q4 = true := by rw [← h4]; exact decide_eq_true (by omega)
        refine W_skip ?_
        refine W_cs (.a 7 rfl <| .c rfl (he3) rfl <| .a 5 rfl <| .k [1, 3, 5, 6] rfl) ?_
        refine W_csK 2 (.raw (.bool (((q1 && q2) && b) && q4))) [] rfl ?_ ?_
        · refine .a 1 rfl <| .v (y_q rfl (h1)) rfl <| .a 1 rfl <| ?_
          cases q1
          · exact .a 26 rfl <| .k [2] rfl
          · refine .a 3 rfl <| .c rfl (h2 ▸ rsame_can c.p c.p) rfl <| .a 2 rfl <| ?_
            cases q2
            · exact .a 20 rfl <| .k [2] rfl
            · refine .a 9 rfl <| .c rfl (he2) rfl <| .a 2 rfl <| ?_
              cases b
              · exact .a 8 rfl <| .k [2] rfl
              · exact .a 5 rfl <| .v (y_q rfl (h4)) rfl <| .a 2 rfl <| .k [2] rfl
        refine W_ret ?_
        exact ⟨_, _, ResL.of rfl, Pur.pure, by rw [hq1, hq2, hb1, hq4]; rfl⟩
end PW
end Go.Proofs.Ytgpdjgifhppnhaa

namespace Go.Proofs.Ytgpdjgifhppnhaa.encodeOwn
set_option linter.unusedVariables false
set_option linter.unusedSimpArgs false
open Go.ChangeShapes Go.WideShapes Go.ChangeAt Go.RowKit
open Reg Mem PW

set_option maxRecDepth 100000 in
theorem lifted (os : Os) (started : os.Started) (H : Type) (enc : TypeId × Value → H) :
    ReturnsInHanded {} Try.checked os 10 .any (Rows.encodeOwnSpec.pre6 enc Try.prog Try.f10 Rows.encodeOwnRow.domain false) (Rows.encodeOwnSpec.post enc Try.prog Try.f10 false true false false) := by
  refine returnsInHanded_of_change (C := Try.checked) own started (by kernel_rfl) Try.func10
    (ChangeSpec.witness6 (enc := enc) (C := Try.checked) false ⟨#[], #[.agg #[.int .i64 0, .slice none 0 0, .slice none 0 0, .slice none 0 0, .int .i64 0, .slice none 0 0, .slice none 0 0]], []⟩ 8 (by kernel_rfl) (by kernel_rfl) (by kernel_rfl) (by kernel_rfl)) ?_
  intro W base args ds gs before hval0 hW hcnd _
  have hval : ∀ (j : Nat) t v, Try.f10.params[j]? = some t → args[j]? = some v → Value.okWide Try.prog W .any base t v := hval0
  have hW' := hW
  obtain ⟨p, q, hA0, hV, rfl, hfz, hnd⟩ := hW
  have hA : DataW.TrodAll enc Try.prog W 0 (fun _ => true) true Try.f10.params.toList args.toList ds p := hA0
  rw [Try.params10] at hA hval
  obtain ⟨v0, vs0, d0, ds0, p0, q0, hargs, rfl, rfl, h0, r0⟩ := trodAll_cons hA
  obtain ⟨rfl, rfl, rfl⟩ := trodAll_nil r0
  obtain rfl : args = #[v0] := by cases args; simp_all
  obtain ⟨rfl, rfl⟩ := trodVars_none hV
  have lt0 := lt_of h0
  obtain ⟨c, R0⟩ := rd_case (hval 0 29 v0 rfl rfl) h0
  clear hA0 hval0
  refine ((lawOwn_can c) (fun _ => False) W #[v0] (fun _ h => h.elim) (noGlob _ W) (RepL.cons R0 (RepL.nil _ _))).mono fun e W' ⟨x, he, bel, r, hr, hx⟩ => ?_
  subst hr
  cases hx
  subst he
  exact ⟨_, rfl, _, _, _, [], _, [], hW', trodAll_mk1 (shut_bool Try.underlying4 _), (trodAll_cons_mk (Below.trod laidOut (by kernel_rfl) (of_decide_eq_true (by kernel_rfl)) h0 bel lt0) trodAll_mk0), rfl, bel.frame _, fun h => by cases h⟩

theorem over : Rows.encodeOwnRow.holds Try.pinned (OpenSpec.ofChange Rows.encodeOwnSpec) :=
  OpenClaim.holds_of_wide 10 Try.f10 rfl rfl rfl rfl rfl rfl rfl ⟨rfl, rfl, rfl, rfl, rfl⟩ rfl rfl rfl rfl rfl (by kernel_rfl) Try.func10 (by kernel_rfl)
    (of_decide_eq_true (by kernel_rfl)) (by unfold Func.isWrapper; first | (rw [if_pos (by decide +kernel)]; kernel_rfl) | (rw [if_neg (by decide +kernel)]; exact ⟨rfl, rfl⟩))
    (fun os started H enc _ => lifted os started H enc)

theorem proved : Rows.EncodeOwnSaid := over
end Go.Proofs.Ytgpdjgifhppnhaa.encodeOwn
