/- Texts of the proof, part 6. -/
import Derived.WideShapes
import Derived.RangeFuncNested
import Derived.RangeFuncBound
import Derived.RangeFuncCalls
import Derived.RangeFuncLeaves
import Derived.Shelf.Abstract
import Derived.Shelf.RegionOpen
import Derived.WalkKit
import Derived.OwnWalkIn
import Derived.TacticsInMore
import Derived.LoopNIn
import Derived.LoopIn
import Derived.RangeFuncFrom
import Derived.Test.YtbpgndbjbaoolaaGreatCardPCB5
/- Package spf: check, Dist; package dag: Next; package graph: Out. -/
namespace Go.Proofs.YtbpgndbjbaoolaaGreat
set_option linter.unusedVariables false
set_option linter.unusedSimpArgs false
namespace PW
open Go.RowKit Reg Mem Net Heap

instance (rs : List (List Int)) : IsOne (rowsV rs) := by unfold rowsV; infer_instance
instance (T : Topo) : IsOneL (topoP T) := by unfold topoP; infer_instance
def chkE (T : Topo) (D : List Bool) (ns : List Int) : Int := if validB T && fitsB T D then (if ns.all (nodeB T) then 0 else 2) else 1

set_option maxRecDepth 10000 in
set_option maxHeartbeats 1000000 in
theorem check_can (T : Topo) (D : List Bool) (ns : List Int) (hns : ns.length ≤ 1000) : Can Tryz.prog 123 [topoV T, boolsV D, intsV ns] (· = num (chkE T D ns)) := by
  refine can_of Tryz.func123 rfl Tryz.ntmps123 rfl ?_
  refine W_cs (.a 2 rfl <| .k [1, 2, 3] rfl) ?_
  refine W_seq ?_
  obtain ⟨q1, hq1⟩ : ∃ q, validB T = q := ⟨_, rfl⟩
  obtain ⟨q2, hq2⟩ : ∃ q, fitsB T D = q := ⟨_, rfl⟩
  refine W_csK 17 (.raw (.bool ((!q1) || (!q2)))) [2, 3] rfl ?_ ?_
  · refine .a 1 rfl <| .c rfl (hq1 ▸ valid_can T) rfl <| .a 2 rfl <| ?_
    cases q1
    · exact .a 5 rfl <| .k [17, 2, 3] rfl
    · exact .a 2 rfl <| .c rfl (hq2 ▸ fits_can T D (by have := links_le hq1; omega)) rfl <| .a 2 rfl <| .k [17, 2, 3] rfl
  refine W_cond rfl (fun hc => ?_) (fun hc => ?_)
  · have hch : chkE T D ns = 1 := by
      unfold chkE
      rw [hq1, hq2, if_neg]
      revert hc
      cases q1 <;> cases q2 <;> simp
    refine W_cs (.a 1 rfl <| .k [6] rfl) ?_
    refine W_ret ?_
    exact ⟨_, _, ResL.of rfl, Pur.pure, by rw [hch]; rfl⟩
  · have hok : (validB T && fitsB T D) = true := by
      rw [hq1, hq2]
      revert hc
      cases q1 <;> cases q2 <;> simp
    refine W_skip ?_
    refine W_seq ?_
    refine W_cs (.a 3 rfl <| .k [3, 18, 19, 20] rfl) ?_
    refine W_block ?_
    refine W_k [3, 18, 19, 20] rfl ?_
    refine W_loop (fun r s => ∃ i, i ≤ ns.length ∧ (ns.take i).all (nodeB T) = true ∧ r = ns.length - i ∧ s = ⟨[(3, .pin (topoP T) 0), (18, intsV ns), (19, num ns.length), (20, num i)], []⟩) ns.length ⟨0, by omega, by simp, by omega, rfl⟩ ?_
    rintro r s ⟨i, hi, hall, rfl, rfl⟩
    refine W_cs (.a 1 rfl <| .k [3, 18, 19, 20, 21] rfl) ?_
    refine W_seq ?_
    refine W_cond rfl (fun hc => ?_) (fun hc => ?_)
    · have hlt : i < ns.length := by have := of_decide_eq_true hc; omega
      refine W_skip ?_
      refine W_seq ?_
      refine W_block ?_
      refine W_cs (.v (y_ix (i) rfl) rfl <| .v (y_ld rfl (ints_get ns i hlt)) rfl <| .a 1 rfl <| .k [3, 8, 18, 19, 20] rfl) ?_
      refine W_cs (.a 2 rfl <| .c rfl (node_can T _) rfl <| .a 1 rfl <| .k [3, 18, 19, 20, 27] rfl) ?_
      refine W_cond rfl (fun hc => ?_) (fun hc => ?_)
      · have hch : chkE T D ns = 2 := by
          unfold chkE
          rw [if_pos hok, if_neg]
          intro h
          have h1 := List.all_eq_true.1 h _ (getD_mem (d := 0) hlt)
          rw [h1] at hc
          cases hc
        refine W_cs (.a 1 rfl <| .k [6] rfl) ?_
        refine W_ret ?_
        exact ⟨_, _, ResL.of rfl, Pur.pure, by rw [hch]; rfl⟩
      · have hall' : (ns.take (i + 1)).all (nodeB T) = true := by
          rw [take_step ns i 0 hlt, List.all_append, hall]
          have : nodeB T (ns.getD i 0) = true := by revert hc; cases nodeB T (ns.getD i 0) <;> simp
          simp only [List.all_cons, this, List.all_nil, Bool.and_self]
        refine W_skip ?_
        refine W_chain (.v (y_ar rfl) rfl <| .a 1 rfl <| .k [3, 18, 19, 20] rfl) ?_
        exact ⟨ns.length - (i + 1), by omega, i + 1, by omega, hall', rfl, rfl⟩
    · have hie : i = ns.length := by have := of_decide_eq_false hc; omega
      refine W_exit ?_
      refine W_cs (.a 1 rfl <| .k [6] rfl) ?_
      refine W_ret ?_
      refine ⟨_, _, ResL.of rfl, Pur.pure, ?_⟩
      unfold chkE
      rw [if_pos hok, if_pos (by rw [hie, List.take_length] at hall; exact hall)]
      rfl

set_option maxRecDepth 10000 in
set_option maxHeartbeats 1000000 in
theorem dist1_can (rs : List (List Int)) (i : Nat) (hi : i < rs.length) : Can Tryz.prog 168 ([num i] ++ [.pin [rowsV rs] 0]) (· = intsV (rs.getD i [])) := by
  refine can_of Tryz.func168 rfl Tryz.ntmps168 rfl ?_
  refine W_cs (.a 1 rfl <| .k [0, 1] rfl) ?_
  refine W_cs (.a 2 rfl <| .v (y_ix (i) rfl) rfl <| .v (y_ld rfl ((show (rs.map intsV)[i]? = some (intsV (rs.getD i [])) by simp [hi]))) rfl <| .a 1 rfl <| .k [3] rfl) ?_
  refine W_ret ?_
  exact ⟨_, _, ResL.of rfl, Pur.pure, rfl⟩
set_option maxRecDepth 10000 in
set_option maxHeartbeats 1000000 in
theorem dist2_can (T : Topo) (a : Nat) (ha : a < 2 * T.links.length) : Can Tryz.prog 169 ([num a] ++ [.pin (topoP T) 0]) (· = num (tailN T a)) := by
  refine can_of Tryz.func169 rfl Tryz.ntmps169 rfl ?_
  refine W_cs (.a 1 rfl <| .k [0, 1] rfl) ?_
  refine W_cs (.a 2 rfl <| .c rfl (tail_can T a ha) rfl <| .a 1 rfl <| .k [3] rfl) ?_
  refine W_ret ?_
  exact ⟨_, _, ResL.of rfl, Pur.pure, rfl⟩

/-- Numbers, or an error. -/
def intsE (e : Int) (l : List Int) : PV := .tuple [intsV (if e = 0 then l else []), num e]
instance (e : Int) (l : List Int) : IsPure (intsE e l) := by unfold intsE; infer_instance
set_option maxRecDepth 10000 in
set_option maxHeartbeats 1000000 in
theorem dist_can (T : Topo) (D : List Bool) (d : Int) : Can Tryz.prog 163 [topoV T, boolsV D, num d] (· = intsE (chkE T D [d]) (distL T D d.toNat false)) := by
  refine can_of Tryz.func163 rfl Tryz.ntmps163 rfl ?_
  refine W_cs (.a 3 rfl <| .k [1, 2, 3] rfl) ?_
  refine W_seq ?_
  refine W_cs (.a 4 rfl <| .c rfl (check_can T D [d] (by simp)) rfl <| .a 1 rfl <| .k [1, 2, 3, 8] rfl) ?_
  refine W_cs (.a 2 rfl <| .k [1, 2, 3, 8, 17] rfl) ?_
  refine W_cond rfl (fun hc => ?_) (fun hc => ?_)
  · have he : chkE T D [d] ≠ 0 := of_decide_eq_true hc
    refine W_cs (.a 3 rfl <| .k [6, 7] rfl) ?_
    refine W_ret ?_
    exact ⟨_, _, ResL.of rfl, Pur.tupleL (PurL.cons Pur.nils (PurL.cons Pur.pure PurL.nil)), by unfold intsE; rw [if_neg he]; rfl⟩
  · have he : chkE T D [d] = 0 := by have := of_decide_eq_false hc; omega
    have hok : (validB T && fitsB T D) = true ∧ nodeB T d = true := by
      unfold chkE at he
      split at he
      · rename_i h1
        split at he
        · rename_i h2; exact ⟨h1, by simpa using h2⟩
        · omega
      · omega
    obtain ⟨hvf, hnd⟩ := hok
    obtain ⟨hv, hf⟩ := Bool.and_eq_true_iff.1 hvf
    have hd : 0 ≤ d ∧ d < T.nodes := by simpa [nodeB] using hnd
    obtain ⟨n, rfl⟩ := Int.eq_ofNat_of_zero_le hd.1
    have hS := sound_of hv
    refine W_skip ?_
    refine W_rs ?_
    refine WR_a 1 rfl <| WR_c rfl (entering_can T hv) rfl <| WR_a 2 rfl <| WR_k [1, 2, 3, 9] rfl ?_
    refine W_rs ?_
    refine WR_a 3 rfl <| WR_v (y_makeFunc rfl rfl) rfl <| WR_a 4 rfl <| WR_k [10] rfl ?_
    refine W_freeze (.cons 10 rfl (Pur.ptrL rfl (PurL.cons Pur.pure <| PurL.cons Pur.pure <| PurL.cons Pur.pure <| PurL.cons Pur.pure <| PurL.cons Pur.pure <| PurL.cons (Pur.funcL (PurL.cons (Pur.ptrL rfl (PurL.cons Pur.pure PurL.nil)) PurL.nil)) <| PurL.cons Pur.pure PurL.nil)) .nil) ?_
    refine W_cs (.a 1 rfl <| .c rfl (run_can T D n false 168 169 [.pin [rowsV (rowsL (headN T) T.nodes.toNat (2 * T.links.length))] 0] [.pin (topoP T) 0] hv hf hd.2 (by kernel_rfl) (by kernel_rfl) (fun i hi => by have h := dist1_can (rowsL (headN T) T.nodes.toNat (2 * T.links.length)) i (by rw [rowsL_len]; omega); rw [rowsL_get _ _ _ _ (by omega)] at h; exact h) (fun a ha => dist2_can T a ha)) rfl <| .a 2 rfl <| .k [6, 7] rfl) ?_
    refine W_ret ?_
    exact ⟨_, _, ResL.of rfl, Pur.pure, by unfold intsE; rw [if_pos he, he]; rfl⟩
end PW
end Go.Proofs.YtbpgndbjbaoolaaGreat

/- Package graph: Out; package dag: dists, Next. -/
namespace Go.Proofs.YtbpgndbjbaoolaaGreat
set_option linter.unusedVariables false
set_option linter.unusedSimpArgs false
namespace PW
open Go.RowKit Reg Mem Net Heap

set_option maxRecDepth 10000 in
set_option maxHeartbeats 1000000 in
theorem out_can (T : Topo) (hl : T.links.length ≤ 256) (n : Int) : Can Tryz.prog 78 [topoV T, num n] (· = intsV (outL T n)) := by
  refine can_of Tryz.func78 rfl Tryz.ntmps78 rfl ?_
  refine W_cs (.a 2 rfl <| .k [1, 2] rfl) ?_
  refine W_cs (.a 1 rfl <| .k [1, 2, 5] rfl) ?_
  refine W_adopt 5 3 1 rfl ?_
  refine W_seq ?_
  refine W_cs (.a 1 rfl <| .c rfl (arcs_can T (by omega)) rfl <| .a 1 rfl <| .k [1, 2, 5, 8, 9] rfl) ?_
  refine W_block ?_
  refine W_k [1, 2, 5, 8, 9] rfl ?_
  refine W_loop (fun r s => ∃ k, k ≤ 2 * T.links.length ∧ r = 2 * T.links.length - k ∧ s = ⟨[(1, num n), (2, .pin (topoP T) 0), (5, .own 0), (8, num (2 * (T.links.length : Int))), (9, num k)], [some (.row 3 1 (outTo T n k).length (intsP (outTo T n k)))]⟩) (2 * T.links.length) ⟨0, by omega, by omega, rfl⟩ ?_
  rintro r s ⟨k, hk, rfl, rfl⟩
  refine W_cs (.a 1 rfl <| .k [1, 2, 5, 8, 9, 10] rfl) ?_
  refine W_seq ?_
  refine W_cond rfl (fun hc => ?_) (fun hc => ?_)
  · have hlt : k < 2 * T.links.length := by have := of_decide_eq_true hc; omega
    have hlen := outTo_len T n k
    refine W_skip ?_
    refine W_seq ?_
    refine W_block ?_
    refine W_cs (.a 2 rfl <| .k [1, 2, 5, 6, 8, 9] rfl) ?_
    refine W_cs (.a 2 rfl <| .c rfl (tail_can T k hlt) rfl <| .a 2 rfl <| .k [1, 2, 5, 6, 8, 9, 16] rfl) ?_
    refine W_cond rfl (fun hc => ?_) (fun hc => ?_)
    · have hst := outTo_yes T n k (by simpa using of_decide_eq_true hc)
      refine W_region ?_
      refine WR_a 3 rfl <| WR_l (l_append rfl (fok.rk.get rfl) rfl rfl rfl rfl (by unfold maxLen; omega)) rfl <| WR_a 1 rfl ?_
      refine WR_ren [1] (.c 1 <| .c 2 <| .c 5 <| .c 8 <| .c 9 <| .nil) (.kept rfl (.rowP rfl (intsP_snoc _ _)) <| .nil) rfl rfl (WR_nil ?_)
      refine W_chain (.v (y_ar rfl) rfl <| .a 1 rfl <| .k [1, 2, 5, 8, 9] rfl) ?_
      refine ⟨2 * T.links.length - (k + 1), by omega, k + 1, by omega, rfl, ?_⟩
      rw [hst]
      first
        | rfl
        | (simp only [List.length_append, List.length_singleton]; rfl)
    · have hst := outTo_no T n k (by simpa using of_decide_eq_false hc)
      refine W_skip ?_
      refine W_chain (.v (y_ar rfl) rfl <| .a 1 rfl <| .k [1, 2, 5, 8, 9] rfl) ?_
      refine ⟨2 * T.links.length - (k + 1), by omega, k + 1, by omega, rfl, ?_⟩
      rw [hst]
      first
        | rfl
        | (simp only [List.length_append, List.length_singleton]; rfl)
  · have hke : k = 2 * T.links.length := by have := of_decide_eq_false hc; omega
    subst hke
    refine W_exit ?_
    refine W_cs (.a 2 rfl <| .k [4] rfl) ?_
    refine W_ret ?_
    exact ⟨_, _, ResL.of rfl, Pur.ownL rfl PurL.pure, rfl⟩

def nodeE (T : Topo) (D : List Bool) (n d : Int) : Int := if chkE T D [d] = 0 then (if nodeB T n then 0 else 2) else chkE T D [d]
set_option maxRecDepth 10000 in
set_option maxHeartbeats 1000000 in
theorem dists_can (T : Topo) (D : List Bool) (n d : Int) : Can Tryz.prog 142 [topoV T, boolsV D, num n, num d] (· = intsE (nodeE T D n d) (distL T D d.toNat false)) := by
  refine can_of Tryz.func142 rfl Tryz.ntmps142 rfl ?_
  refine W_cs (.a 3 rfl <| .k [1, 2, 3, 4] rfl) ?_
  refine W_cs (.a 3 rfl <| .c rfl (dist_can T D d) rfl <| .a 5 rfl <| .k [2, 4, 10, 11] rfl) ?_
  refine W_seq ?_
  refine W_cs (.a 2 rfl <| .k [2, 4, 10, 11, 20] rfl) ?_
  refine W_cond rfl (fun hc => ?_) (fun hc => ?_)
  · have he : chkE T D [d] ≠ 0 := of_decide_eq_true hc
    refine W_cs (.a 3 rfl <| .k [8, 9] rfl) ?_
    refine W_ret ?_
    exact ⟨_, _, ResL.of rfl, Pur.tupleL (PurL.cons Pur.nils (PurL.cons Pur.pure PurL.nil)), by unfold intsE nodeE; rw [if_neg he, if_neg he]; rfl⟩
  · have he : chkE T D [d] = 0 := by have := of_decide_eq_false hc; omega
    refine W_skip ?_
    refine W_seq ?_
    refine W_cs (.a 2 rfl <| .c rfl (node_can T n) rfl <| .a 1 rfl <| .k [10, 25] rfl) ?_
    refine W_cond rfl (fun hc => ?_) (fun hc => ?_)
    · have hn : nodeB T n = false := by revert hc; cases nodeB T n <;> simp
      refine W_cs (.a 2 rfl <| .k [8, 9] rfl) ?_
      refine W_ret ?_
      exact ⟨_, _, ResL.of rfl, Pur.tupleL (PurL.cons Pur.nils (PurL.cons Pur.pure PurL.nil)), by unfold intsE nodeE; rw [if_pos he, hn]; rfl⟩
    · have hn : nodeB T n = true := by revert hc; cases nodeB T n <;> simp
      refine W_skip ?_
      refine W_cs (.a 3 rfl <| .k [8, 9] rfl) ?_
      refine W_ret ?_
      exact ⟨_, _, ResL.of rfl, Pur.pure, by unfold intsE nodeE; simp only [he, hn, if_true]; rfl⟩

theorem chkE_zero {T : Topo} {D : List Bool} {ns : List Int} (he : chkE T D ns = 0) : validB T = true ∧ fitsB T D = true ∧ ∀ n ∈ ns, nodeB T n = true := by
  unfold chkE at he
  split at he
  · rename_i h1
    split at he
    · rename_i h2
      obtain ⟨a, b⟩ := Bool.and_eq_true_iff.1 h1
      exact ⟨a, b, List.all_eq_true.1 h2⟩
    · omega
  · omega
theorem nodeE_zero {T : Topo} {D : List Bool} {n d : Int} (he : nodeE T D n d = 0) : validB T = true ∧ fitsB T D = true ∧ nodeB T n = true ∧ nodeB T d = true := by
  unfold nodeE at he
  split at he
  · rename_i h1
    obtain ⟨a, b, c⟩ := chkE_zero h1
    split at he
    · rename_i h2; exact ⟨a, b, h2, c d (by simp)⟩
    · omega
  · omega
theorem distL_bound {T : Topo} {D : List Bool} (hv : validB T = true) {d : Nat} {dir : Bool} (hd : (d : Int) < T.nodes) : ((distL T D d dir).length : Int) = T.nodes ∧ ∀ x ∈ distL T D d dir, -1 ≤ x ∧ x ≤ 4194240 := by
  have hS := sound_of hv
  have hI := distL_inv hS D dir hd
  refine ⟨hI.len, fun x hx => ?_⟩
  obtain ⟨i, hi, rfl⟩ := List.getElem_of_mem hx
  have hin : (i : Int) < T.nodes := by have := hI.len; omega
  have h1 := hI.ge i hin
  have h2 := hI.bnd i hin
  have h3 := cnt_le (distL T D d dir)
  have h4 := hS.nodes
  have h5 := hI.len
  rw [at_eq _ i hi] at h1 h2
  omega
/-- The next arcs of a node. -/
noncomputable def nextL (T : Topo) (D : List Bool) (n d : Nat) : List Int :=
  if n = d ∨ (distL T D d false).getD n 0 < 0 then [] else passL T D (distL T D d false) ((distL T D d false).getD n 0) d (outL T n)
theorem outL_mem {T : Topo} {n : Int} {a : Int} (h : a ∈ outL T n) : 0 ≤ a ∧ a < 2 * (T.links.length : Int) := by
  unfold outL outTo at h
  obtain ⟨b, hb, rfl⟩ := List.mem_map.1 h
  have := (List.mem_filter.1 hb).1
  have := List.mem_range.1 this
  simp; omega

set_option maxRecDepth 10000 in
set_option maxHeartbeats 1000000 in
theorem next_can (T : Topo) (D : List Bool) (n d : Int) : Can Tryz.prog 102 [topoV T, boolsV D, num n, num d] (· = intsE (nodeE T D n d) (nextL T D n.toNat d.toNat)) := by
  refine can_of Tryz.func102 rfl Tryz.ntmps102 rfl ?_
  refine W_cs (.a 3 rfl <| .k [1, 2, 3, 4] rfl) ?_
  refine W_cs (.a 4 rfl <| .c rfl (dists_can T D n d) rfl <| .a 5 rfl <| .k [1, 2, 3, 4, 10, 11] rfl) ?_
  refine W_seq ?_
  refine W_cs (.a 2 rfl <| .k [1, 2, 3, 4, 10, 11, 21] rfl) ?_
  refine W_cond rfl (fun hc => ?_) (fun hc => ?_)
  · have he : nodeE T D n d ≠ 0 := of_decide_eq_true hc
    refine W_cs (.a 3 rfl <| .k [8, 9] rfl) ?_
    refine W_ret ?_
    exact ⟨_, _, ResL.of rfl, Pur.tupleL (PurL.cons Pur.nils (PurL.cons Pur.pure PurL.nil)), by unfold intsE; rw [if_neg he]; rfl⟩
  · have he : nodeE T D n d = 0 := by have := of_decide_eq_false hc; omega
    rw [he]
    obtain ⟨hv, hf, hn, hd⟩ := nodeE_zero he
    rw [nodeB_iff] at hn hd
    obtain ⟨n, rfl⟩ := Int.eq_ofNat_of_zero_le hn.1
    obtain ⟨d, rfl⟩ := Int.eq_ofNat_of_zero_le hd.1
    have hll := links_le hv
    obtain ⟨hb1, hb2⟩ := distL_bound (D := D) hv (dir := false) hd.2
    refine W_skip ?_
    refine W_drs mixed (by kernel_rfl) (.a 5 rfl <| .v [26, 27] (y_c rfl (out_can T hll _)) rfl rfl <| .a 2 rfl <| .v [23, 24, 25, 28, 29, 30] (y_c rfl (dnext_can T D (distL T D d false) (outL T n) n d hv hf hb1 hb2 hn.2 hd.2 (fun a ha => outL_mem ha) (Nat.le_trans (outTo_len T n _) (by omega)))) rfl rfl <| .a 2 rfl <| .k [8, 9] rfl) ?_
    refine W_ret ?_
    exact ⟨_, _, ResL.of rfl, Pur.pure, rfl⟩
end PW
end Go.Proofs.YtbpgndbjbaoolaaGreat

/- Tables as plain data. -/
namespace Go.Proofs.YtbpgndbjbaoolaaGreat
set_option linter.unusedVariables false
set_option linter.unusedSimpArgs false
namespace PW
open Go.RowKit Reg Mem Net

structure Seg where
  kind : Int
  num : Int
deriving DecidableEq
structure Ent where
  arcs : List Int
  rep : Bool
  push : List Seg
structure Tab where
  node : Int
  ents : List Ent
  down : List Int
def segP (s : Seg) : List PV := [num s.kind, num s.num]
def segV (s : Seg) : PV := .agg (segP s)
def segsP (l : List Seg) : List PV := l.flatMap segP
def segsV (l : List Seg) : PV := .slice l.length (segsP l)
def entP (e : Ent) : List PV := [intsV e.arcs, flag e.rep, segsV e.push]
def entV (e : Ent) : PV := .agg (entP e)
def entsP (l : List Ent) : List PV := l.flatMap entP
def entsV (l : List Ent) : PV := .slice l.length (entsP l)
def tabP (t : Tab) : List PV := [num t.node, entsV t.ents, intsV t.down]
def tabV (t : Tab) : PV := .agg (tabP t)
def tabsP (l : List Tab) : List PV := l.flatMap tabP
def tabsV (l : List Tab) : PV := .slice l.length (tabsP l)
instance (s : Seg) : IsPureL (segP s) := by unfold segP; infer_instance
instance (s : Seg) : IsOneL (segP s) := by unfold segP; infer_instance
instance (s : Seg) : IsPure (segV s) := by unfold segV; infer_instance
instance (l : List Seg) : IsPureL (segsP l) := IsPureL.flatMap _ _ fun _ => inferInstance
instance (l : List Seg) : IsOneL (segsP l) := IsOneL.flatMap _ _ fun _ => inferInstance
instance (l : List Seg) : IsPure (segsV l) := by unfold segsV; infer_instance
instance (l : List Seg) : IsOne (segsV l) := by unfold segsV; infer_instance
instance (e : Ent) : IsPureL (entP e) := by unfold entP; infer_instance
instance (e : Ent) : IsOneL (entP e) := by unfold entP; infer_instance
instance (e : Ent) : IsPure (entV e) := by unfold entV; infer_instance
instance (l : List Ent) : IsPureL (entsP l) := IsPureL.flatMap _ _ fun _ => inferInstance
instance (l : List Ent) : IsOneL (entsP l) := IsOneL.flatMap _ _ fun _ => inferInstance
instance (l : List Ent) : IsPure (entsV l) := by unfold entsV; infer_instance
instance (l : List Ent) : IsOne (entsV l) := by unfold entsV; infer_instance
instance (t : Tab) : IsPureL (tabP t) := by unfold tabP; infer_instance
instance (t : Tab) : IsOneL (tabP t) := by unfold tabP; infer_instance
instance (t : Tab) : IsPure (tabV t) := by unfold tabV; infer_instance
instance (l : List Tab) : IsPureL (tabsP l) := IsPureL.flatMap _ _ fun _ => inferInstance
instance (l : List Tab) : IsOneL (tabsP l) := IsOneL.flatMap _ _ fun _ => inferInstance
instance (l : List Tab) : IsPure (tabsV l) := by unfold tabsV; infer_instance
instance (l : List Tab) : IsOne (tabsV l) := by unfold tabsV; infer_instance
theorem entsP_snoc (l : List Ent) (e : Ent) : entsP l ++ entP e = entsP (l ++ [e]) := by simp [entsP]
theorem flat_drop {α : Type} (f : α → List PV) (s : Nat) (hf : ∀ a, (f a).length = s) : ∀ (l : List α) (i : Nat) (a : α), l[i]? = some a → ((l.flatMap f).drop (i * s)).take s = f a
  | [], i, a, h => by simp at h
  | b :: l, 0, a, h => by
    simp at h; subst h
    rw [List.flatMap_cons, Nat.zero_mul, List.drop_zero]
    exact List.take_left' (hf b)
  | b :: l, i + 1, a, h => by
    have := flat_drop f s hf l i a (by simpa using h)
    have e1 : (i + 1) * s = s + i * s := by rw [Nat.succ_mul]; omega
    rw [List.flatMap_cons, e1, ← List.drop_drop, List.drop_left' (hf b), this]
theorem segs_drop (l : List Seg) (i : Nat) (e : Seg) (h : l[i]? = some e) : ((segsP l).drop (i * 2)).take 2 = segP e := flat_drop segP 2 (fun _ => rfl) l i e h
/-- Less may be known of what an operation leaves. -/
theorem y_le {P : Program} {σ : Sto} {t : Tms} {o : Oper} {p q : PV} (h : Yield P σ t o p) (hl : PLe p q) : Yield P σ t o q := fun F base E ρ w hρ hS hT => by
  have := h F base E ρ w hρ hS hT
  generalize (execOp ρ o).run P w = x at *
  cases x with
  | ok n w' =>
    cases n with
    | value v => exact ⟨this.1, hl _ _ _ this.2⟩
    | skip => exact ⟨this.1, hl _ _ _ this.2⟩
    | enter f args => exact ⟨this.1, Calls.mono this.2 (fun e w'' ⟨x, h1, h2, h3⟩ => ⟨x, h1, h2, hl _ _ _ h3⟩)⟩
    | _ => exact this
  | halt x w' => exact this
def PLeL (xs ys : List PV) : Prop := xs.length = ys.length ∧ ∀ (i : Nat) x y, xs[i]? = some x → ys[i]? = some y → PLe x y
theorem PLeL.nil : PLeL [] [] := ⟨rfl, fun i x y h => by simp at h⟩
theorem PLeL.cons {x y : PV} {xs ys : List PV} (h : PLe x y) (hs : PLeL xs ys) : PLeL (x :: xs) (y :: ys) := ⟨by simp [hs.1], fun j a b h1 h2 => by
  cases j with
  | zero => simp at h1 h2; subst h1; subst h2; exact h
  | succ j => exact hs.2 j a b (by simpa using h1) (by simpa using h2)⟩
theorem PLe.aggL {xs ys : List PV} (h : PLeL xs ys) : PLe (.agg xs) (.agg ys) := fun E w v hv => by
  cases hv with
  | agg cs _ hl hr => exact .agg cs ys (hl.trans h.1) (fun i c u h1 h2 => by
      have hi : i < xs.length := by rw [h.1]; exact (List.getElem?_eq_some_iff.1 h2).1
      exact h.2 i xs[i] u (by simp [hi]) h2 E w c (hr i c _ h1 (by simp [hi])))
/-- The routes of a node. -/
noncomputable def toL (T : Topo) (D : List Bool) (n k : Nat) : List Ent := (List.range k).map fun d => ⟨nextL T D n d, false, []⟩
def downL (D : List Bool) (l : List Int) : List Int := l.filter fun a => downN D a.toNat
noncomputable def routesT (T : Topo) (D : List Bool) (n : Nat) : Tab := ⟨n, toL T D n T.nodes.toNat, downL D (outL T n)⟩
end PW
end Go.Proofs.YtbpgndbjbaoolaaGreat

/- The arguments of the laws: segments, entries, tables. -/
namespace Go.Proofs.YtbpgndbjbaoolaaGreat
set_option linter.unusedVariables false
set_option linter.unusedSimpArgs false
namespace PW
open Go.RowKit Reg Mem Net
section
variable {H : Type} {enc : TypeId × Value → H} {W : World}
end
end PW
end Go.Proofs.YtbpgndbjbaoolaaGreat

/- The argument of the laws of layer 20: a case. -/
namespace Go.Proofs.YtbpgndbjbaoolaaGreat
set_option linter.unusedVariables false
set_option linter.unusedSimpArgs false
namespace PW
open Go.RowKit Reg Mem Net Go.WideShapes
/-- A case: a topology with a mask, a path from a node, a list of segments. -/
structure Cas where
  T : Topo
  D : List Bool
  n : Int
  p : List Int
  l : List Seg
def casP (c : Cas) : List PV := topoP c.T ++ [boolsV c.D, num c.n, intsV c.p, segsV c.l]
def casV (c : Cas) : PV := .agg (casP c)
instance (c : Cas) : IsPureL (casP c) := by unfold casP; unfold topoP; simp only [List.cons_append, List.nil_append]; infer_instance
instance (c : Cas) : IsPure (casV c) := by unfold casV; infer_instance
section
variable {H : Type} {enc : TypeId × Value → H} {W : World}
end
end PW
end Go.Proofs.YtbpgndbjbaoolaaGreat

/- The iterator of package component: links. -/
namespace Go.Proofs.YtbpgndbjbaoolaaGreat
set_option linter.unusedVariables false
set_option linter.unusedSimpArgs false
namespace Rng
open Go.RowKit Go.Shelf Net

attribute [local go_sem] Oper.semAt_some

/-- What a round keeps: all blocks below n but one. -/
structure Kp (G n : Nat) (W W' : World) : Prop where
  size : W.heap.size ≤ W'.heap.size
  block : ∀ b, b < n → b ≠ G → W'.heap[b]? = W.heap[b]?
theorem Kp.refl (G n : Nat) (W : World) : Kp G n W W := ⟨Nat.le_refl _, fun _ _ _ => rfl⟩
theorem Kp.trans {G n : Nat} {A B C : World} (h : Kp G n A B) (k : Kp G n B C) : Kp G n A C := ⟨Nat.le_trans h.size k.size, fun b h1 h2 => (k.block b h1 h2).trans (h.block b h1 h2)⟩
theorem Kp.cell {G n : Nat} {W W' : World} (h : Kp G n W W') {p : Addr} (hb : p.block < n) (hG : p.block ≠ G) : W'.cell? p = W.cell? p := World.cell?_of_block (h.block _ hb hG)
theorem cell_al {W : World} {a : Addr} {v : Value} (o : Obj) (h : W.cell? a = some v) : (W.alloc o).cell? a = some v := cell_kept h (World.grownBy_alloc W o none) (fun r e => by cases e)
theorem Kp.alloc {G n : Nat} {W : World} (h : n ≤ W.heap.size) (o : Obj) : Kp G n W (W.alloc o) := ⟨by simp, fun b h1 _ => Below.heap_alloc _ _ _ (by omega)⟩
/-- Whether a link is one of a component. -/
def partB (k x : Int) (L : List Lnk) (i : Nat) : Bool := if k = 1 then decide ((i : Int) = x) else if k = 2 then decide ((lnk L i).a = x) || decide ((lnk L i).b = x) else decide ((lnk L i).grp = x)
abbrev Ix (N : Nat) := { i : Nat // i < N }
/-- What has come when k links are over. -/
def got (p : Nat → Bool) (N : Nat) : Nat → List (Ix N)
  | 0 => []
  | k + 1 => if h : p k = true ∧ k < N then got p N k ++ [⟨k, h.2⟩] else got p N k
theorem got_len (p : Nat → Bool) (N : Nat) : ∀ k, (got p N k).length ≤ k
  | 0 => Nat.le_refl _
  | k + 1 => by
    simp only [got]
    have := got_len p N k
    split
    · simp; omega
    · omega
theorem got_yes {p : Nat → Bool} {N k : Nat} (h : p k = true) (hk : k < N) : got p N (k + 1) = got p N k ++ [⟨k, hk⟩] := by simp only [got]; rw [dif_pos ⟨h, hk⟩]
theorem got_no {p : Nat → Bool} {N k : Nat} (h : p k = false) : got p N (k + 1) = got p N k := by simp only [got]; rw [dif_neg (by rw [h]; simp)]
set_option maxRecDepth 100000 in
set_option maxHeartbeats 4000000 in
theorem links1_in (F : Fence) (n : Nat) (hf : F.fn 159) (hro : F.round = none) (hn : 1 ≤ n) (l Bt Bc G n₁ b off cap : Nat) (L : List Lnk) (x : Int) (hreach : L.length ≤ 1000) (hb : b < n₁) (hbG : b ≠ G) (hc1 : Bc < n₁) (hcG : Bc ≠ G) (J Jx : List (Ix L.length) → World → Prop)
    (hY : ∀ pre (i : Ix L.length) W, J pre W → pre.length < L.length → YieldAt F (n - 1) Tryz.prog l #[.int .i64 (i.1 : Int)] W fun e W' =>
      (e = .returned (.bool true) ∧ J (pre ++ [i]) W' ∧ Kp G n₁ W W') ∨ (e = .returned (.bool false) ∧ Jx (pre ++ [i]) W'))
    (W : World) (hBt : W.cell? ⟨Bt, 2, none⟩ = some (.slice (some ⟨b, off, none⟩) L.length cap)) (hBk : W.cell? ⟨Bc, 0, none⟩ = some (.int .i64 1)) (hBx : W.cell? ⟨Bc, 1, none⟩ = some (.int .i64 x))
    (hcs : ∀ i, i < L.length → W.cell? ⟨b, off + i * 7, none⟩ = some (.int .i64 (lnk L i).a) ∧ W.cell? ⟨b, off + i * 7 + 1, none⟩ = some (.int .i64 (lnk L i).b) ∧ W.cell? ⟨b, off + i * 7 + 2, none⟩ = some (.int .i64 (lnk L i).c0) ∧ W.cell? ⟨b, off + i * 7 + 3, none⟩ = some (.int .i64 (lnk L i).c1) ∧ W.cell? ⟨b, off + i * 7 + 4, none⟩ = some (.int .i64 (lnk L i).cap) ∧ W.cell? ⟨b, off + i * 7 + 5, none⟩ = some (.int .i64 (lnk L i).delay) ∧ W.cell? ⟨b, off + i * 7 + 6, none⟩ = some (.int .i64 (lnk L i).grp))
    (hsz : n₁ ≤ W.heap.size) (hA : AbidesFrom W.heap.size J) (h0 : J [] W) :
    CallsIn F n Tryz.prog 159 #[.func (.yield l) #[] #[], .pointer (some ⟨Bt, 0, none⟩), .pointer (some ⟨Bc, 0, none⟩)] W fun e W' => (∃ v, e = .returned v) ∧
      ((∃ ys, ys = got (partB 1 x L) L.length L.length ∧ J ys W') ∨ (∃ pre, Jx pre W')) := by
  refine callsIn_of_wp Tryz.func159 rfl hf ?_ hro
  simp only [Tryz.ntmps159, List.size_toArray, List.length_cons, List.length_nil, Nat.reduceAdd, Nat.reduceSub, Array.replicate_succ, Array.replicate_zero, List.push_toArray, List.append_toArray, List.nil_append, List.cons_append]
  gi_wp2
  gi_loopw [10] (fun i wr => ∃ k : Nat, k ≤ L.length ∧ i = .int .i64 k ∧ J (got (partB 1 x L) L.length k) wr ∧ Kp G n₁ W wr)
    (fun i _ => L.length - (intOf i).toNat)
  case atStart => exact ⟨0, Nat.zero_le _, rfl, h0, Kp.refl _ _ _⟩
  case round =>
    obtain ⟨k, hk, rfl, hJs, hnx⟩ := hrel
    by_cases hlt : k < L.length
    · obtain ⟨a0, a1, a2, a3, a4, a5, a6⟩ := hcs k hlt
      have b0 := (hnx.cell (p := ⟨b, off + k * 7, none⟩) hb hbG).trans a0
      have b1 := (hnx.cell (p := ⟨b, off + k * 7 + 1, none⟩) hb hbG).trans a1
      have b2 := (hnx.cell (p := ⟨b, off + k * 7 + 2, none⟩) hb hbG).trans a2
      have b3 := (hnx.cell (p := ⟨b, off + k * 7 + 3, none⟩) hb hbG).trans a3
      have b4 := (hnx.cell (p := ⟨b, off + k * 7 + 4, none⟩) hb hbG).trans a4
      have b5 := (hnx.cell (p := ⟨b, off + k * 7 + 5, none⟩) hb hbG).trans a5
      have b6 := (hnx.cell (p := ⟨b, off + k * 7 + 6, none⟩) hb hbG).trans a6
      have c0 := (hnx.cell (p := ⟨Bc, 0, none⟩) hc1 hcG).trans hBk
      have c1 := (hnx.cell (p := ⟨Bc, 1, none⟩) hc1 hcG).trans hBx
      clear a0 a1 a2 a3 a4 a5 a6
      obtain ⟨fa, hfa⟩ : ∃ v, (lnk L k).a = v := ⟨_, rfl⟩
      obtain ⟨fb, hfb⟩ : ∃ v, (lnk L k).b = v := ⟨_, rfl⟩
      obtain ⟨fg, hfg⟩ : ∃ v, (lnk L k).grp = v := ⟨_, rfl⟩
      rw [hfa] at b0
      rw [hfb] at b1
      rw [hfg] at b6
      have d0 := cell_al (.cells #[.int .i64 fa, .int .i64 fb, .int .i64 (lnk L k).c0, .int .i64 (lnk L k).c1, .int .i64 (lnk L k).cap, .int .i64 (lnk L k).delay, .int .i64 fg] 72) c0
      have d1 := cell_al (.cells #[.int .i64 fa, .int .i64 fb, .int .i64 (lnk L k).c0, .int .i64 (lnk L k).c1, .int .i64 (lnk L k).cap, .int .i64 (lnk L k).delay, .int .i64 fg] 72) c1
      have hJ2 : J (got (partB 1 x L) L.length k) (wr.alloc (.cells #[.int .i64 fa, .int .i64 fb, .int .i64 (lnk L k).c0, .int .i64 (lnk L k).c1, .int .i64 (lnk L k).cap, .int .i64 (lnk L k).delay, .int .i64 fg] 72)) := hA _ _ _ none hJs (World.grownBy_alloc _ _ none) (fun r e => by cases e)
      have hK2 : Kp G n₁ W (wr.alloc (.cells #[.int .i64 fa, .int .i64 fb, .int .i64 (lnk L k).c0, .int .i64 (lnk L k).c1, .int .i64 (lnk L k).cap, .int .i64 (lnk L k).delay, .int .i64 fg] 72)) := hnx.trans (Kp.alloc (by have := hnx.size; omega) _)
      by_cases hp : (k : Int) = x
      · subst hp
        obtain ⟨fn, tmps, assign, body, hy, hR⟩ := hY _ ⟨k, hlt⟩ _ hJ2 (by have := got_len (partB 1 (k : Int) L) L.length k; omega)
        dsimp only at hy
        have hpk : partB 1 (k : Int) L k = true := by unfold partB; simp
        gi_wp2
        refine hR.mono ?_
        rintro e W3 (⟨rfl, hJ3, hk3⟩ | ⟨rfl, hJx3⟩)
        · gi_wp2
          go_roundw
          case rel => exact ⟨k + 1, by omega, by simp, by rw [got_yes hpk hlt]; exact hJ3, hK2.trans hk3⟩
          case measure => simp [intOf]; omega
        · gi_wp2
          refine bodyPost_ret (results_none rfl _ _ _) rfl ?_
          exact ⟨⟨_, rfl⟩, .inr ⟨_, hJx3⟩⟩
      · have hpk : partB 1 x L k = false := by unfold partB; simp [hfa, hfb, hfg, hp]
        gi_wp2
        refine ⟨fun _ h => (by cases h), ?_⟩
        gi_wp2
        go_roundw
        case rel => exact ⟨k + 1, by omega, by simp, by rw [got_no hpk]; exact hJ2, hK2⟩
        case measure => simp [intOf]; omega
    · obtain rfl : k = L.length := by omega
      gi_wp2
      go_end0
      exact ⟨⟨_, rfl⟩, .inl ⟨_, rfl, hJs⟩⟩
set_option maxRecDepth 100000 in
set_option maxHeartbeats 4000000 in
theorem links2_in (F : Fence) (n : Nat) (hf : F.fn 159) (hro : F.round = none) (hn : 1 ≤ n) (l Bt Bc G n₁ b off cap : Nat) (L : List Lnk) (x : Int) (hreach : L.length ≤ 1000) (hb : b < n₁) (hbG : b ≠ G) (hc1 : Bc < n₁) (hcG : Bc ≠ G) (J Jx : List (Ix L.length) → World → Prop)
    (hY : ∀ pre (i : Ix L.length) W, J pre W → pre.length < L.length → YieldAt F (n - 1) Tryz.prog l #[.int .i64 (i.1 : Int)] W fun e W' =>
      (e = .returned (.bool true) ∧ J (pre ++ [i]) W' ∧ Kp G n₁ W W') ∨ (e = .returned (.bool false) ∧ Jx (pre ++ [i]) W'))
    (W : World) (hBt : W.cell? ⟨Bt, 2, none⟩ = some (.slice (some ⟨b, off, none⟩) L.length cap)) (hBk : W.cell? ⟨Bc, 0, none⟩ = some (.int .i64 2)) (hBx : W.cell? ⟨Bc, 1, none⟩ = some (.int .i64 x))
    (hcs : ∀ i, i < L.length → W.cell? ⟨b, off + i * 7, none⟩ = some (.int .i64 (lnk L i).a) ∧ W.cell? ⟨b, off + i * 7 + 1, none⟩ = some (.int .i64 (lnk L i).b) ∧ W.cell? ⟨b, off + i * 7 + 2, none⟩ = some (.int .i64 (lnk L i).c0) ∧ W.cell? ⟨b, off + i * 7 + 3, none⟩ = some (.int .i64 (lnk L i).c1) ∧ W.cell? ⟨b, off + i * 7 + 4, none⟩ = some (.int .i64 (lnk L i).cap) ∧ W.cell? ⟨b, off + i * 7 + 5, none⟩ = some (.int .i64 (lnk L i).delay) ∧ W.cell? ⟨b, off + i * 7 + 6, none⟩ = some (.int .i64 (lnk L i).grp))
    (hsz : n₁ ≤ W.heap.size) (hA : AbidesFrom W.heap.size J) (h0 : J [] W) :
    CallsIn F n Tryz.prog 159 #[.func (.yield l) #[] #[], .pointer (some ⟨Bt, 0, none⟩), .pointer (some ⟨Bc, 0, none⟩)] W fun e W' => (∃ v, e = .returned v) ∧
      ((∃ ys, ys = got (partB 2 x L) L.length L.length ∧ J ys W') ∨ (∃ pre, Jx pre W')) := by
  refine callsIn_of_wp Tryz.func159 rfl hf ?_ hro
  simp only [Tryz.ntmps159, List.size_toArray, List.length_cons, List.length_nil, Nat.reduceAdd, Nat.reduceSub, Array.replicate_succ, Array.replicate_zero, List.push_toArray, List.append_toArray, List.nil_append, List.cons_append]
  gi_wp2
  gi_loopw [10] (fun i wr => ∃ k : Nat, k ≤ L.length ∧ i = .int .i64 k ∧ J (got (partB 2 x L) L.length k) wr ∧ Kp G n₁ W wr)
    (fun i _ => L.length - (intOf i).toNat)
  case atStart => exact ⟨0, Nat.zero_le _, rfl, h0, Kp.refl _ _ _⟩
  case round =>
    obtain ⟨k, hk, rfl, hJs, hnx⟩ := hrel
    by_cases hlt : k < L.length
    · obtain ⟨a0, a1, a2, a3, a4, a5, a6⟩ := hcs k hlt
      have b0 := (hnx.cell (p := ⟨b, off + k * 7, none⟩) hb hbG).trans a0
      have b1 := (hnx.cell (p := ⟨b, off + k * 7 + 1, none⟩) hb hbG).trans a1
      have b2 := (hnx.cell (p := ⟨b, off + k * 7 + 2, none⟩) hb hbG).trans a2
      have b3 := (hnx.cell (p := ⟨b, off + k * 7 + 3, none⟩) hb hbG).trans a3
      have b4 := (hnx.cell (p := ⟨b, off + k * 7 + 4, none⟩) hb hbG).trans a4
      have b5 := (hnx.cell (p := ⟨b, off + k * 7 + 5, none⟩) hb hbG).trans a5
      have b6 := (hnx.cell (p := ⟨b, off + k * 7 + 6, none⟩) hb hbG).trans a6
      have c0 := (hnx.cell (p := ⟨Bc, 0, none⟩) hc1 hcG).trans hBk
      have c1 := (hnx.cell (p := ⟨Bc, 1, none⟩) hc1 hcG).trans hBx
      clear a0 a1 a2 a3 a4 a5 a6
      obtain ⟨fa, hfa⟩ : ∃ v, (lnk L k).a = v := ⟨_, rfl⟩
      obtain ⟨fb, hfb⟩ : ∃ v, (lnk L k).b = v := ⟨_, rfl⟩
      obtain ⟨fg, hfg⟩ : ∃ v, (lnk L k).grp = v := ⟨_, rfl⟩
      rw [hfa] at b0
      rw [hfb] at b1
      rw [hfg] at b6
      have d0 := cell_al (.cells #[.int .i64 fa, .int .i64 fb, .int .i64 (lnk L k).c0, .int .i64 (lnk L k).c1, .int .i64 (lnk L k).cap, .int .i64 (lnk L k).delay, .int .i64 fg] 72) c0
      have d1 := cell_al (.cells #[.int .i64 fa, .int .i64 fb, .int .i64 (lnk L k).c0, .int .i64 (lnk L k).c1, .int .i64 (lnk L k).cap, .int .i64 (lnk L k).delay, .int .i64 fg] 72) c1
      have hJ2 : J (got (partB 2 x L) L.length k) (wr.alloc (.cells #[.int .i64 fa, .int .i64 fb, .int .i64 (lnk L k).c0, .int .i64 (lnk L k).c1, .int .i64 (lnk L k).cap, .int .i64 (lnk L k).delay, .int .i64 fg] 72)) := hA _ _ _ none hJs (World.grownBy_alloc _ _ none) (fun r e => by cases e)
      have hK2 : Kp G n₁ W (wr.alloc (.cells #[.int .i64 fa, .int .i64 fb, .int .i64 (lnk L k).c0, .int .i64 (lnk L k).c1, .int .i64 (lnk L k).cap, .int .i64 (lnk L k).delay, .int .i64 fg] 72)) := hnx.trans (Kp.alloc (by have := hnx.size; omega) _)
      by_cases hp : fa = x
      · subst hp
        obtain ⟨fn, tmps, assign, body, hy, hR⟩ := hY _ ⟨k, hlt⟩ _ hJ2 (by have := got_len (partB 2 fa L) L.length k; omega)
        dsimp only at hy
        have hpk : partB 2 fa L k = true := by unfold partB; simp [hfa, hfb, hfg]
        gi_wp2
        refine hR.mono ?_
        rintro e W3 (⟨rfl, hJ3, hk3⟩ | ⟨rfl, hJx3⟩)
        · gi_wp2
          go_roundw
          case rel => exact ⟨k + 1, by omega, by simp, by rw [got_yes hpk hlt]; exact hJ3, hK2.trans hk3⟩
          case measure => simp [intOf]; omega
        · gi_wp2
          refine bodyPost_ret (results_none rfl _ _ _) rfl ?_
          exact ⟨⟨_, rfl⟩, .inr ⟨_, hJx3⟩⟩
      · by_cases hq : fb = x
        · subst hq
          obtain ⟨fn, tmps, assign, body, hy, hR⟩ := hY _ ⟨k, hlt⟩ _ hJ2 (by have := got_len (partB 2 fb L) L.length k; omega)
          dsimp only at hy
          have hpk : partB 2 fb L k = true := by unfold partB; simp [hfa, hfb, hfg]
          gi_wp2
          refine hR.mono ?_
          rintro e W3 (⟨rfl, hJ3, hk3⟩ | ⟨rfl, hJx3⟩)
          · gi_wp2
            go_roundw
            case rel => exact ⟨k + 1, by omega, by simp, by rw [got_yes hpk hlt]; exact hJ3, hK2.trans hk3⟩
            case measure => simp [intOf]; omega
          · gi_wp2
            refine bodyPost_ret (results_none rfl _ _ _) rfl ?_
            exact ⟨⟨_, rfl⟩, .inr ⟨_, hJx3⟩⟩
        · have hpk : partB 2 x L k = false := by unfold partB; simp [hfa, hfb, hfg, hp, hq]
          gi_wp2
          refine ⟨fun _ h => (by cases h), ?_⟩
          gi_wp2
          go_roundw
          case rel => exact ⟨k + 1, by omega, by simp, by rw [got_no hpk]; exact hJ2, hK2⟩
          case measure => simp [intOf]; omega
    · obtain rfl : k = L.length := by omega
      gi_wp2
      go_end0
      exact ⟨⟨_, rfl⟩, .inl ⟨_, rfl, hJs⟩⟩
set_option maxRecDepth 100000 in
set_option maxHeartbeats 4000000 in
theorem links3_in (F : Fence) (n : Nat) (hf : F.fn 159) (hro : F.round = none) (hn : 1 ≤ n) (l Bt Bc G n₁ b off cap : Nat) (L : List Lnk) (x : Int) (hreach : L.length ≤ 1000) (hb : b < n₁) (hbG : b ≠ G) (hc1 : Bc < n₁) (hcG : Bc ≠ G) (J Jx : List (Ix L.length) → World → Prop)
    (hY : ∀ pre (i : Ix L.length) W, J pre W → pre.length < L.length → YieldAt F (n - 1) Tryz.prog l #[.int .i64 (i.1 : Int)] W fun e W' =>
      (e = .returned (.bool true) ∧ J (pre ++ [i]) W' ∧ Kp G n₁ W W') ∨ (e = .returned (.bool false) ∧ Jx (pre ++ [i]) W'))
    (W : World) (hBt : W.cell? ⟨Bt, 2, none⟩ = some (.slice (some ⟨b, off, none⟩) L.length cap)) (hBk : W.cell? ⟨Bc, 0, none⟩ = some (.int .i64 3)) (hBx : W.cell? ⟨Bc, 1, none⟩ = some (.int .i64 x))
    (hcs : ∀ i, i < L.length → W.cell? ⟨b, off + i * 7, none⟩ = some (.int .i64 (lnk L i).a) ∧ W.cell? ⟨b, off + i * 7 + 1, none⟩ = some (.int .i64 (lnk L i).b) ∧ W.cell? ⟨b, off + i * 7 + 2, none⟩ = some (.int .i64 (lnk L i).c0) ∧ W.cell? ⟨b, off + i * 7 + 3, none⟩ = some (.int .i64 (lnk L i).c1) ∧ W.cell? ⟨b, off + i * 7 + 4, none⟩ = some (.int .i64 (lnk L i).cap) ∧ W.cell? ⟨b, off + i * 7 + 5, none⟩ = some (.int .i64 (lnk L i).delay) ∧ W.cell? ⟨b, off + i * 7 + 6, none⟩ = some (.int .i64 (lnk L i).grp))
    (hsz : n₁ ≤ W.heap.size) (hA : AbidesFrom W.heap.size J) (h0 : J [] W) :
    CallsIn F n Tryz.prog 159 #[.func (.yield l) #[] #[], .pointer (some ⟨Bt, 0, none⟩), .pointer (some ⟨Bc, 0, none⟩)] W fun e W' => (∃ v, e = .returned v) ∧
      ((∃ ys, ys = got (partB 3 x L) L.length L.length ∧ J ys W') ∨ (∃ pre, Jx pre W')) := by
  refine callsIn_of_wp Tryz.func159 rfl hf ?_ hro
  simp only [Tryz.ntmps159, List.size_toArray, List.length_cons, List.length_nil, Nat.reduceAdd, Nat.reduceSub, Array.replicate_succ, Array.replicate_zero, List.push_toArray, List.append_toArray, List.nil_append, List.cons_append]
  gi_wp2
  gi_loopw [10] (fun i wr => ∃ k : Nat, k ≤ L.length ∧ i = .int .i64 k ∧ J (got (partB 3 x L) L.length k) wr ∧ Kp G n₁ W wr)
    (fun i _ => L.length - (intOf i).toNat)
  case atStart => exact ⟨0, Nat.zero_le _, rfl, h0, Kp.refl _ _ _⟩
  case round =>
    obtain ⟨k, hk, rfl, hJs, hnx⟩ := hrel
    by_cases hlt : k < L.length
    · obtain ⟨a0, a1, a2, a3, a4, a5, a6⟩ := hcs k hlt
      have b0 := (hnx.cell (p := ⟨b, off + k * 7, none⟩) hb hbG).trans a0
      have b1 := (hnx.cell (p := ⟨b, off + k * 7 + 1, none⟩) hb hbG).trans a1
      have b2 := (hnx.cell (p := ⟨b, off + k * 7 + 2, none⟩) hb hbG).trans a2
      have b3 := (hnx.cell (p := ⟨b, off + k * 7 + 3, none⟩) hb hbG).trans a3
      have b4 := (hnx.cell (p := ⟨b, off + k * 7 + 4, none⟩) hb hbG).trans a4
      have b5 := (hnx.cell (p := ⟨b, off + k * 7 + 5, none⟩) hb hbG).trans a5
      have b6 := (hnx.cell (p := ⟨b, off + k * 7 + 6, none⟩) hb hbG).trans a6
      have c0 := (hnx.cell (p := ⟨Bc, 0, none⟩) hc1 hcG).trans hBk
      have c1 := (hnx.cell (p := ⟨Bc, 1, none⟩) hc1 hcG).trans hBx
      clear a0 a1 a2 a3 a4 a5 a6
      obtain ⟨fa, hfa⟩ : ∃ v, (lnk L k).a = v := ⟨_, rfl⟩
      obtain ⟨fb, hfb⟩ : ∃ v, (lnk L k).b = v := ⟨_, rfl⟩
      obtain ⟨fg, hfg⟩ : ∃ v, (lnk L k).grp = v := ⟨_, rfl⟩
      rw [hfa] at b0
      rw [hfb] at b1
      rw [hfg] at b6
      have d0 := cell_al (.cells #[.int .i64 fa, .int .i64 fb, .int .i64 (lnk L k).c0, .int .i64 (lnk L k).c1, .int .i64 (lnk L k).cap, .int .i64 (lnk L k).delay, .int .i64 fg] 72) c0
      have d1 := cell_al (.cells #[.int .i64 fa, .int .i64 fb, .int .i64 (lnk L k).c0, .int .i64 (lnk L k).c1, .int .i64 (lnk L k).cap, .int .i64 (lnk L k).delay, .int .i64 fg] 72) c1
      have hJ2 : J (got (partB 3 x L) L.length k) (wr.alloc (.cells #[.int .i64 fa, .int .i64 fb, .int .i64 (lnk L k).c0, .int .i64 (lnk L k).c1, .int .i64 (lnk L k).cap, .int .i64 (lnk L k).delay, .int .i64 fg] 72)) := hA _ _ _ none hJs (World.grownBy_alloc _ _ none) (fun r e => by cases e)
      have hK2 : Kp G n₁ W (wr.alloc (.cells #[.int .i64 fa, .int .i64 fb, .int .i64 (lnk L k).c0, .int .i64 (lnk L k).c1, .int .i64 (lnk L k).cap, .int .i64 (lnk L k).delay, .int .i64 fg] 72)) := hnx.trans (Kp.alloc (by have := hnx.size; omega) _)
      by_cases hp : fg = x
      · subst hp
        obtain ⟨fn, tmps, assign, body, hy, hR⟩ := hY _ ⟨k, hlt⟩ _ hJ2 (by have := got_len (partB 3 fg L) L.length k; omega)
        dsimp only at hy
        have hpk : partB 3 fg L k = true := by unfold partB; simp [hfa, hfb, hfg]
        gi_wp2
        refine hR.mono ?_
        rintro e W3 (⟨rfl, hJ3, hk3⟩ | ⟨rfl, hJx3⟩)
        · gi_wp2
          go_roundw
          case rel => exact ⟨k + 1, by omega, by simp, by rw [got_yes hpk hlt]; exact hJ3, hK2.trans hk3⟩
          case measure => simp [intOf]; omega
        · gi_wp2
          refine bodyPost_ret (results_none rfl _ _ _) rfl ?_
          exact ⟨⟨_, rfl⟩, .inr ⟨_, hJx3⟩⟩
      · have hpk : partB 3 x L k = false := by unfold partB; simp [hfa, hfb, hfg, hp]
        gi_wp2
        refine ⟨fun _ h => (by cases h), ?_⟩
        gi_wp2
        go_roundw
        case rel => exact ⟨k + 1, by omega, by simp, by rw [got_no hpk]; exact hJ2, hK2⟩
        case measure => simp [intOf]; omega
    · obtain rfl : k = L.length := by omega
      gi_wp2
      go_end0
      exact ⟨⟨_, rfl⟩, .inl ⟨_, rfl, hJs⟩⟩
end Rng
end Go.Proofs.YtbpgndbjbaoolaaGreat

/- Rounds of a range over a function, for the pure walk. -/
namespace Go.Proofs.YtbpgndbjbaoolaaGreat
set_option linter.unusedVariables false
set_option linter.unusedSimpArgs false
namespace PW
open Go.RowKit Reg Mem Net

section
variable {P : Program} {ops : Array Oper} {Q : Exit → Act → World → Prop}
theorem oper_round {l n : Nat} {o : Oper} {a : Act} {w : World} {K K' : Act → World → Prop} (hnd : ∀ c, o.op ≠ .defer c) (hL : ¬ LetsOut Q) (hK : ∀ a w, K a w → K' a w) (h : o.wp P a w K Q) : o.wpIn (Fence.wide.inRound l) n P a w K' Q := by
  refine ⟨fun _ _ => trivial, ?_⟩
  rw [Fence.inRound_round, Oper.semAt_eq _ _ _ hnd]
  unfold Oper.wp at h
  generalize (execOp a.eval o).run P w = x at *
  cases x with
  | ok x w' =>
    cases x <;> simp only [Oper.uponIn, Oper.upon] at h ⊢
    case value v => exact hK _ _ h
    case skip => exact hK _ _ h
    case defer d => exact hK _ _ h
    case enter f args => exact ⟨fun h => by simp [Fence.wide] at h, CallsIn.inRound l (callsIn_wide.2 (h.mono fun e w'' he => by cases e <;> first | exact hK _ _ he | exact he))⟩
    case row r args => exact ⟨fun h => by simp [Fence.wide] at h, fun c cs _ => by
      obtain ⟨v, w', r, s⟩ := h c cs
      exact ⟨v, w', hK _ _ r, stepsIn_wide.2 s⟩⟩
    all_goals exact h.elim
  | halt x w' => cases x <;> simp only [Oper.uponIn, Oper.upon] at h ⊢ <;> exact h
theorem wpAny_round {l n : Nat} (hnd : ∀ (i : Nat) (o : Oper), ops[i]? = some o → ∀ c, o.op ≠ .defer c) (hL : ¬ LetsOut Q) : ∀ (fuel : Nat) (ls : Array Bool) (a : Act) (w : World), wpAny P .any ops Q fuel ls a w → wpAnyIn (Fence.wide.inRound l) n P .any ops Q fuel ls a w
  | 0, ls, a, w, h => h
  | fuel + 1, ls, a, w, h => by
    refine ⟨h.1, fun i hi => ?_⟩
    have h2 := h.2 i hi
    unfold wpOp at h2
    unfold wpOpIn
    cases ho : ops[i]? with
    | none => rw [ho] at h2; exact wpAny_round hnd hL fuel _ a w h2
    | some o =>
      rw [ho] at h2
      simp only at h2 ⊢
      split
      · rename_i hw
        rw [if_pos hw] at h2
        rcases h2 with h2 | h2
        · exact oper_round (hnd i o ho) hL (fun a w h => wpAny_round hnd hL fuel _ a w h) h2
        · exact absurd h2.2 hL
      · rename_i hw
        rw [if_neg hw] at h2
        exact ⟨fun _ _ => trivial, wpAny_round hnd hL fuel _ _ w h2⟩
theorem memo_intro {N L n : Nat} {ls : Array Bool} {st : St} {K : St → Prop} (h : ∀ ops', ops' = ops → WA P N L ops' n ls st K) : WA P N L ops n ls st K := h ops rfl
end
end PW
end Go.Proofs.YtbpgndbjbaoolaaGreat

/- The round of package component's Union: two cells of the mask are set. -/
namespace Go.Proofs.YtbpgndbjbaoolaaGreat
set_option linter.unusedVariables false
set_option linter.unusedSimpArgs false
namespace PW
open Go.RowKit Reg Mem Net

/-- The code of the round. -/
def bodyOf : Code → Option (Array Oper)
  | .block _ (.region _ ops _) => some ops
  | _ => none
def rngOf : Code → Option (Operand × Array Tmp × Code × Code)
  | .rangeFunc g ps a b => some (g, ps, a, b)
  | .seq x y => (rngOf x).orElse fun _ => rngOf y
  | .cond _ x y => (rngOf x).orElse fun _ => rngOf y
  | .block _ x => rngOf x
  | .loop x => rngOf x
  | _ => none
def opsOf (f : Func) : Array Oper := (((f.body.bind rngOf).bind fun x => bodyOf x.2.2.2).getD #[])
set_option maxRecDepth 10000 in
set_option maxHeartbeats 4000000 in
theorem body11 (M : List Bool) (i : Nat) (hi : 2 * i + 1 < M.length) (hM : M.length ≤ 1000) : WA Tryz.prog 41 2 (opsOf Tryz.f116) 11 #[false, false, false, false, false, false, false, false, false, false, false] ⟨[(6, .ptr 1 0), (9, num i)], [some (.row 4 1 M.length (boolsP M)), some (.cells 22 [.own 0])]⟩ (fun s => s.σ = [some (.row 4 1 M.length (boolsP ((M.set (2 * i) true).set (2 * i + 1) true))), some (.cells 22 [.own 0])]) := by
  have hl1 : (M.set (2 * i) true).length = M.length := by simp
  refine memo_intro (fun ops hops => ?_)
  have m11111111111 : WA Tryz.prog 41 2 ops 0 #[true, true, true, true, true, true, true, true, true, true, true] ⟨[(6, .ptr 1 0), (9, num i), (30, .own 0), (31, num i), (32, num ((2 * i : Nat) : Int)), (33, .own 0), (34, num i), (35, num ((2 * i : Nat) : Int)), (36, num ((2 * i + 1 : Nat) : Int)), (37, .ptr 0 (2 * i)), (38, .ptr 0 (2 * i + 1))], [some (.row 4 1 M.length (boolsP ((M.set (2 * i) true).set (2 * i + 1) true))), some (.cells 22 [.own 0])]⟩ (fun s => s.σ = [some (.row 4 1 M.length (boolsP ((M.set (2 * i) true).set (2 * i + 1) true))), some (.cells 22 [.own 0])]) := by
    subst hops
    exact WA_nil (by kernel_rfl) rfl
  have m11111111110 : WA Tryz.prog 41 2 ops 1 #[true, true, true, true, true, true, true, true, true, true, false] ⟨[(6, .ptr 1 0), (9, num i), (30, .own 0), (31, num i), (32, num ((2 * i : Nat) : Int)), (33, .own 0), (34, num i), (35, num ((2 * i : Nat) : Int)), (36, num ((2 * i + 1 : Nat) : Int)), (37, .ptr 0 (2 * i)), (38, .ptr 0 (2 * i + 1))], [some (.row 4 1 M.length (boolsP (M.set (2 * i) true))), some (.cells 22 [.own 0])]⟩ (fun s => s.σ = [some (.row 4 1 M.length (boolsP ((M.set (2 * i) true).set (2 * i + 1) true))), some (.cells 22 [.own 0])]) := by
    subst hops
    refine WA_step 10 [] (by kernel_rfl) ?_
    exact WAs_cons rfl rfl (WR_loud0 (l_storeBools rfl (fok.tk.get rfl) rfl rfl rfl (by simp; omega)) rfl rfl (WR_k [6, 9, 30, 31, 32, 33, 34, 35, 36, 37, 38] rfl m11111111111)) (WAs_nil)
  have m11111111100 : WA Tryz.prog 41 2 ops 2 #[true, true, true, true, true, true, true, true, true, false, false] ⟨[(6, .ptr 1 0), (9, num i), (30, .own 0), (31, num i), (32, num ((2 * i : Nat) : Int)), (33, .own 0), (34, num i), (35, num ((2 * i : Nat) : Int)), (36, num ((2 * i + 1 : Nat) : Int)), (37, .ptr 0 (2 * i))], [some (.row 4 1 M.length (boolsP (M.set (2 * i) true))), some (.cells 22 [.own 0])]⟩ (fun s => s.σ = [some (.row 4 1 M.length (boolsP ((M.set (2 * i) true).set (2 * i + 1) true))), some (.cells 22 [.own 0])]) := by
    subst hops
    refine WA_step 9 [] (by kernel_rfl) ?_
    exact WAs_cons rfl rfl (WR_v (y_ix (2 * i + 1) rfl) rfl (WR_k [6, 9, 30, 31, 32, 33, 34, 35, 36, 37, 38] rfl m11111111110)) (WAs_nil)
  have m11111111000 : WA Tryz.prog 41 2 ops 3 #[true, true, true, true, true, true, true, true, false, false, false] ⟨[(6, .ptr 1 0), (9, num i), (30, .own 0), (31, num i), (32, num ((2 * i : Nat) : Int)), (33, .own 0), (34, num i), (35, num ((2 * i : Nat) : Int)), (36, num ((2 * i + 1 : Nat) : Int)), (37, .ptr 0 (2 * i))], [some (.row 4 1 M.length (boolsP M)), some (.cells 22 [.own 0])]⟩ (fun s => s.σ = [some (.row 4 1 M.length (boolsP ((M.set (2 * i) true).set (2 * i + 1) true))), some (.cells 22 [.own 0])]) := by
    subst hops
    refine WA_step 8 [] (by kernel_rfl) ?_
    exact WAs_cons rfl rfl (WR_loud0 (l_storeBools rfl (fok.tk.get rfl) rfl rfl rfl (by omega)) rfl rfl (WR_k [6, 9, 30, 31, 32, 33, 34, 35, 36, 37] rfl m11111111100)) (WAs_nil)
  have m11111110000 : WA Tryz.prog 41 2 ops 4 #[true, true, true, true, true, true, true, false, false, false, false] ⟨[(6, .ptr 1 0), (9, num i), (30, .own 0), (31, num i), (32, num ((2 * i : Nat) : Int)), (33, .own 0), (34, num i), (35, num ((2 * i : Nat) : Int)), (36, num ((2 * i + 1 : Nat) : Int))], [some (.row 4 1 M.length (boolsP M)), some (.cells 22 [.own 0])]⟩ (fun s => s.σ = [some (.row 4 1 M.length (boolsP ((M.set (2 * i) true).set (2 * i + 1) true))), some (.cells 22 [.own 0])]) := by
    subst hops
    refine WA_step 7 [] (by kernel_rfl) ?_
    exact WAs_cons rfl rfl (WR_v (y_ix (2 * i) rfl) rfl (WR_k [6, 9, 30, 31, 32, 33, 34, 35, 36, 37] rfl m11111111000)) (WAs_nil)
  have m11111101100 : WA Tryz.prog 41 2 ops 3 #[true, true, true, true, true, true, false, true, true, false, false] ⟨[(6, .ptr 1 0), (9, num i), (30, .own 0), (31, num i), (32, num ((2 * i : Nat) : Int)), (33, .own 0), (34, num i), (35, num ((2 * i : Nat) : Int)), (37, .ptr 0 (2 * i))], [some (.row 4 1 M.length (boolsP (M.set (2 * i) true))), some (.cells 22 [.own 0])]⟩ (fun s => s.σ = [some (.row 4 1 M.length (boolsP ((M.set (2 * i) true).set (2 * i + 1) true))), some (.cells 22 [.own 0])]) := by
    subst hops
    refine WA_step 6 [] (by kernel_rfl) ?_
    exact WAs_cons rfl rfl (WR_v (y_ar rfl (hc := show ((2 * i : Nat) : Int) + 1 = ((2 * i + 1 : Nat) : Int) by omega) (hn := by unfold In64; omega)) rfl (WR_k [6, 9, 30, 31, 32, 33, 34, 35, 36, 37] rfl m11111111100)) (WAs_nil)
  have m11111101000 : WA Tryz.prog 41 2 ops 4 #[true, true, true, true, true, true, false, true, false, false, false] ⟨[(6, .ptr 1 0), (9, num i), (30, .own 0), (31, num i), (32, num ((2 * i : Nat) : Int)), (33, .own 0), (34, num i), (35, num ((2 * i : Nat) : Int)), (37, .ptr 0 (2 * i))], [some (.row 4 1 M.length (boolsP M)), some (.cells 22 [.own 0])]⟩ (fun s => s.σ = [some (.row 4 1 M.length (boolsP ((M.set (2 * i) true).set (2 * i + 1) true))), some (.cells 22 [.own 0])]) := by
    subst hops
    refine WA_step 6 [8] (by kernel_rfl) ?_
    exact WAs_cons rfl rfl (WR_v (y_ar rfl (hc := show ((2 * i : Nat) : Int) + 1 = ((2 * i + 1 : Nat) : Int) by omega) (hn := by unfold In64; omega)) rfl (WR_k [6, 9, 30, 31, 32, 33, 34, 35, 36, 37] rfl m11111111000)) (WAs_cons rfl rfl (WR_loud0 (l_storeBools rfl (fok.tk.get rfl) rfl rfl rfl (by omega)) rfl rfl (WR_k [6, 9, 30, 31, 32, 33, 34, 35, 37] rfl m11111101100)) (WAs_nil))
  have m11111100000 : WA Tryz.prog 41 2 ops 5 #[true, true, true, true, true, true, false, false, false, false, false] ⟨[(6, .ptr 1 0), (9, num i), (30, .own 0), (31, num i), (32, num ((2 * i : Nat) : Int)), (33, .own 0), (34, num i), (35, num ((2 * i : Nat) : Int))], [some (.row 4 1 M.length (boolsP M)), some (.cells 22 [.own 0])]⟩ (fun s => s.σ = [some (.row 4 1 M.length (boolsP ((M.set (2 * i) true).set (2 * i + 1) true))), some (.cells 22 [.own 0])]) := by
    subst hops
    refine WA_step 6 [7] (by kernel_rfl) ?_
    exact WAs_cons rfl rfl (WR_v (y_ar rfl (hc := show ((2 * i : Nat) : Int) + 1 = ((2 * i + 1 : Nat) : Int) by omega) (hn := by unfold In64; omega)) rfl (WR_k [6, 9, 30, 31, 32, 33, 34, 35, 36] rfl m11111110000)) (WAs_cons rfl rfl (WR_v (y_ix (2 * i) rfl) rfl (WR_k [6, 9, 30, 31, 32, 33, 34, 35, 37] rfl m11111101000)) (WAs_nil))
  have m11111001100 : WA Tryz.prog 41 2 ops 4 #[true, true, true, true, true, false, false, true, true, false, false] ⟨[(6, .ptr 1 0), (9, num i), (30, .own 0), (31, num i), (32, num ((2 * i : Nat) : Int)), (33, .own 0), (34, num i), (37, .ptr 0 (2 * i))], [some (.row 4 1 M.length (boolsP (M.set (2 * i) true))), some (.cells 22 [.own 0])]⟩ (fun s => s.σ = [some (.row 4 1 M.length (boolsP ((M.set (2 * i) true).set (2 * i + 1) true))), some (.cells 22 [.own 0])]) := by
    subst hops
    refine WA_step 5 [] (by kernel_rfl) ?_
    exact WAs_cons rfl rfl (WR_v (y_ar rfl (hc := show (2 : Int) * (i : Int) = ((2 * i : Nat) : Int) by omega) (hn := by unfold In64; omega)) rfl (WR_k [6, 9, 30, 31, 32, 33, 34, 35, 37] rfl m11111101100)) (WAs_nil)
  have m11111001000 : WA Tryz.prog 41 2 ops 5 #[true, true, true, true, true, false, false, true, false, false, false] ⟨[(6, .ptr 1 0), (9, num i), (30, .own 0), (31, num i), (32, num ((2 * i : Nat) : Int)), (33, .own 0), (34, num i), (37, .ptr 0 (2 * i))], [some (.row 4 1 M.length (boolsP M)), some (.cells 22 [.own 0])]⟩ (fun s => s.σ = [some (.row 4 1 M.length (boolsP ((M.set (2 * i) true).set (2 * i + 1) true))), some (.cells 22 [.own 0])]) := by
    subst hops
    refine WA_step 5 [8] (by kernel_rfl) ?_
    exact WAs_cons rfl rfl (WR_v (y_ar rfl (hc := show (2 : Int) * (i : Int) = ((2 * i : Nat) : Int) by omega) (hn := by unfold In64; omega)) rfl (WR_k [6, 9, 30, 31, 32, 33, 34, 35, 37] rfl m11111101000)) (WAs_cons rfl rfl (WR_loud0 (l_storeBools rfl (fok.tk.get rfl) rfl rfl rfl (by omega)) rfl rfl (WR_k [6, 9, 30, 31, 32, 33, 34, 37] rfl m11111001100)) (WAs_nil))
  have m11111000000 : WA Tryz.prog 41 2 ops 6 #[true, true, true, true, true, false, false, false, false, false, false] ⟨[(6, .ptr 1 0), (9, num i), (30, .own 0), (31, num i), (32, num ((2 * i : Nat) : Int)), (33, .own 0), (34, num i)], [some (.row 4 1 M.length (boolsP M)), some (.cells 22 [.own 0])]⟩ (fun s => s.σ = [some (.row 4 1 M.length (boolsP ((M.set (2 * i) true).set (2 * i + 1) true))), some (.cells 22 [.own 0])]) := by
    subst hops
    refine WA_step 5 [7] (by kernel_rfl) ?_
    exact WAs_cons rfl rfl (WR_v (y_ar rfl (hc := show (2 : Int) * (i : Int) = ((2 * i : Nat) : Int) by omega) (hn := by unfold In64; omega)) rfl (WR_k [6, 9, 30, 31, 32, 33, 34, 35] rfl m11111100000)) (WAs_cons rfl rfl (WR_v (y_ix (2 * i) rfl) rfl (WR_k [6, 9, 30, 31, 32, 33, 34, 37] rfl m11111001000)) (WAs_nil))
  have m11110001100 : WA Tryz.prog 41 2 ops 5 #[true, true, true, true, false, false, false, true, true, false, false] ⟨[(6, .ptr 1 0), (9, num i), (30, .own 0), (31, num i), (32, num ((2 * i : Nat) : Int)), (33, .own 0), (37, .ptr 0 (2 * i))], [some (.row 4 1 M.length (boolsP (M.set (2 * i) true))), some (.cells 22 [.own 0])]⟩ (fun s => s.σ = [some (.row 4 1 M.length (boolsP ((M.set (2 * i) true).set (2 * i + 1) true))), some (.cells 22 [.own 0])]) := by
    subst hops
    refine WA_step 4 [] (by kernel_rfl) ?_
    exact WAs_cons rfl rfl (WR_v (y_a rfl) rfl (WR_k [6, 9, 30, 31, 32, 33, 34, 37] rfl m11111001100)) (WAs_nil)
  have m11110001000 : WA Tryz.prog 41 2 ops 6 #[true, true, true, true, false, false, false, true, false, false, false] ⟨[(6, .ptr 1 0), (9, num i), (30, .own 0), (31, num i), (32, num ((2 * i : Nat) : Int)), (33, .own 0), (37, .ptr 0 (2 * i))], [some (.row 4 1 M.length (boolsP M)), some (.cells 22 [.own 0])]⟩ (fun s => s.σ = [some (.row 4 1 M.length (boolsP ((M.set (2 * i) true).set (2 * i + 1) true))), some (.cells 22 [.own 0])]) := by
    subst hops
    refine WA_step 4 [8] (by kernel_rfl) ?_
    exact WAs_cons rfl rfl (WR_v (y_a rfl) rfl (WR_k [6, 9, 30, 31, 32, 33, 34, 37] rfl m11111001000)) (WAs_cons rfl rfl (WR_loud0 (l_storeBools rfl (fok.tk.get rfl) rfl rfl rfl (by omega)) rfl rfl (WR_k [6, 9, 30, 31, 32, 33, 37] rfl m11110001100)) (WAs_nil))
  have m11110000000 : WA Tryz.prog 41 2 ops 7 #[true, true, true, true, false, false, false, false, false, false, false] ⟨[(6, .ptr 1 0), (9, num i), (30, .own 0), (31, num i), (32, num ((2 * i : Nat) : Int)), (33, .own 0)], [some (.row 4 1 M.length (boolsP M)), some (.cells 22 [.own 0])]⟩ (fun s => s.σ = [some (.row 4 1 M.length (boolsP ((M.set (2 * i) true).set (2 * i + 1) true))), some (.cells 22 [.own 0])]) := by
    subst hops
    refine WA_step 4 [7] (by kernel_rfl) ?_
    exact WAs_cons rfl rfl (WR_v (y_a rfl) rfl (WR_k [6, 9, 30, 31, 32, 33, 34] rfl m11111000000)) (WAs_cons rfl rfl (WR_v (y_ix (2 * i) rfl) rfl (WR_k [6, 9, 30, 31, 32, 33, 37] rfl m11110001000)) (WAs_nil))
  have m11101111100 : WA Tryz.prog 41 2 ops 3 #[true, true, true, false, true, true, true, true, true, false, false] ⟨[(6, .ptr 1 0), (9, num i), (30, .own 0), (31, num i), (32, num ((2 * i : Nat) : Int)), (34, num i), (35, num ((2 * i : Nat) : Int)), (36, num ((2 * i + 1 : Nat) : Int)), (37, .ptr 0 (2 * i))], [some (.row 4 1 M.length (boolsP (M.set (2 * i) true))), some (.cells 22 [.own 0])]⟩ (fun s => s.σ = [some (.row 4 1 M.length (boolsP ((M.set (2 * i) true).set (2 * i + 1) true))), some (.cells 22 [.own 0])]) := by
    subst hops
    refine WA_step 3 [] (by kernel_rfl) ?_
    exact WAs_cons rfl rfl (WR_v (y_a rfl) rfl (WR_k [6, 9, 30, 31, 32, 33, 34, 35, 36, 37] rfl m11111111100)) (WAs_nil)
  have m11101111000 : WA Tryz.prog 41 2 ops 4 #[true, true, true, false, true, true, true, true, false, false, false] ⟨[(6, .ptr 1 0), (9, num i), (30, .own 0), (31, num i), (32, num ((2 * i : Nat) : Int)), (34, num i), (35, num ((2 * i : Nat) : Int)), (36, num ((2 * i + 1 : Nat) : Int)), (37, .ptr 0 (2 * i))], [some (.row 4 1 M.length (boolsP M)), some (.cells 22 [.own 0])]⟩ (fun s => s.σ = [some (.row 4 1 M.length (boolsP ((M.set (2 * i) true).set (2 * i + 1) true))), some (.cells 22 [.own 0])]) := by
    subst hops
    refine WA_step 3 [8] (by kernel_rfl) ?_
    exact WAs_cons rfl rfl (WR_v (y_a rfl) rfl (WR_k [6, 9, 30, 31, 32, 33, 34, 35, 36, 37] rfl m11111111000)) (WAs_cons rfl rfl (WR_loud0 (l_storeBools rfl (fok.tk.get rfl) rfl rfl rfl (by omega)) rfl rfl (WR_k [6, 9, 30, 31, 32, 34, 35, 36, 37] rfl m11101111100)) (WAs_nil))
  have m11101110000 : WA Tryz.prog 41 2 ops 5 #[true, true, true, false, true, true, true, false, false, false, false] ⟨[(6, .ptr 1 0), (9, num i), (30, .own 0), (31, num i), (32, num ((2 * i : Nat) : Int)), (34, num i), (35, num ((2 * i : Nat) : Int)), (36, num ((2 * i + 1 : Nat) : Int))], [some (.row 4 1 M.length (boolsP M)), some (.cells 22 [.own 0])]⟩ (fun s => s.σ = [some (.row 4 1 M.length (boolsP ((M.set (2 * i) true).set (2 * i + 1) true))), some (.cells 22 [.own 0])]) := by
    subst hops
    refine WA_step 3 [7] (by kernel_rfl) ?_
    exact WAs_cons rfl rfl (WR_v (y_a rfl) rfl (WR_k [6, 9, 30, 31, 32, 33, 34, 35, 36] rfl m11111110000)) (WAs_cons rfl rfl (WR_v (y_ix (2 * i) rfl) rfl (WR_k [6, 9, 30, 31, 32, 34, 35, 36, 37] rfl m11101111000)) (WAs_nil))
  have m11101101100 : WA Tryz.prog 41 2 ops 4 #[true, true, true, false, true, true, false, true, true, false, false] ⟨[(6, .ptr 1 0), (9, num i), (30, .own 0), (31, num i), (32, num ((2 * i : Nat) : Int)), (34, num i), (35, num ((2 * i : Nat) : Int)), (37, .ptr 0 (2 * i))], [some (.row 4 1 M.length (boolsP (M.set (2 * i) true))), some (.cells 22 [.own 0])]⟩ (fun s => s.σ = [some (.row 4 1 M.length (boolsP ((M.set (2 * i) true).set (2 * i + 1) true))), some (.cells 22 [.own 0])]) := by
    subst hops
    refine WA_step 3 [6] (by kernel_rfl) ?_
    exact WAs_cons rfl rfl (WR_v (y_a rfl) rfl (WR_k [6, 9, 30, 31, 32, 33, 34, 35, 37] rfl m11111101100)) (WAs_cons rfl rfl (WR_v (y_ar rfl (hc := show ((2 * i : Nat) : Int) + 1 = ((2 * i + 1 : Nat) : Int) by omega) (hn := by unfold In64; omega)) rfl (WR_k [6, 9, 30, 31, 32, 34, 35, 36, 37] rfl m11101111100)) (WAs_nil))
  have m11101101000 : WA Tryz.prog 41 2 ops 5 #[true, true, true, false, true, true, false, true, false, false, false] ⟨[(6, .ptr 1 0), (9, num i), (30, .own 0), (31, num i), (32, num ((2 * i : Nat) : Int)), (34, num i), (35, num ((2 * i : Nat) : Int)), (37, .ptr 0 (2 * i))], [some (.row 4 1 M.length (boolsP M)), some (.cells 22 [.own 0])]⟩ (fun s => s.σ = [some (.row 4 1 M.length (boolsP ((M.set (2 * i) true).set (2 * i + 1) true))), some (.cells 22 [.own 0])]) := by
    subst hops
    refine WA_step 3 [6, 8] (by kernel_rfl) ?_
    exact WAs_cons rfl rfl (WR_v (y_a rfl) rfl (WR_k [6, 9, 30, 31, 32, 33, 34, 35, 37] rfl m11111101000)) (WAs_cons rfl rfl (WR_v (y_ar rfl (hc := show ((2 * i : Nat) : Int) + 1 = ((2 * i + 1 : Nat) : Int) by omega) (hn := by unfold In64; omega)) rfl (WR_k [6, 9, 30, 31, 32, 34, 35, 36, 37] rfl m11101111000)) (WAs_cons rfl rfl (WR_loud0 (l_storeBools rfl (fok.tk.get rfl) rfl rfl rfl (by omega)) rfl rfl (WR_k [6, 9, 30, 31, 32, 34, 35, 37] rfl m11101101100)) (WAs_nil)))
  have m11101100000 : WA Tryz.prog 41 2 ops 6 #[true, true, true, false, true, true, false, false, false, false, false] ⟨[(6, .ptr 1 0), (9, num i), (30, .own 0), (31, num i), (32, num ((2 * i : Nat) : Int)), (34, num i), (35, num ((2 * i : Nat) : Int))], [some (.row 4 1 M.length (boolsP M)), some (.cells 22 [.own 0])]⟩ (fun s => s.σ = [some (.row 4 1 M.length (boolsP ((M.set (2 * i) true).set (2 * i + 1) true))), some (.cells 22 [.own 0])]) := by
    subst hops
    refine WA_step 3 [6, 7] (by kernel_rfl) ?_
    exact WAs_cons rfl rfl (WR_v (y_a rfl) rfl (WR_k [6, 9, 30, 31, 32, 33, 34, 35] rfl m11111100000)) (WAs_cons rfl rfl (WR_v (y_ar rfl (hc := show ((2 * i : Nat) : Int) + 1 = ((2 * i + 1 : Nat) : Int) by omega) (hn := by unfold In64; omega)) rfl (WR_k [6, 9, 30, 31, 32, 34, 35, 36] rfl m11101110000)) (WAs_cons rfl rfl (WR_v (y_ix (2 * i) rfl) rfl (WR_k [6, 9, 30, 31, 32, 34, 35, 37] rfl m11101101000)) (WAs_nil)))
  have m11101001100 : WA Tryz.prog 41 2 ops 5 #[true, true, true, false, true, false, false, true, true, false, false] ⟨[(6, .ptr 1 0), (9, num i), (30, .own 0), (31, num i), (32, num ((2 * i : Nat) : Int)), (34, num i), (37, .ptr 0 (2 * i))], [some (.row 4 1 M.length (boolsP (M.set (2 * i) true))), some (.cells 22 [.own 0])]⟩ (fun s => s.σ = [some (.row 4 1 M.length (boolsP ((M.set (2 * i) true).set (2 * i + 1) true))), some (.cells 22 [.own 0])]) := by
    subst hops
    refine WA_step 3 [5] (by kernel_rfl) ?_
    exact WAs_cons rfl rfl (WR_v (y_a rfl) rfl (WR_k [6, 9, 30, 31, 32, 33, 34, 37] rfl m11111001100)) (WAs_cons rfl rfl (WR_v (y_ar rfl (hc := show (2 : Int) * (i : Int) = ((2 * i : Nat) : Int) by omega) (hn := by unfold In64; omega)) rfl (WR_k [6, 9, 30, 31, 32, 34, 35, 37] rfl m11101101100)) (WAs_nil))
  have m11101001000 : WA Tryz.prog 41 2 ops 6 #[true, true, true, false, true, false, false, true, false, false, false] ⟨[(6, .ptr 1 0), (9, num i), (30, .own 0), (31, num i), (32, num ((2 * i : Nat) : Int)), (34, num i), (37, .ptr 0 (2 * i))], [some (.row 4 1 M.length (boolsP M)), some (.cells 22 [.own 0])]⟩ (fun s => s.σ = [some (.row 4 1 M.length (boolsP ((M.set (2 * i) true).set (2 * i + 1) true))), some (.cells 22 [.own 0])]) := by
    subst hops
    refine WA_step 3 [5, 8] (by kernel_rfl) ?_
    exact WAs_cons rfl rfl (WR_v (y_a rfl) rfl (WR_k [6, 9, 30, 31, 32, 33, 34, 37] rfl m11111001000)) (WAs_cons rfl rfl (WR_v (y_ar rfl (hc := show (2 : Int) * (i : Int) = ((2 * i : Nat) : Int) by omega) (hn := by unfold In64; omega)) rfl (WR_k [6, 9, 30, 31, 32, 34, 35, 37] rfl m11101101000)) (WAs_cons rfl rfl (WR_loud0 (l_storeBools rfl (fok.tk.get rfl) rfl rfl rfl (by omega)) rfl rfl (WR_k [6, 9, 30, 31, 32, 34, 37] rfl m11101001100)) (WAs_nil)))
  have m11101000000 : WA Tryz.prog 41 2 ops 7 #[true, true, true, false, true, false, false, false, false, false, false] ⟨[(6, .ptr 1 0), (9, num i), (30, .own 0), (31, num i), (32, num ((2 * i : Nat) : Int)), (34, num i)], [some (.row 4 1 M.length (boolsP M)), some (.cells 22 [.own 0])]⟩ (fun s => s.σ = [some (.row 4 1 M.length (boolsP ((M.set (2 * i) true).set (2 * i + 1) true))), some (.cells 22 [.own 0])]) := by
    subst hops
    refine WA_step 3 [5, 7] (by kernel_rfl) ?_
    exact WAs_cons rfl rfl (WR_v (y_a rfl) rfl (WR_k [6, 9, 30, 31, 32, 33, 34] rfl m11111000000)) (WAs_cons rfl rfl (WR_v (y_ar rfl (hc := show (2 : Int) * (i : Int) = ((2 * i : Nat) : Int) by omega) (hn := by unfold In64; omega)) rfl (WR_k [6, 9, 30, 31, 32, 34, 35] rfl m11101100000)) (WAs_cons rfl rfl (WR_v (y_ix (2 * i) rfl) rfl (WR_k [6, 9, 30, 31, 32, 34, 37] rfl m11101001000)) (WAs_nil)))
  have m11100001100 : WA Tryz.prog 41 2 ops 6 #[true, true, true, false, false, false, false, true, true, false, false] ⟨[(6, .ptr 1 0), (9, num i), (30, .own 0), (31, num i), (32, num ((2 * i : Nat) : Int)), (37, .ptr 0 (2 * i))], [some (.row 4 1 M.length (boolsP (M.set (2 * i) true))), some (.cells 22 [.own 0])]⟩ (fun s => s.σ = [some (.row 4 1 M.length (boolsP ((M.set (2 * i) true).set (2 * i + 1) true))), some (.cells 22 [.own 0])]) := by
    subst hops
    refine WA_step 3 [4] (by kernel_rfl) ?_
    exact WAs_cons rfl rfl (WR_v (y_a rfl) rfl (WR_k [6, 9, 30, 31, 32, 33, 37] rfl m11110001100)) (WAs_cons rfl rfl (WR_v (y_a rfl) rfl (WR_k [6, 9, 30, 31, 32, 34, 37] rfl m11101001100)) (WAs_nil))
  have m11100001000 : WA Tryz.prog 41 2 ops 7 #[true, true, true, false, false, false, false, true, false, false, false] ⟨[(6, .ptr 1 0), (9, num i), (30, .own 0), (31, num i), (32, num ((2 * i : Nat) : Int)), (37, .ptr 0 (2 * i))], [some (.row 4 1 M.length (boolsP M)), some (.cells 22 [.own 0])]⟩ (fun s => s.σ = [some (.row 4 1 M.length (boolsP ((M.set (2 * i) true).set (2 * i + 1) true))), some (.cells 22 [.own 0])]) := by
    subst hops
    refine WA_step 3 [4, 8] (by kernel_rfl) ?_
    exact WAs_cons rfl rfl (WR_v (y_a rfl) rfl (WR_k [6, 9, 30, 31, 32, 33, 37] rfl m11110001000)) (WAs_cons rfl rfl (WR_v (y_a rfl) rfl (WR_k [6, 9, 30, 31, 32, 34, 37] rfl m11101001000)) (WAs_cons rfl rfl (WR_loud0 (l_storeBools rfl (fok.tk.get rfl) rfl rfl rfl (by omega)) rfl rfl (WR_k [6, 9, 30, 31, 32, 37] rfl m11100001100)) (WAs_nil)))
  have m11100000000 : WA Tryz.prog 41 2 ops 8 #[true, true, true, false, false, false, false, false, false, false, false] ⟨[(6, .ptr 1 0), (9, num i), (30, .own 0), (31, num i), (32, num ((2 * i : Nat) : Int))], [some (.row 4 1 M.length (boolsP M)), some (.cells 22 [.own 0])]⟩ (fun s => s.σ = [some (.row 4 1 M.length (boolsP ((M.set (2 * i) true).set (2 * i + 1) true))), some (.cells 22 [.own 0])]) := by
    subst hops
    refine WA_step 3 [4, 7] (by kernel_rfl) ?_
    exact WAs_cons rfl rfl (WR_v (y_a rfl) rfl (WR_k [6, 9, 30, 31, 32, 33] rfl m11110000000)) (WAs_cons rfl rfl (WR_v (y_a rfl) rfl (WR_k [6, 9, 30, 31, 32, 34] rfl m11101000000)) (WAs_cons rfl rfl (WR_v (y_ix (2 * i) rfl) rfl (WR_k [6, 9, 30, 31, 32, 37] rfl m11100001000)) (WAs_nil)))
  have m11011110000 : WA Tryz.prog 41 2 ops 5 #[true, true, false, true, true, true, true, false, false, false, false] ⟨[(6, .ptr 1 0), (9, num i), (30, .own 0), (31, num i), (33, .own 0), (34, num i), (35, num ((2 * i : Nat) : Int)), (36, num ((2 * i + 1 : Nat) : Int))], [some (.row 4 1 M.length (boolsP M)), some (.cells 22 [.own 0])]⟩ (fun s => s.σ = [some (.row 4 1 M.length (boolsP ((M.set (2 * i) true).set (2 * i + 1) true))), some (.cells 22 [.own 0])]) := by
    subst hops
    refine WA_step 2 [] (by kernel_rfl) ?_
    exact WAs_cons rfl rfl (WR_v (y_ar rfl (hc := show (2 : Int) * (i : Int) = ((2 * i : Nat) : Int) by omega) (hn := by unfold In64; omega)) rfl (WR_k [6, 9, 30, 31, 32, 33, 34, 35, 36] rfl m11111110000)) (WAs_nil)
  have m11011100000 : WA Tryz.prog 41 2 ops 6 #[true, true, false, true, true, true, false, false, false, false, false] ⟨[(6, .ptr 1 0), (9, num i), (30, .own 0), (31, num i), (33, .own 0), (34, num i), (35, num ((2 * i : Nat) : Int))], [some (.row 4 1 M.length (boolsP M)), some (.cells 22 [.own 0])]⟩ (fun s => s.σ = [some (.row 4 1 M.length (boolsP ((M.set (2 * i) true).set (2 * i + 1) true))), some (.cells 22 [.own 0])]) := by
    subst hops
    refine WA_step 2 [6] (by kernel_rfl) ?_
    exact WAs_cons rfl rfl (WR_v (y_ar rfl (hc := show (2 : Int) * (i : Int) = ((2 * i : Nat) : Int) by omega) (hn := by unfold In64; omega)) rfl (WR_k [6, 9, 30, 31, 32, 33, 34, 35] rfl m11111100000)) (WAs_cons rfl rfl (WR_v (y_ar rfl (hc := show ((2 * i : Nat) : Int) + 1 = ((2 * i + 1 : Nat) : Int) by omega) (hn := by unfold In64; omega)) rfl (WR_k [6, 9, 30, 31, 33, 34, 35, 36] rfl m11011110000)) (WAs_nil))
  have m11011000000 : WA Tryz.prog 41 2 ops 7 #[true, true, false, true, true, false, false, false, false, false, false] ⟨[(6, .ptr 1 0), (9, num i), (30, .own 0), (31, num i), (33, .own 0), (34, num i)], [some (.row 4 1 M.length (boolsP M)), some (.cells 22 [.own 0])]⟩ (fun s => s.σ = [some (.row 4 1 M.length (boolsP ((M.set (2 * i) true).set (2 * i + 1) true))), some (.cells 22 [.own 0])]) := by
    subst hops
    refine WA_step 2 [5] (by kernel_rfl) ?_
    exact WAs_cons rfl rfl (WR_v (y_ar rfl (hc := show (2 : Int) * (i : Int) = ((2 * i : Nat) : Int) by omega) (hn := by unfold In64; omega)) rfl (WR_k [6, 9, 30, 31, 32, 33, 34] rfl m11111000000)) (WAs_cons rfl rfl (WR_v (y_ar rfl (hc := show (2 : Int) * (i : Int) = ((2 * i : Nat) : Int) by omega) (hn := by unfold In64; omega)) rfl (WR_k [6, 9, 30, 31, 33, 34, 35] rfl m11011100000)) (WAs_nil))
  have m11010000000 : WA Tryz.prog 41 2 ops 8 #[true, true, false, true, false, false, false, false, false, false, false] ⟨[(6, .ptr 1 0), (9, num i), (30, .own 0), (31, num i), (33, .own 0)], [some (.row 4 1 M.length (boolsP M)), some (.cells 22 [.own 0])]⟩ (fun s => s.σ = [some (.row 4 1 M.length (boolsP ((M.set (2 * i) true).set (2 * i + 1) true))), some (.cells 22 [.own 0])]) := by
    subst hops
    refine WA_step 2 [4] (by kernel_rfl) ?_
    exact WAs_cons rfl rfl (WR_v (y_ar rfl (hc := show (2 : Int) * (i : Int) = ((2 * i : Nat) : Int) by omega) (hn := by unfold In64; omega)) rfl (WR_k [6, 9, 30, 31, 32, 33] rfl m11110000000)) (WAs_cons rfl rfl (WR_v (y_a rfl) rfl (WR_k [6, 9, 30, 31, 33, 34] rfl m11011000000)) (WAs_nil))
  have m11001110000 : WA Tryz.prog 41 2 ops 6 #[true, true, false, false, true, true, true, false, false, false, false] ⟨[(6, .ptr 1 0), (9, num i), (30, .own 0), (31, num i), (34, num i), (35, num ((2 * i : Nat) : Int)), (36, num ((2 * i + 1 : Nat) : Int))], [some (.row 4 1 M.length (boolsP M)), some (.cells 22 [.own 0])]⟩ (fun s => s.σ = [some (.row 4 1 M.length (boolsP ((M.set (2 * i) true).set (2 * i + 1) true))), some (.cells 22 [.own 0])]) := by
    subst hops
    refine WA_step 2 [3] (by kernel_rfl) ?_
    exact WAs_cons rfl rfl (WR_v (y_ar rfl (hc := show (2 : Int) * (i : Int) = ((2 * i : Nat) : Int) by omega) (hn := by unfold In64; omega)) rfl (WR_k [6, 9, 30, 31, 32, 34, 35, 36] rfl m11101110000)) (WAs_cons rfl rfl (WR_v (y_a rfl) rfl (WR_k [6, 9, 30, 31, 33, 34, 35, 36] rfl m11011110000)) (WAs_nil))
  have m11001100000 : WA Tryz.prog 41 2 ops 7 #[true, true, false, false, true, true, false, false, false, false, false] ⟨[(6, .ptr 1 0), (9, num i), (30, .own 0), (31, num i), (34, num i), (35, num ((2 * i : Nat) : Int))], [some (.row 4 1 M.length (boolsP M)), some (.cells 22 [.own 0])]⟩ (fun s => s.σ = [some (.row 4 1 M.length (boolsP ((M.set (2 * i) true).set (2 * i + 1) true))), some (.cells 22 [.own 0])]) := by
    subst hops
    refine WA_step 2 [3, 6] (by kernel_rfl) ?_
    exact WAs_cons rfl rfl (WR_v (y_ar rfl (hc := show (2 : Int) * (i : Int) = ((2 * i : Nat) : Int) by omega) (hn := by unfold In64; omega)) rfl (WR_k [6, 9, 30, 31, 32, 34, 35] rfl m11101100000)) (WAs_cons rfl rfl (WR_v (y_a rfl) rfl (WR_k [6, 9, 30, 31, 33, 34, 35] rfl m11011100000)) (WAs_cons rfl rfl (WR_v (y_ar rfl (hc := show ((2 * i : Nat) : Int) + 1 = ((2 * i + 1 : Nat) : Int) by omega) (hn := by unfold In64; omega)) rfl (WR_k [6, 9, 30, 31, 34, 35, 36] rfl m11001110000)) (WAs_nil)))
  have m11001000000 : WA Tryz.prog 41 2 ops 8 #[true, true, false, false, true, false, false, false, false, false, false] ⟨[(6, .ptr 1 0), (9, num i), (30, .own 0), (31, num i), (34, num i)], [some (.row 4 1 M.length (boolsP M)), some (.cells 22 [.own 0])]⟩ (fun s => s.σ = [some (.row 4 1 M.length (boolsP ((M.set (2 * i) true).set (2 * i + 1) true))), some (.cells 22 [.own 0])]) := by
    subst hops
    refine WA_step 2 [3, 5] (by kernel_rfl) ?_
    exact WAs_cons rfl rfl (WR_v (y_ar rfl (hc := show (2 : Int) * (i : Int) = ((2 * i : Nat) : Int) by omega) (hn := by unfold In64; omega)) rfl (WR_k [6, 9, 30, 31, 32, 34] rfl m11101000000)) (WAs_cons rfl rfl (WR_v (y_a rfl) rfl (WR_k [6, 9, 30, 31, 33, 34] rfl m11011000000)) (WAs_cons rfl rfl (WR_v (y_ar rfl (hc := show (2 : Int) * (i : Int) = ((2 * i : Nat) : Int) by omega) (hn := by unfold In64; omega)) rfl (WR_k [6, 9, 30, 31, 34, 35] rfl m11001100000)) (WAs_nil)))
  have m11000000000 : WA Tryz.prog 41 2 ops 9 #[true, true, false, false, false, false, false, false, false, false, false] ⟨[(6, .ptr 1 0), (9, num i), (30, .own 0), (31, num i)], [some (.row 4 1 M.length (boolsP M)), some (.cells 22 [.own 0])]⟩ (fun s => s.σ = [some (.row 4 1 M.length (boolsP ((M.set (2 * i) true).set (2 * i + 1) true))), some (.cells 22 [.own 0])]) := by
    subst hops
    refine WA_step 2 [3, 4] (by kernel_rfl) ?_
    exact WAs_cons rfl rfl (WR_v (y_ar rfl (hc := show (2 : Int) * (i : Int) = ((2 * i : Nat) : Int) by omega) (hn := by unfold In64; omega)) rfl (WR_k [6, 9, 30, 31, 32] rfl m11100000000)) (WAs_cons rfl rfl (WR_v (y_a rfl) rfl (WR_k [6, 9, 30, 31, 33] rfl m11010000000)) (WAs_cons rfl rfl (WR_v (y_a rfl) rfl (WR_k [6, 9, 30, 31, 34] rfl m11001000000)) (WAs_nil)))
  have m10011110000 : WA Tryz.prog 41 2 ops 6 #[true, false, false, true, true, true, true, false, false, false, false] ⟨[(6, .ptr 1 0), (9, num i), (30, .own 0), (33, .own 0), (34, num i), (35, num ((2 * i : Nat) : Int)), (36, num ((2 * i + 1 : Nat) : Int))], [some (.row 4 1 M.length (boolsP M)), some (.cells 22 [.own 0])]⟩ (fun s => s.σ = [some (.row 4 1 M.length (boolsP ((M.set (2 * i) true).set (2 * i + 1) true))), some (.cells 22 [.own 0])]) := by
    subst hops
    refine WA_step 1 [] (by kernel_rfl) ?_
    exact WAs_cons rfl rfl (WR_v (y_a rfl) rfl (WR_k [6, 9, 30, 31, 33, 34, 35, 36] rfl m11011110000)) (WAs_nil)
  have m10011100000 : WA Tryz.prog 41 2 ops 7 #[true, false, false, true, true, true, false, false, false, false, false] ⟨[(6, .ptr 1 0), (9, num i), (30, .own 0), (33, .own 0), (34, num i), (35, num ((2 * i : Nat) : Int))], [some (.row 4 1 M.length (boolsP M)), some (.cells 22 [.own 0])]⟩ (fun s => s.σ = [some (.row 4 1 M.length (boolsP ((M.set (2 * i) true).set (2 * i + 1) true))), some (.cells 22 [.own 0])]) := by
    subst hops
    refine WA_step 1 [6] (by kernel_rfl) ?_
    exact WAs_cons rfl rfl (WR_v (y_a rfl) rfl (WR_k [6, 9, 30, 31, 33, 34, 35] rfl m11011100000)) (WAs_cons rfl rfl (WR_v (y_ar rfl (hc := show ((2 * i : Nat) : Int) + 1 = ((2 * i + 1 : Nat) : Int) by omega) (hn := by unfold In64; omega)) rfl (WR_k [6, 9, 30, 33, 34, 35, 36] rfl m10011110000)) (WAs_nil))
  have m10011000000 : WA Tryz.prog 41 2 ops 8 #[true, false, false, true, true, false, false, false, false, false, false] ⟨[(6, .ptr 1 0), (9, num i), (30, .own 0), (33, .own 0), (34, num i)], [some (.row 4 1 M.length (boolsP M)), some (.cells 22 [.own 0])]⟩ (fun s => s.σ = [some (.row 4 1 M.length (boolsP ((M.set (2 * i) true).set (2 * i + 1) true))), some (.cells 22 [.own 0])]) := by
    subst hops
    refine WA_step 1 [5] (by kernel_rfl) ?_
    exact WAs_cons rfl rfl (WR_v (y_a rfl) rfl (WR_k [6, 9, 30, 31, 33, 34] rfl m11011000000)) (WAs_cons rfl rfl (WR_v (y_ar rfl (hc := show (2 : Int) * (i : Int) = ((2 * i : Nat) : Int) by omega) (hn := by unfold In64; omega)) rfl (WR_k [6, 9, 30, 33, 34, 35] rfl m10011100000)) (WAs_nil))
  have m10010000000 : WA Tryz.prog 41 2 ops 9 #[true, false, false, true, false, false, false, false, false, false, false] ⟨[(6, .ptr 1 0), (9, num i), (30, .own 0), (33, .own 0)], [some (.row 4 1 M.length (boolsP M)), some (.cells 22 [.own 0])]⟩ (fun s => s.σ = [some (.row 4 1 M.length (boolsP ((M.set (2 * i) true).set (2 * i + 1) true))), some (.cells 22 [.own 0])]) := by
    subst hops
    refine WA_step 1 [4] (by kernel_rfl) ?_
    exact WAs_cons rfl rfl (WR_v (y_a rfl) rfl (WR_k [6, 9, 30, 31, 33] rfl m11010000000)) (WAs_cons rfl rfl (WR_v (y_a rfl) rfl (WR_k [6, 9, 30, 33, 34] rfl m10011000000)) (WAs_nil))
  have m10001110000 : WA Tryz.prog 41 2 ops 7 #[true, false, false, false, true, true, true, false, false, false, false] ⟨[(6, .ptr 1 0), (9, num i), (30, .own 0), (34, num i), (35, num ((2 * i : Nat) : Int)), (36, num ((2 * i + 1 : Nat) : Int))], [some (.row 4 1 M.length (boolsP M)), some (.cells 22 [.own 0])]⟩ (fun s => s.σ = [some (.row 4 1 M.length (boolsP ((M.set (2 * i) true).set (2 * i + 1) true))), some (.cells 22 [.own 0])]) := by
    subst hops
    refine WA_step 1 [3] (by kernel_rfl) ?_
    exact WAs_cons rfl rfl (WR_v (y_a rfl) rfl (WR_k [6, 9, 30, 31, 34, 35, 36] rfl m11001110000)) (WAs_cons rfl rfl (WR_v (y_a rfl) rfl (WR_k [6, 9, 30, 33, 34, 35, 36] rfl m10011110000)) (WAs_nil))
  have m10001100000 : WA Tryz.prog 41 2 ops 8 #[true, false, false, false, true, true, false, false, false, false, false] ⟨[(6, .ptr 1 0), (9, num i), (30, .own 0), (34, num i), (35, num ((2 * i : Nat) : Int))], [some (.row 4 1 M.length (boolsP M)), some (.cells 22 [.own 0])]⟩ (fun s => s.σ = [some (.row 4 1 M.length (boolsP ((M.set (2 * i) true).set (2 * i + 1) true))), some (.cells 22 [.own 0])]) := by
    subst hops
    refine WA_step 1 [3, 6] (by kernel_rfl) ?_
    exact WAs_cons rfl rfl (WR_v (y_a rfl) rfl (WR_k [6, 9, 30, 31, 34, 35] rfl m11001100000)) (WAs_cons rfl rfl (WR_v (y_a rfl) rfl (WR_k [6, 9, 30, 33, 34, 35] rfl m10011100000)) (WAs_cons rfl rfl (WR_v (y_ar rfl (hc := show ((2 * i : Nat) : Int) + 1 = ((2 * i + 1 : Nat) : Int) by omega) (hn := by unfold In64; omega)) rfl (WR_k [6, 9, 30, 34, 35, 36] rfl m10001110000)) (WAs_nil)))
  have m10001000000 : WA Tryz.prog 41 2 ops 9 #[true, false, false, false, true, false, false, false, false, false, false] ⟨[(6, .ptr 1 0), (9, num i), (30, .own 0), (34, num i)], [some (.row 4 1 M.length (boolsP M)), some (.cells 22 [.own 0])]⟩ (fun s => s.σ = [some (.row 4 1 M.length (boolsP ((M.set (2 * i) true).set (2 * i + 1) true))), some (.cells 22 [.own 0])]) := by
    subst hops
    refine WA_step 1 [3, 5] (by kernel_rfl) ?_
    exact WAs_cons rfl rfl (WR_v (y_a rfl) rfl (WR_k [6, 9, 30, 31, 34] rfl m11001000000)) (WAs_cons rfl rfl (WR_v (y_a rfl) rfl (WR_k [6, 9, 30, 33, 34] rfl m10011000000)) (WAs_cons rfl rfl (WR_v (y_ar rfl (hc := show (2 : Int) * (i : Int) = ((2 * i : Nat) : Int) by omega) (hn := by unfold In64; omega)) rfl (WR_k [6, 9, 30, 34, 35] rfl m10001100000)) (WAs_nil)))
  have m10000000000 : WA Tryz.prog 41 2 ops 10 #[true, false, false, false, false, false, false, false, false, false, false] ⟨[(6, .ptr 1 0), (9, num i), (30, .own 0)], [some (.row 4 1 M.length (boolsP M)), some (.cells 22 [.own 0])]⟩ (fun s => s.σ = [some (.row 4 1 M.length (boolsP ((M.set (2 * i) true).set (2 * i + 1) true))), some (.cells 22 [.own 0])]) := by
    subst hops
    refine WA_step 1 [3, 4] (by kernel_rfl) ?_
    exact WAs_cons rfl rfl (WR_v (y_a rfl) rfl (WR_k [6, 9, 30, 31] rfl m11000000000)) (WAs_cons rfl rfl (WR_v (y_a rfl) rfl (WR_k [6, 9, 30, 33] rfl m10010000000)) (WAs_cons rfl rfl (WR_v (y_a rfl) rfl (WR_k [6, 9, 30, 34] rfl m10001000000)) (WAs_nil)))
  have m01111110000 : WA Tryz.prog 41 2 ops 5 #[false, true, true, true, true, true, true, false, false, false, false] ⟨[(6, .ptr 1 0), (9, num i), (31, num i), (32, num ((2 * i : Nat) : Int)), (33, .own 0), (34, num i), (35, num ((2 * i : Nat) : Int)), (36, num ((2 * i + 1 : Nat) : Int))], [some (.row 4 1 M.length (boolsP M)), some (.cells 22 [.own 0])]⟩ (fun s => s.σ = [some (.row 4 1 M.length (boolsP ((M.set (2 * i) true).set (2 * i + 1) true))), some (.cells 22 [.own 0])]) := by
    subst hops
    refine WA_step 0 [] (by kernel_rfl) ?_
    exact WAs_cons rfl rfl (WR_v (y_a rfl) rfl (WR_k [6, 9, 30, 31, 32, 33, 34, 35, 36] rfl m11111110000)) (WAs_nil)
  have m01111100000 : WA Tryz.prog 41 2 ops 6 #[false, true, true, true, true, true, false, false, false, false, false] ⟨[(6, .ptr 1 0), (9, num i), (31, num i), (32, num ((2 * i : Nat) : Int)), (33, .own 0), (34, num i), (35, num ((2 * i : Nat) : Int))], [some (.row 4 1 M.length (boolsP M)), some (.cells 22 [.own 0])]⟩ (fun s => s.σ = [some (.row 4 1 M.length (boolsP ((M.set (2 * i) true).set (2 * i + 1) true))), some (.cells 22 [.own 0])]) := by
    subst hops
    refine WA_step 0 [6] (by kernel_rfl) ?_
    exact WAs_cons rfl rfl (WR_v (y_a rfl) rfl (WR_k [6, 9, 30, 31, 32, 33, 34, 35] rfl m11111100000)) (WAs_cons rfl rfl (WR_v (y_ar rfl (hc := show ((2 * i : Nat) : Int) + 1 = ((2 * i + 1 : Nat) : Int) by omega) (hn := by unfold In64; omega)) rfl (WR_k [6, 9, 31, 32, 33, 34, 35, 36] rfl m01111110000)) (WAs_nil))
  have m01111000000 : WA Tryz.prog 41 2 ops 7 #[false, true, true, true, true, false, false, false, false, false, false] ⟨[(6, .ptr 1 0), (9, num i), (31, num i), (32, num ((2 * i : Nat) : Int)), (33, .own 0), (34, num i)], [some (.row 4 1 M.length (boolsP M)), some (.cells 22 [.own 0])]⟩ (fun s => s.σ = [some (.row 4 1 M.length (boolsP ((M.set (2 * i) true).set (2 * i + 1) true))), some (.cells 22 [.own 0])]) := by
    subst hops
    refine WA_step 0 [5] (by kernel_rfl) ?_
    exact WAs_cons rfl rfl (WR_v (y_a rfl) rfl (WR_k [6, 9, 30, 31, 32, 33, 34] rfl m11111000000)) (WAs_cons rfl rfl (WR_v (y_ar rfl (hc := show (2 : Int) * (i : Int) = ((2 * i : Nat) : Int) by omega) (hn := by unfold In64; omega)) rfl (WR_k [6, 9, 31, 32, 33, 34, 35] rfl m01111100000)) (WAs_nil))
  have m01110000000 : WA Tryz.prog 41 2 ops 8 #[false, true, true, true, false, false, false, false, false, false, false] ⟨[(6, .ptr 1 0), (9, num i), (31, num i), (32, num ((2 * i : Nat) : Int)), (33, .own 0)], [some (.row 4 1 M.length (boolsP M)), some (.cells 22 [.own 0])]⟩ (fun s => s.σ = [some (.row 4 1 M.length (boolsP ((M.set (2 * i) true).set (2 * i + 1) true))), some (.cells 22 [.own 0])]) := by
    subst hops
    refine WA_step 0 [4] (by kernel_rfl) ?_
    exact WAs_cons rfl rfl (WR_v (y_a rfl) rfl (WR_k [6, 9, 30, 31, 32, 33] rfl m11110000000)) (WAs_cons rfl rfl (WR_v (y_a rfl) rfl (WR_k [6, 9, 31, 32, 33, 34] rfl m01111000000)) (WAs_nil))
  have m01101110000 : WA Tryz.prog 41 2 ops 6 #[false, true, true, false, true, true, true, false, false, false, false] ⟨[(6, .ptr 1 0), (9, num i), (31, num i), (32, num ((2 * i : Nat) : Int)), (34, num i), (35, num ((2 * i : Nat) : Int)), (36, num ((2 * i + 1 : Nat) : Int))], [some (.row 4 1 M.length (boolsP M)), some (.cells 22 [.own 0])]⟩ (fun s => s.σ = [some (.row 4 1 M.length (boolsP ((M.set (2 * i) true).set (2 * i + 1) true))), some (.cells 22 [.own 0])]) := by
    subst hops
    refine WA_step 0 [3] (by kernel_rfl) ?_
    exact WAs_cons rfl rfl (WR_v (y_a rfl) rfl (WR_k [6, 9, 30, 31, 32, 34, 35, 36] rfl m11101110000)) (WAs_cons rfl rfl (WR_v (y_a rfl) rfl (WR_k [6, 9, 31, 32, 33, 34, 35, 36] rfl m01111110000)) (WAs_nil))
  have m01101100000 : WA Tryz.prog 41 2 ops 7 #[false, true, true, false, true, true, false, false, false, false, false] ⟨[(6, .ptr 1 0), (9, num i), (31, num i), (32, num ((2 * i : Nat) : Int)), (34, num i), (35, num ((2 * i : Nat) : Int))], [some (.row 4 1 M.length (boolsP M)), some (.cells 22 [.own 0])]⟩ (fun s => s.σ = [some (.row 4 1 M.length (boolsP ((M.set (2 * i) true).set (2 * i + 1) true))), some (.cells 22 [.own 0])]) := by
    subst hops
    refine WA_step 0 [3, 6] (by kernel_rfl) ?_
    exact WAs_cons rfl rfl (WR_v (y_a rfl) rfl (WR_k [6, 9, 30, 31, 32, 34, 35] rfl m11101100000)) (WAs_cons rfl rfl (WR_v (y_a rfl) rfl (WR_k [6, 9, 31, 32, 33, 34, 35] rfl m01111100000)) (WAs_cons rfl rfl (WR_v (y_ar rfl (hc := show ((2 * i : Nat) : Int) + 1 = ((2 * i + 1 : Nat) : Int) by omega) (hn := by unfold In64; omega)) rfl (WR_k [6, 9, 31, 32, 34, 35, 36] rfl m01101110000)) (WAs_nil)))
  have m01101000000 : WA Tryz.prog 41 2 ops 8 #[false, true, true, false, true, false, false, false, false, false, false] ⟨[(6, .ptr 1 0), (9, num i), (31, num i), (32, num ((2 * i : Nat) : Int)), (34, num i)], [some (.row 4 1 M.length (boolsP M)), some (.cells 22 [.own 0])]⟩ (fun s => s.σ = [some (.row 4 1 M.length (boolsP ((M.set (2 * i) true).set (2 * i + 1) true))), some (.cells 22 [.own 0])]) := by
    subst hops
    refine WA_step 0 [3, 5] (by kernel_rfl) ?_
    exact WAs_cons rfl rfl (WR_v (y_a rfl) rfl (WR_k [6, 9, 30, 31, 32, 34] rfl m11101000000)) (WAs_cons rfl rfl (WR_v (y_a rfl) rfl (WR_k [6, 9, 31, 32, 33, 34] rfl m01111000000)) (WAs_cons rfl rfl (WR_v (y_ar rfl (hc := show (2 : Int) * (i : Int) = ((2 * i : Nat) : Int) by omega) (hn := by unfold In64; omega)) rfl (WR_k [6, 9, 31, 32, 34, 35] rfl m01101100000)) (WAs_nil)))
  have m01100000000 : WA Tryz.prog 41 2 ops 9 #[false, true, true, false, false, false, false, false, false, false, false] ⟨[(6, .ptr 1 0), (9, num i), (31, num i), (32, num ((2 * i : Nat) : Int))], [some (.row 4 1 M.length (boolsP M)), some (.cells 22 [.own 0])]⟩ (fun s => s.σ = [some (.row 4 1 M.length (boolsP ((M.set (2 * i) true).set (2 * i + 1) true))), some (.cells 22 [.own 0])]) := by
    subst hops
    refine WA_step 0 [3, 4] (by kernel_rfl) ?_
    exact WAs_cons rfl rfl (WR_v (y_a rfl) rfl (WR_k [6, 9, 30, 31, 32] rfl m11100000000)) (WAs_cons rfl rfl (WR_v (y_a rfl) rfl (WR_k [6, 9, 31, 32, 33] rfl m01110000000)) (WAs_cons rfl rfl (WR_v (y_a rfl) rfl (WR_k [6, 9, 31, 32, 34] rfl m01101000000)) (WAs_nil)))
  have m01011110000 : WA Tryz.prog 41 2 ops 6 #[false, true, false, true, true, true, true, false, false, false, false] ⟨[(6, .ptr 1 0), (9, num i), (31, num i), (33, .own 0), (34, num i), (35, num ((2 * i : Nat) : Int)), (36, num ((2 * i + 1 : Nat) : Int))], [some (.row 4 1 M.length (boolsP M)), some (.cells 22 [.own 0])]⟩ (fun s => s.σ = [some (.row 4 1 M.length (boolsP ((M.set (2 * i) true).set (2 * i + 1) true))), some (.cells 22 [.own 0])]) := by
    subst hops
    refine WA_step 0 [2] (by kernel_rfl) ?_
    exact WAs_cons rfl rfl (WR_v (y_a rfl) rfl (WR_k [6, 9, 30, 31, 33, 34, 35, 36] rfl m11011110000)) (WAs_cons rfl rfl (WR_v (y_ar rfl (hc := show (2 : Int) * (i : Int) = ((2 * i : Nat) : Int) by omega) (hn := by unfold In64; omega)) rfl (WR_k [6, 9, 31, 32, 33, 34, 35, 36] rfl m01111110000)) (WAs_nil))
  have m01011100000 : WA Tryz.prog 41 2 ops 7 #[false, true, false, true, true, true, false, false, false, false, false] ⟨[(6, .ptr 1 0), (9, num i), (31, num i), (33, .own 0), (34, num i), (35, num ((2 * i : Nat) : Int))], [some (.row 4 1 M.length (boolsP M)), some (.cells 22 [.own 0])]⟩ (fun s => s.σ = [some (.row 4 1 M.length (boolsP ((M.set (2 * i) true).set (2 * i + 1) true))), some (.cells 22 [.own 0])]) := by
    subst hops
    refine WA_step 0 [2, 6] (by kernel_rfl) ?_
    exact WAs_cons rfl rfl (WR_v (y_a rfl) rfl (WR_k [6, 9, 30, 31, 33, 34, 35] rfl m11011100000)) (WAs_cons rfl rfl (WR_v (y_ar rfl (hc := show (2 : Int) * (i : Int) = ((2 * i : Nat) : Int) by omega) (hn := by unfold In64; omega)) rfl (WR_k [6, 9, 31, 32, 33, 34, 35] rfl m01111100000)) (WAs_cons rfl rfl (WR_v (y_ar rfl (hc := show ((2 * i : Nat) : Int) + 1 = ((2 * i + 1 : Nat) : Int) by omega) (hn := by unfold In64; omega)) rfl (WR_k [6, 9, 31, 33, 34, 35, 36] rfl m01011110000)) (WAs_nil)))
  have m01011000000 : WA Tryz.prog 41 2 ops 8 #[false, true, false, true, true, false, false, false, false, false, false] ⟨[(6, .ptr 1 0), (9, num i), (31, num i), (33, .own 0), (34, num i)], [some (.row 4 1 M.length (boolsP M)), some (.cells 22 [.own 0])]⟩ (fun s => s.σ = [some (.row 4 1 M.length (boolsP ((M.set (2 * i) true).set (2 * i + 1) true))), some (.cells 22 [.own 0])]) := by
    subst hops
    refine WA_step 0 [2, 5] (by kernel_rfl) ?_
    exact WAs_cons rfl rfl (WR_v (y_a rfl) rfl (WR_k [6, 9, 30, 31, 33, 34] rfl m11011000000)) (WAs_cons rfl rfl (WR_v (y_ar rfl (hc := show (2 : Int) * (i : Int) = ((2 * i : Nat) : Int) by omega) (hn := by unfold In64; omega)) rfl (WR_k [6, 9, 31, 32, 33, 34] rfl m01111000000)) (WAs_cons rfl rfl (WR_v (y_ar rfl (hc := show (2 : Int) * (i : Int) = ((2 * i : Nat) : Int) by omega) (hn := by unfold In64; omega)) rfl (WR_k [6, 9, 31, 33, 34, 35] rfl m01011100000)) (WAs_nil)))
  have m01010000000 : WA Tryz.prog 41 2 ops 9 #[false, true, false, true, false, false, false, false, false, false, false] ⟨[(6, .ptr 1 0), (9, num i), (31, num i), (33, .own 0)], [some (.row 4 1 M.length (boolsP M)), some (.cells 22 [.own 0])]⟩ (fun s => s.σ = [some (.row 4 1 M.length (boolsP ((M.set (2 * i) true).set (2 * i + 1) true))), some (.cells 22 [.own 0])]) := by
    subst hops
    refine WA_step 0 [2, 4] (by kernel_rfl) ?_
    exact WAs_cons rfl rfl (WR_v (y_a rfl) rfl (WR_k [6, 9, 30, 31, 33] rfl m11010000000)) (WAs_cons rfl rfl (WR_v (y_ar rfl (hc := show (2 : Int) * (i : Int) = ((2 * i : Nat) : Int) by omega) (hn := by unfold In64; omega)) rfl (WR_k [6, 9, 31, 32, 33] rfl m01110000000)) (WAs_cons rfl rfl (WR_v (y_a rfl) rfl (WR_k [6, 9, 31, 33, 34] rfl m01011000000)) (WAs_nil)))
  have m01001110000 : WA Tryz.prog 41 2 ops 7 #[false, true, false, false, true, true, true, false, false, false, false] ⟨[(6, .ptr 1 0), (9, num i), (31, num i), (34, num i), (35, num ((2 * i : Nat) : Int)), (36, num ((2 * i + 1 : Nat) : Int))], [some (.row 4 1 M.length (boolsP M)), some (.cells 22 [.own 0])]⟩ (fun s => s.σ = [some (.row 4 1 M.length (boolsP ((M.set (2 * i) true).set (2 * i + 1) true))), some (.cells 22 [.own 0])]) := by
    subst hops
    refine WA_step 0 [2, 3] (by kernel_rfl) ?_
    exact WAs_cons rfl rfl (WR_v (y_a rfl) rfl (WR_k [6, 9, 30, 31, 34, 35, 36] rfl m11001110000)) (WAs_cons rfl rfl (WR_v (y_ar rfl (hc := show (2 : Int) * (i : Int) = ((2 * i : Nat) : Int) by omega) (hn := by unfold In64; omega)) rfl (WR_k [6, 9, 31, 32, 34, 35, 36] rfl m01101110000)) (WAs_cons rfl rfl (WR_v (y_a rfl) rfl (WR_k [6, 9, 31, 33, 34, 35, 36] rfl m01011110000)) (WAs_nil)))
  have m01001100000 : WA Tryz.prog 41 2 ops 8 #[false, true, false, false, true, true, false, false, false, false, false] ⟨[(6, .ptr 1 0), (9, num i), (31, num i), (34, num i), (35, num ((2 * i : Nat) : Int))], [some (.row 4 1 M.length (boolsP M)), some (.cells 22 [.own 0])]⟩ (fun s => s.σ = [some (.row 4 1 M.length (boolsP ((M.set (2 * i) true).set (2 * i + 1) true))), some (.cells 22 [.own 0])]) := by
    subst hops
    refine WA_step 0 [2, 3, 6] (by kernel_rfl) ?_
    exact WAs_cons rfl rfl (WR_v (y_a rfl) rfl (WR_k [6, 9, 30, 31, 34, 35] rfl m11001100000)) (WAs_cons rfl rfl (WR_v (y_ar rfl (hc := show (2 : Int) * (i : Int) = ((2 * i : Nat) : Int) by omega) (hn := by unfold In64; omega)) rfl (WR_k [6, 9, 31, 32, 34, 35] rfl m01101100000)) (WAs_cons rfl rfl (WR_v (y_a rfl) rfl (WR_k [6, 9, 31, 33, 34, 35] rfl m01011100000)) (WAs_cons rfl rfl (WR_v (y_ar rfl (hc := show ((2 * i : Nat) : Int) + 1 = ((2 * i + 1 : Nat) : Int) by omega) (hn := by unfold In64; omega)) rfl (WR_k [6, 9, 31, 34, 35, 36] rfl m01001110000)) (WAs_nil))))
  have m01001000000 : WA Tryz.prog 41 2 ops 9 #[false, true, false, false, true, false, false, false, false, false, false] ⟨[(6, .ptr 1 0), (9, num i), (31, num i), (34, num i)], [some (.row 4 1 M.length (boolsP M)), some (.cells 22 [.own 0])]⟩ (fun s => s.σ = [some (.row 4 1 M.length (boolsP ((M.set (2 * i) true).set (2 * i + 1) true))), some (.cells 22 [.own 0])]) := by
    subst hops
    refine WA_step 0 [2, 3, 5] (by kernel_rfl) ?_
    exact WAs_cons rfl rfl (WR_v (y_a rfl) rfl (WR_k [6, 9, 30, 31, 34] rfl m11001000000)) (WAs_cons rfl rfl (WR_v (y_ar rfl (hc := show (2 : Int) * (i : Int) = ((2 * i : Nat) : Int) by omega) (hn := by unfold In64; omega)) rfl (WR_k [6, 9, 31, 32, 34] rfl m01101000000)) (WAs_cons rfl rfl (WR_v (y_a rfl) rfl (WR_k [6, 9, 31, 33, 34] rfl m01011000000)) (WAs_cons rfl rfl (WR_v (y_ar rfl (hc := show (2 : Int) * (i : Int) = ((2 * i : Nat) : Int) by omega) (hn := by unfold In64; omega)) rfl (WR_k [6, 9, 31, 34, 35] rfl m01001100000)) (WAs_nil))))
  have m01000000000 : WA Tryz.prog 41 2 ops 10 #[false, true, false, false, false, false, false, false, false, false, false] ⟨[(6, .ptr 1 0), (9, num i), (31, num i)], [some (.row 4 1 M.length (boolsP M)), some (.cells 22 [.own 0])]⟩ (fun s => s.σ = [some (.row 4 1 M.length (boolsP ((M.set (2 * i) true).set (2 * i + 1) true))), some (.cells 22 [.own 0])]) := by
    subst hops
    refine WA_step 0 [2, 3, 4] (by kernel_rfl) ?_
    exact WAs_cons rfl rfl (WR_v (y_a rfl) rfl (WR_k [6, 9, 30, 31] rfl m11000000000)) (WAs_cons rfl rfl (WR_v (y_ar rfl (hc := show (2 : Int) * (i : Int) = ((2 * i : Nat) : Int) by omega) (hn := by unfold In64; omega)) rfl (WR_k [6, 9, 31, 32] rfl m01100000000)) (WAs_cons rfl rfl (WR_v (y_a rfl) rfl (WR_k [6, 9, 31, 33] rfl m01010000000)) (WAs_cons rfl rfl (WR_v (y_a rfl) rfl (WR_k [6, 9, 31, 34] rfl m01001000000)) (WAs_nil))))
  have m00011110000 : WA Tryz.prog 41 2 ops 7 #[false, false, false, true, true, true, true, false, false, false, false] ⟨[(6, .ptr 1 0), (9, num i), (33, .own 0), (34, num i), (35, num ((2 * i : Nat) : Int)), (36, num ((2 * i + 1 : Nat) : Int))], [some (.row 4 1 M.length (boolsP M)), some (.cells 22 [.own 0])]⟩ (fun s => s.σ = [some (.row 4 1 M.length (boolsP ((M.set (2 * i) true).set (2 * i + 1) true))), some (.cells 22 [.own 0])]) := by
    subst hops
    refine WA_step 0 [1] (by kernel_rfl) ?_
    exact WAs_cons rfl rfl (WR_v (y_a rfl) rfl (WR_k [6, 9, 30, 33, 34, 35, 36] rfl m10011110000)) (WAs_cons rfl rfl (WR_v (y_a rfl) rfl (WR_k [6, 9, 31, 33, 34, 35, 36] rfl m01011110000)) (WAs_nil))
  have m00011100000 : WA Tryz.prog 41 2 ops 8 #[false, false, false, true, true, true, false, false, false, false, false] ⟨[(6, .ptr 1 0), (9, num i), (33, .own 0), (34, num i), (35, num ((2 * i : Nat) : Int))], [some (.row 4 1 M.length (boolsP M)), some (.cells 22 [.own 0])]⟩ (fun s => s.σ = [some (.row 4 1 M.length (boolsP ((M.set (2 * i) true).set (2 * i + 1) true))), some (.cells 22 [.own 0])]) := by
    subst hops
    refine WA_step 0 [1, 6] (by kernel_rfl) ?_
    exact WAs_cons rfl rfl (WR_v (y_a rfl) rfl (WR_k [6, 9, 30, 33, 34, 35] rfl m10011100000)) (WAs_cons rfl rfl (WR_v (y_a rfl) rfl (WR_k [6, 9, 31, 33, 34, 35] rfl m01011100000)) (WAs_cons rfl rfl (WR_v (y_ar rfl (hc := show ((2 * i : Nat) : Int) + 1 = ((2 * i + 1 : Nat) : Int) by omega) (hn := by unfold In64; omega)) rfl (WR_k [6, 9, 33, 34, 35, 36] rfl m00011110000)) (WAs_nil)))
  have m00011000000 : WA Tryz.prog 41 2 ops 9 #[false, false, false, true, true, false, false, false, false, false, false] ⟨[(6, .ptr 1 0), (9, num i), (33, .own 0), (34, num i)], [some (.row 4 1 M.length (boolsP M)), some (.cells 22 [.own 0])]⟩ (fun s => s.σ = [some (.row 4 1 M.length (boolsP ((M.set (2 * i) true).set (2 * i + 1) true))), some (.cells 22 [.own 0])]) := by
    subst hops
    refine WA_step 0 [1, 5] (by kernel_rfl) ?_
    exact WAs_cons rfl rfl (WR_v (y_a rfl) rfl (WR_k [6, 9, 30, 33, 34] rfl m10011000000)) (WAs_cons rfl rfl (WR_v (y_a rfl) rfl (WR_k [6, 9, 31, 33, 34] rfl m01011000000)) (WAs_cons rfl rfl (WR_v (y_ar rfl (hc := show (2 : Int) * (i : Int) = ((2 * i : Nat) : Int) by omega) (hn := by unfold In64; omega)) rfl (WR_k [6, 9, 33, 34, 35] rfl m00011100000)) (WAs_nil)))
  have m00010000000 : WA Tryz.prog 41 2 ops 10 #[false, false, false, true, false, false, false, false, false, false, false] ⟨[(6, .ptr 1 0), (9, num i), (33, .own 0)], [some (.row 4 1 M.length (boolsP M)), some (.cells 22 [.own 0])]⟩ (fun s => s.σ = [some (.row 4 1 M.length (boolsP ((M.set (2 * i) true).set (2 * i + 1) true))), some (.cells 22 [.own 0])]) := by
    subst hops
    refine WA_step 0 [1, 4] (by kernel_rfl) ?_
    exact WAs_cons rfl rfl (WR_v (y_a rfl) rfl (WR_k [6, 9, 30, 33] rfl m10010000000)) (WAs_cons rfl rfl (WR_v (y_a rfl) rfl (WR_k [6, 9, 31, 33] rfl m01010000000)) (WAs_cons rfl rfl (WR_v (y_a rfl) rfl (WR_k [6, 9, 33, 34] rfl m00011000000)) (WAs_nil)))
  have m00001110000 : WA Tryz.prog 41 2 ops 8 #[false, false, false, false, true, true, true, false, false, false, false] ⟨[(6, .ptr 1 0), (9, num i), (34, num i), (35, num ((2 * i : Nat) : Int)), (36, num ((2 * i + 1 : Nat) : Int))], [some (.row 4 1 M.length (boolsP M)), some (.cells 22 [.own 0])]⟩ (fun s => s.σ = [some (.row 4 1 M.length (boolsP ((M.set (2 * i) true).set (2 * i + 1) true))), some (.cells 22 [.own 0])]) := by
    subst hops
    refine WA_step 0 [1, 3] (by kernel_rfl) ?_
    exact WAs_cons rfl rfl (WR_v (y_a rfl) rfl (WR_k [6, 9, 30, 34, 35, 36] rfl m10001110000)) (WAs_cons rfl rfl (WR_v (y_a rfl) rfl (WR_k [6, 9, 31, 34, 35, 36] rfl m01001110000)) (WAs_cons rfl rfl (WR_v (y_a rfl) rfl (WR_k [6, 9, 33, 34, 35, 36] rfl m00011110000)) (WAs_nil)))
  have m00001100000 : WA Tryz.prog 41 2 ops 9 #[false, false, false, false, true, true, false, false, false, false, false] ⟨[(6, .ptr 1 0), (9, num i), (34, num i), (35, num ((2 * i : Nat) : Int))], [some (.row 4 1 M.length (boolsP M)), some (.cells 22 [.own 0])]⟩ (fun s => s.σ = [some (.row 4 1 M.length (boolsP ((M.set (2 * i) true).set (2 * i + 1) true))), some (.cells 22 [.own 0])]) := by
    subst hops
    refine WA_step 0 [1, 3, 6] (by kernel_rfl) ?_
    exact WAs_cons rfl rfl (WR_v (y_a rfl) rfl (WR_k [6, 9, 30, 34, 35] rfl m10001100000)) (WAs_cons rfl rfl (WR_v (y_a rfl) rfl (WR_k [6, 9, 31, 34, 35] rfl m01001100000)) (WAs_cons rfl rfl (WR_v (y_a rfl) rfl (WR_k [6, 9, 33, 34, 35] rfl m00011100000)) (WAs_cons rfl rfl (WR_v (y_ar rfl (hc := show ((2 * i : Nat) : Int) + 1 = ((2 * i + 1 : Nat) : Int) by omega) (hn := by unfold In64; omega)) rfl (WR_k [6, 9, 34, 35, 36] rfl m00001110000)) (WAs_nil))))
  have m00001000000 : WA Tryz.prog 41 2 ops 10 #[false, false, false, false, true, false, false, false, false, false, false] ⟨[(6, .ptr 1 0), (9, num i), (34, num i)], [some (.row 4 1 M.length (boolsP M)), some (.cells 22 [.own 0])]⟩ (fun s => s.σ = [some (.row 4 1 M.length (boolsP ((M.set (2 * i) true).set (2 * i + 1) true))), some (.cells 22 [.own 0])]) := by
    subst hops
    refine WA_step 0 [1, 3, 5] (by kernel_rfl) ?_
    exact WAs_cons rfl rfl (WR_v (y_a rfl) rfl (WR_k [6, 9, 30, 34] rfl m10001000000)) (WAs_cons rfl rfl (WR_v (y_a rfl) rfl (WR_k [6, 9, 31, 34] rfl m01001000000)) (WAs_cons rfl rfl (WR_v (y_a rfl) rfl (WR_k [6, 9, 33, 34] rfl m00011000000)) (WAs_cons rfl rfl (WR_v (y_ar rfl (hc := show (2 : Int) * (i : Int) = ((2 * i : Nat) : Int) by omega) (hn := by unfold In64; omega)) rfl (WR_k [6, 9, 34, 35] rfl m00001100000)) (WAs_nil))))
  have m00000000000 : WA Tryz.prog 41 2 ops 11 #[false, false, false, false, false, false, false, false, false, false, false] ⟨[(6, .ptr 1 0), (9, num i)], [some (.row 4 1 M.length (boolsP M)), some (.cells 22 [.own 0])]⟩ (fun s => s.σ = [some (.row 4 1 M.length (boolsP ((M.set (2 * i) true).set (2 * i + 1) true))), some (.cells 22 [.own 0])]) := by
    subst hops
    refine WA_step 0 [1, 3, 4] (by kernel_rfl) ?_
    exact WAs_cons rfl rfl (WR_v (y_a rfl) rfl (WR_k [6, 9, 30] rfl m10000000000)) (WAs_cons rfl rfl (WR_v (y_a rfl) rfl (WR_k [6, 9, 31] rfl m01000000000)) (WAs_cons rfl rfl (WR_v (y_a rfl) rfl (WR_k [6, 9, 33] rfl m00010000000)) (WAs_cons rfl rfl (WR_v (y_a rfl) rfl (WR_k [6, 9, 34] rfl m00001000000)) (WAs_nil))))
  subst hops
  exact m00000000000
end PW
end Go.Proofs.YtbpgndbjbaoolaaGreat

/- Package component: within, links, Union, Mask. -/
namespace Go.Proofs.YtbpgndbjbaoolaaGreat
set_option linter.unusedVariables false
set_option linter.unusedSimpArgs false
namespace PW
open Go.RowKit Go.Shelf Reg Mem Net Rng

attribute [local go_sem] Oper.semAt_some

def compP (k x : Int) : List PV := [num k, num x]
def compV (k x : Int) : PV := .agg (compP k x)
instance (k x : Int) : IsPureL (compP k x) := by unfold compP; infer_instance
instance (k x : Int) : IsPure (compV k x) := by unfold compV; infer_instance
def compB (T : Topo) (k x : Int) : Bool := if k = 1 then decide (0 ≤ x) && decide (x < (T.links.length : Int)) else if k = 2 then nodeB T x else if k = 3 then decide (1 ≤ x) && decide (x ≤ 64) else false
set_option maxRecDepth 10000 in
set_option maxHeartbeats 1000000 in
theorem cwithin_can (T : Topo) (k x : Int) : Can Tryz.prog 151 [topoV T, compV k x] (· = flag (compB T k x)) := by
  obtain ⟨q1, h1⟩ : ∃ q, decide (0 ≤ x) = q := ⟨_, rfl⟩
  obtain ⟨q2, h2⟩ : ∃ q, decide (x < (T.links.length : Int)) = q := ⟨_, rfl⟩
  obtain ⟨q3, h3⟩ : ∃ q, decide (1 ≤ x) = q := ⟨_, rfl⟩
  obtain ⟨q4, h4⟩ : ∃ q, decide (x ≤ 64) = q := ⟨_, rfl⟩
  have hB : compB T k x = if k = 1 then (q1 && q2) else if k = 2 then nodeB T x else if k = 3 then (q3 && q4) else false := by unfold compB; rw [h1, h2, h3, h4]
  rw [hB]
  refine can_of Tryz.func151 rfl Tryz.ntmps151 rfl ?_
  refine W_cs (.a 3 rfl <| .k [2, 3] rfl) ?_
  refine W_seq ?_
  refine W_cs (.a 2 rfl <| .k [2, 3, 6] rfl) ?_
  refine W_block ?_
  refine W_cs (.a 2 rfl <| .k [2, 3, 6, 7] rfl) ?_
  refine W_cond rfl (fun hk1 => ?_) (fun hk1 => ?_)
  · have k1 : k = 1 := tt hk1
    refine W_csK 4 (.raw (.bool (q1 && q2))) [] rfl ?_ ?_
    · refine .a 2 rfl <| .v (y_q rfl (h1)) rfl <| .a 1 rfl <| ?_
      cases q1
      · exact .a 8 rfl <| .k [4] rfl
      · exact .a 5 rfl <| .v (y_q rfl (h2)) rfl <| .a 2 rfl <| .k [4] rfl
    refine W_ret ?_
    exact ⟨_, _, ResL.of rfl, Pur.pure, by rw [if_pos k1]; rfl⟩
  · have k1 : ¬ k = 1 := ff hk1
    refine W_cs (.a 2 rfl <| .k [2, 3, 6, 20] rfl) ?_
    refine W_cond rfl (fun hk2 => ?_) (fun hk2 => ?_)
    · have k2 : k = 2 := tt hk2
      refine W_cs (.a 3 rfl <| .c rfl (node_can T x) rfl <| .a 1 rfl <| .k [4] rfl) ?_
      refine W_ret ?_
      exact ⟨_, _, ResL.of rfl, Pur.pure, by rw [if_neg k1, if_pos k2]; rfl⟩
    · have k2 : ¬ k = 2 := ff hk2
      refine W_cs (.a 2 rfl <| .k [3, 26] rfl) ?_
      refine W_cond rfl (fun hk3 => ?_) (fun hk3 => ?_)
      · have k3 : k = 3 := tt hk3
        refine W_csK 4 (.raw (.bool (q3 && q4))) [] rfl ?_ ?_
        · refine .a 2 rfl <| .v (y_q rfl (h3)) rfl <| .a 1 rfl <| ?_
          cases q3
          · exact .a 5 rfl <| .k [4] rfl
          · exact .a 2 rfl <| .v (y_q rfl (h4)) rfl <| .a 2 rfl <| .k [4] rfl
        refine W_ret ?_
        exact ⟨_, _, ResL.of rfl, Pur.pure, by rw [if_neg k1, if_neg k2, if_pos k3]; rfl⟩
      · have k3 : ¬ k = 3 := ff hk3
        refine W_skip ?_
        refine W_cs (.a 1 rfl <| .k [4] rfl) ?_
        refine W_ret ?_
        exact ⟨_, _, ResL.of rfl, Pur.pure, by rw [if_neg k1, if_neg k2, if_neg k3]; rfl⟩
set_option maxRecDepth 100000 in
set_option maxHeartbeats 1000000 in
theorem links_in (c0 c1 c2 : Value) (k x : Int) (n : Nat) (w : World) : CallsIn Fence.wide n Tryz.prog 134 #[.agg #[c0, c1, c2], .agg #[.int .i64 k, .int .i64 x]] w fun e w' =>
    e = .returned (.func (.func 159) #[] #[.pointer (some ⟨w.heap.size, 0, none⟩), .pointer (some ⟨w.heap.size + 1, 0, none⟩)]) ∧ w' = (w.alloc (.cells #[c0, c1, c2] 25)).alloc (.cells #[.int .i64 k, .int .i64 x] 27) := by
  refine callsIn_of_wp Tryz.func134 rfl trivial ?_ rfl
  simp only [Tryz.ntmps134, List.size_toArray, List.length_cons, List.length_nil, Nat.reduceAdd, Nat.reduceSub, Array.replicate_succ, Array.replicate_zero, List.push_toArray, List.append_toArray, List.nil_append, List.cons_append]
  gi_wp2
  go_ret
  exact ⟨rfl, rfl⟩
/-- The cells of the links. -/
def LnkAt (W : World) (b off : Nat) (L : List Lnk) : Prop := ∀ i, i < L.length → W.cell? ⟨b, off + i * 7, none⟩ = some (.int .i64 (lnk L i).a) ∧ W.cell? ⟨b, off + i * 7 + 1, none⟩ = some (.int .i64 (lnk L i).b) ∧ W.cell? ⟨b, off + i * 7 + 2, none⟩ = some (.int .i64 (lnk L i).c0) ∧ W.cell? ⟨b, off + i * 7 + 3, none⟩ = some (.int .i64 (lnk L i).c1) ∧ W.cell? ⟨b, off + i * 7 + 4, none⟩ = some (.int .i64 (lnk L i).cap) ∧ W.cell? ⟨b, off + i * 7 + 5, none⟩ = some (.int .i64 (lnk L i).delay) ∧ W.cell? ⟨b, off + i * 7 + 6, none⟩ = some (.int .i64 (lnk L i).grp)
set_option maxRecDepth 100000 in
set_option maxHeartbeats 1000000 in
/-- No links, no rounds. -/
theorem links0_in (n l Bt Bc cap : Nat) (ad : Option Addr) (J : List (Rng.Ix 0) → World → Prop) (W : World) (hBt : W.cell? ⟨Bt, 2, none⟩ = some (.slice ad 0 cap)) (h0 : J [] W) :
    CallsIn Fence.wide n Tryz.prog 159 #[.func (.yield l) #[] #[], .pointer (some ⟨Bt, 0, none⟩), .pointer (some ⟨Bc, 0, none⟩)] W fun e W' => (∃ v, e = .returned v) ∧ J [] W' := by
  refine callsIn_of_wp Tryz.func159 rfl trivial ?_ rfl
  simp only [Tryz.ntmps159, List.size_toArray, List.length_cons, List.length_nil, Nat.reduceAdd, Nat.reduceSub, Array.replicate_succ, Array.replicate_zero, List.push_toArray, List.append_toArray, List.nil_append, List.cons_append]
  gi_wp2
  gi_loopw [10] (fun i wr => i = .int .i64 0 ∧ J [] wr) (fun _ _ => 0)
  case atStart => exact ⟨rfl, h0⟩
  case round =>
    obtain ⟨rfl, hJs⟩ := hrel
    gi_wp2
    go_end0
    exact ⟨⟨_, rfl⟩, hJs⟩
/-- The links of a topology's value. -/
def LnkV (n₁ G : Nat) (W : World) (v : Value) (L : List Lnk) : Prop := (∃ ad cap, v = .slice ad 0 cap ∧ L = []) ∨ ∃ b off cap, v = .slice (some ⟨b, off, none⟩) L.length cap ∧ b < n₁ ∧ b ≠ G ∧ LnkAt W b off L
theorem links_stops (T : Topo) (k x : Int) (hk : k = 1 ∨ k = 2 ∨ k = 3) (hl : T.links.length ≤ 1000) (n Bt Bc G : Nat) (hn : 1 ≤ n) (v : Value) (w : World) (hBtl : Bt < w.heap.size) (hBcl : Bc < w.heap.size) (hBcG : Bc ≠ G)
    (hBt : w.cell? ⟨Bt, 2, none⟩ = some v) (hBk : w.cell? ⟨Bc, 0, none⟩ = some (.int .i64 k)) (hBx : w.cell? ⟨Bc, 1, none⟩ = some (.int .i64 x)) (hv : LnkV w.heap.size G w v T.links) :
    SeqStopsK Fence.wide n Tryz.prog 159 #[.pointer (some ⟨Bt, 0, none⟩), .pointer (some ⟨Bc, 0, none⟩)] (fun i : Rng.Ix T.links.length => #[Value.int .i64 (i.1 : Int)]) (Kp G w.heap.size) (fun ys => ys = got (partB k x T.links) T.links.length T.links.length) (fun _ => True) T.links.length w := fun l J Jx W hW hA _ hY h0 => by
  have kt := (hW.cell (p := ⟨Bt, 2, none⟩) hBtl).trans hBt
  have kk := (hW.cell (p := ⟨Bc, 0, none⟩) hBcl).trans hBk
  have kx := (hW.cell (p := ⟨Bc, 1, none⟩) hBcl).trans hBx
  rcases hv with ⟨ad, cap, rfl, hL⟩ | ⟨b, off, cap, rfl, hb, hbG, hc⟩
  · generalize T.links = L at *
    subst hL
    exact (links0_in n l Bt Bc cap ad J W kt h0).mono fun e W' h => ⟨h.1, .inl ⟨_, rfl, h.2⟩⟩
  · have hc2 : LnkAt W b off T.links := fun i hi => by
      obtain ⟨a0, a1, a2, a3, a4, a5, a6⟩ := hc i hi
      exact ⟨(hW.cell (p := ⟨b, _, none⟩) hb).trans a0, (hW.cell (p := ⟨b, _, none⟩) hb).trans a1, (hW.cell (p := ⟨b, _, none⟩) hb).trans a2, (hW.cell (p := ⟨b, _, none⟩) hb).trans a3, (hW.cell (p := ⟨b, _, none⟩) hb).trans a4, (hW.cell (p := ⟨b, _, none⟩) hb).trans a5, (hW.cell (p := ⟨b, _, none⟩) hb).trans a6⟩
    have fin : ∀ {e : Ending} {W' : World}, (∃ v, e = .returned v) ∧ ((∃ ys, ys = got (partB k x T.links) T.links.length T.links.length ∧ J ys W') ∨ (∃ pre, Jx pre W')) → (∃ v, e = .returned v) ∧ ((∃ xs, xs = got (partB k x T.links) T.links.length T.links.length ∧ J xs W') ∨ (∃ pre, True ∧ Jx pre W')) := fun h => ⟨h.1, h.2.imp id fun ⟨pre, h⟩ => ⟨pre, trivial, h⟩⟩
    rcases hk with rfl | rfl | rfl
    · exact (links1_in Fence.wide n trivial rfl hn l Bt Bc G w.heap.size b off cap T.links x hl hb hbG hBcl hBcG J Jx hY W kt kk kx hc2 hW.size hA h0).mono fun e W' h => fin h
    · exact (links2_in Fence.wide n trivial rfl hn l Bt Bc G w.heap.size b off cap T.links x hl hb hbG hBcl hBcG J Jx hY W kt kk kx hc2 hW.size hA h0).mono fun e W' h => fin h
    · exact (links3_in Fence.wide n trivial rfl hn l Bt Bc G w.heap.size b off cap T.links x hl hb hbG hBcl hBcG J Jx hY W kt kk kx hc2 hW.size hA h0).mono fun e W' h => fin h
end PW
end Go.Proofs.YtbpgndbjbaoolaaGreat
