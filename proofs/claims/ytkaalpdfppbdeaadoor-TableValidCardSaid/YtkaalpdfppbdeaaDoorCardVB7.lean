/- Texts of the proof, part 7. -/
import Derived.Lib.AppendStr
import Derived.Lib.UnsafeStr
import Derived.Lib.Builder
import Derived.Shelf.Strings.Builder1
import Derived.Shelf.Strings.Builder2
import Derived.Shelf.Strings.OnBuilder
import Derived.Shelf.Strings.BuilderF
import Derived.Shelf.Strings.BuilderK
import Derived.Shelf.Strings.Builder2Cap
import Derived.Shelf.Strconv.Itoa0
import Derived.Shelf.Strconv.Itoa1
import Derived.Shelf.LaysM
import Derived.Shelf.Strconv.Itoa2
import Derived.Shelf.Strconv.Itoa3
import Derived.Shelf.Strings.BuilderCap
import Derived.Shelf.Slices.Equal
import Derived.Shelf.Slices.Empties2
import Derived.Test.YtkaalpdfppbdeaaDoorProg
import Derived.Test.YtkaalpdfppbdeaaDoorCardVB6
/- The contract of package dag's next arcs. -/
namespace Go.Proofs.YtkaalpdfppbdeaaDoor
set_option linter.unusedVariables false
set_option linter.unusedSimpArgs false
namespace PW
open Go.RowKit Reg Mem Net

/-- Whether the arc a is a next arc of a node with distance dn towards d, by the distances L. -/
def passB (T : Topo) (D : List Bool) (L : List Int) (dn : Int) (d a : Nat) : Bool :=
  !(downN D a || decide (L.getD (headN T a).toNat 0 < 0) || (decide (headN T a ≠ (d : Int)) && overN T (headN T a).toNat)) && decide (L.getD (headN T a).toNat 0 + costN T a = dn)
def passL (T : Topo) (D : List Bool) (L : List Int) (dn : Int) (d : Nat) (l : List Int) : List Int := l.filter fun a => passB T D L dn d a.toNat

set_option maxRecDepth 10000 in
set_option maxHeartbeats 1000000 in
theorem dnext_can (T : Topo) (D : List Bool) (L lv : List Int) (n d : Nat) (hv : validB T = true) (hf : fitsB T D = true) (hL : (L.length : Int) = T.nodes) (hub : ∀ x ∈ L, -1 ≤ x ∧ x ≤ 4194240) (hn : (n : Int) < T.nodes) (hd : (d : Int) < T.nodes)
    (hlv : ∀ a ∈ lv, 0 ≤ a ∧ a < 2 * (T.links.length : Int)) (hll : lv.length ≤ 100000) :
    Can Tryd.prog 60 [topoV T, boolsV D, intsV L, intsV lv, num n, num d] (· = intsV (if n = d ∨ L.getD n 0 < 0 then [] else passL T D L (L.getD n 0) d lv)) := by
  have hbd := valid_bd hv
  have hS := sound_of hv
  have hnL : n < L.length := by omega
  refine can_of Tryd.func60 rfl Tryd.ntmps60 rfl ?_
  refine W_cs (.a 2 rfl <| .k [1, 2, 3, 4, 5, 6] rfl) ?_
  refine W_cs (.a 1 rfl <| .k [1, 2, 3, 4, 5, 6, 13] rfl) ?_
  obtain ⟨q1, hq1⟩ : ∃ q, decide ((n : Int) = (d : Int)) = q := ⟨_, rfl⟩
  obtain ⟨q2, hq2⟩ : ∃ q, decide (L.getD n 0 < 0) = q := ⟨_, rfl⟩
  refine W_seq ?_
  refine W_csK 26 (.raw (.bool (q1 || q2))) [1, 2, 3, 4, 5, 6, 13] rfl ?_ ?_
  · refine .a 2 rfl <| .v (y_q rfl (hq1)) rfl <| .a 1 rfl <| ?_
    cases q1
    · exact .a 2 rfl <| .v (y_ix (n) rfl) rfl <| .v (y_ld rfl (ints_get L n hnL)) rfl <| .v (y_q rfl (hq2)) rfl <| .a 1 rfl <| .k [26, 1, 2, 3, 4, 5, 6, 13] rfl
    · exact .a 6 rfl <| .k [26, 1, 2, 3, 4, 5, 6, 13] rfl
  refine W_cond (b := q1 || q2) rfl (fun hc => ?_) (fun hc => ?_)
  · have : n = d ∨ L.getD n 0 < 0 := by
      rcases Bool.or_eq_true_iff.1 hc with h | h
      · rw [h] at hq1; exact .inl (by have := of_decide_eq_true hq1; omega)
      · rw [h] at hq2; exact .inr (of_decide_eq_true hq2)
    rw [if_pos this]
    refine W_cs (.a 2 rfl <| .k [12] rfl) ?_
    refine W_ret ⟨_, _, .cons (.tmp rfl) .nil, Pur.nils, rfl⟩
  · obtain ⟨c1, c2⟩ := Bool.or_eq_false_iff.1 hc
    rw [c1] at hq1
    rw [c2] at hq2
    have hnd : ¬ (n = d ∨ L.getD n 0 < 0) := by
      have := of_decide_eq_false hq1
      have := of_decide_eq_false hq2
      omega
    rw [if_neg hnd]
    refine W_skip ?_
    refine W_seq ?_
    refine W_cs (.a 3 rfl <| .k [1, 2, 4, 5, 6, 13, 28, 29, 30] rfl) ?_
    refine W_adopt 13 3 1 rfl ?_
    refine W_block ?_
    refine W_sub (.cons (k := 1) rfl <| .cons (k := 2) rfl <| .cons (k := 4) rfl <| .cons (k := 5) rfl <| .cons (k := 6) rfl <| .cons (k := 13) rfl <| .cons (k := 28) rfl <| .cons (k := 29) rfl <| .cons (k := 30) rfl <| Sub.nil _) ?_
    refine W_loop (fun r s => ∃ i, i ≤ lv.length ∧ r = lv.length - i ∧ s = ⟨[(1, boolsV D), (2, intsV L), (4, num n), (5, num d), (6, .pin (topoP T) 0), (13, .own 0), (28, intsV lv), (29, num lv.length), (30, num i)], [some (.row 3 1 (passL T D L (L.getD n 0) d (lv.take i)).length (intsP (passL T D L (L.getD n 0) d (lv.take i))))]⟩) lv.length ⟨0, by omega, by omega, ?_⟩ ?_
    · simp only [List.take_zero, passL, List.filter_nil]
      rfl
    · rintro r s ⟨i, hi, rfl, rfl⟩
      refine W_cs (.a 1 rfl <| .k [1, 2, 4, 5, 6, 13, 28, 29, 30, 31] rfl) ?_
      refine W_seq ?_
      refine W_cond (b := decide ((i : Int) < (lv.length : Int))) rfl (fun hc => ?_) (fun hc => ?_)
      · have hlt : i < lv.length := by have := of_decide_eq_true hc; omega
        refine W_skip ?_
        obtain ⟨a, ha⟩ : ∃ a : Nat, lv.getD i 0 = (a : Int) := Int.eq_ofNat_of_zero_le (hlv _ (getD_mem hlt)).1
        have ham : a < 2 * T.links.length := by
          have := (hlv (lv.getD i 0) (getD_mem hlt)).2
          omega
        have hstep : passL T D L (L.getD n 0) d (lv.take (i + 1)) = passL T D L (L.getD n 0) d (lv.take i) ++ (if passB T D L (L.getD n 0) d a then [(a : Int)] else []) := by
          unfold passL
          rw [List.take_add_one, List.filter_append, show lv[i]? = some (a : Int) by rw [← ha, List.getD_eq_getElem?_getD]; simp [hlt]]
          congr 1
          simp only [Option.toList_some, List.filter_cons, List.filter_nil, Int.toNat_natCast]
        have hlen : (passL T D L (L.getD n 0) d (lv.take i)).length ≤ 100000 := Nat.le_trans (List.length_filter_le _ _) (by rw [List.length_take]; omega)
        obtain ⟨hd0, hhN⟩ := hS.head a ham
        obtain ⟨h, hh⟩ := Int.eq_ofNat_of_zero_le hd0
        have hhL : h < L.length := by omega
        have hub1 : -1 ≤ L.getD h 0 ∧ L.getD h 0 ≤ 4194240 := hub _ (getD_mem hhL)
        have hcb := hS.cost a ham
        have hDl : D.length = 0 ∨ a < D.length := by simp only [fitsB, decide_eq_true_eq] at hf; omega
        have hov : T.over.length = 0 ∨ h < T.over.length := by have := hbd.2.2.2; omega
        refine W_seq ?_
        refine W_block ?_
        refine W_cs (.v (y_ix (i) rfl) rfl <| .v (y_ld rfl ((ints_get lv i hlt).trans (by rw [ha]))) rfl <| .a 1 rfl <| .k [1, 2, 4, 5, 6, 13, 15, 28, 29, 30] rfl) ?_
        refine W_cs (.a 2 rfl <| .c rfl (hh ▸ head_can T a ham (by omega)) rfl <| .a 1 rfl <| .k [1, 2, 4, 5, 6, 13, 15, 16, 28, 29, 30] rfl) ?_
        obtain ⟨p1, hp1⟩ : ∃ q, downN D a = q := ⟨_, rfl⟩
        obtain ⟨p2, hp2⟩ : ∃ q, decide (L.getD h 0 < 0) = q := ⟨_, rfl⟩
        obtain ⟨p3, hp3⟩ : ∃ q, decide ((h : Int) ≠ (d : Int)) = q := ⟨_, rfl⟩
        obtain ⟨p4, hp4⟩ : ∃ q, overN T h = q := ⟨_, rfl⟩
        obtain ⟨p5, hp5⟩ : ∃ q, decide (L.getD h 0 + costN T a = L.getD n 0) = q := ⟨_, rfl⟩
        have hpass : passB T D L (L.getD n 0) d a = (!((p1 || p2) || (p3 && p4)) && p5) := by
          unfold passB; rw [hh, Int.toNat_natCast, hp1, hp2, hp3, hp4, hp5]
        refine W_seq ?_
        refine W_csK 56 (.raw (.bool ((p1 || p2) || (p3 && p4)))) [1, 2, 4, 5, 6, 13, 15, 16, 28, 29, 30] rfl ?_ ?_
        · refine .a 2 rfl <| .c rfl (hp1 ▸ down_can D a hDl) rfl <| .a 1 rfl <| ?_
          cases p1
          · refine .a 2 rfl <| .v (y_ix (h) rfl) rfl <| .v (y_ld rfl (ints_get L h hhL)) rfl <| .v (y_q rfl (hp2)) rfl <| .a 2 rfl <| ?_
            cases p2
            · refine .a 2 rfl <| .v (y_q rfl (hp3)) rfl <| .a 1 rfl <| ?_
              cases p3
              · exact .a 5 rfl <| .k [56, 1, 2, 4, 5, 6, 13, 15, 16, 28, 29, 30] rfl
              · exact .a 2 rfl <| .c rfl (hp4 ▸ over_can T h hov) rfl <| .a 2 rfl <| .k [56, 1, 2, 4, 5, 6, 13, 15, 16, 28, 29, 30] rfl
            · exact .a 9 rfl <| .k [56, 1, 2, 4, 5, 6, 13, 15, 16, 28, 29, 30] rfl
          · exact .a 16 rfl <| .k [56, 1, 2, 4, 5, 6, 13, 15, 16, 28, 29, 30] rfl
        refine W_cond (b := (p1 || p2) || (p3 && p4)) rfl (fun hc => ?_) (fun hc => ?_)
        · rw [hc] at hpass
          refine W_exit ?_
          refine W_chain (.v (y_ar rfl) rfl <| .a 1 rfl <| .k [1, 2, 4, 5, 6, 13, 28, 29, 30] rfl) ?_
          refine ⟨lv.length - (i + 1), by omega, i + 1, by omega, rfl, ?_⟩
          rw [hstep, hpass]
          simp only [Bool.not_true, Bool.false_and, Bool.false_eq_true, if_false, List.append_nil]
          rfl
        · rw [hc] at hpass
          refine W_skip ?_
          refine W_drs mixed (by kernel_rfl) (.a 2 rfl <| .v [57, 58] (y_ix (h) rfl) rfl rfl <| .v [59] (y_ld rfl (ints_get L h hhL)) rfl rfl <| .a 2 rfl <| .v [61, 62] (y_c rfl (cost_can T a ham)) rfl rfl <| .v [60, 63] (y_ar rfl) rfl rfl <| .a 2 rfl <| .v [65, 66] (y_ix (n) rfl) rfl rfl <| .v [67] (y_ld rfl (ints_get L n hnL)) rfl rfl <| .v [64, 68] (y_q rfl (hp5)) rfl rfl <| .k [1, 2, 4, 5, 6, 13, 15, 28, 29, 30, 69] rfl) ?_
          refine W_cond (b := p5) rfl (fun hc5 => ?_) (fun hc5 => ?_)
          · rw [hc5] at hpass
            refine W_region ?_
            refine WR_a 3 rfl <| WR_l (l_append rfl (fok.rk.get rfl) rfl rfl rfl rfl (by unfold maxLen; omega)) rfl <| WR_a 1 rfl ?_
            refine WR_ren [1] (.c 1 <| .c 2 <| .c 4 <| .c 5 <| .c 6 <| .c 13 <| .c 28 <| .c 29 <| .c 30 <| .nil) (.kept rfl (.rowP rfl (intsP_snoc _ _)) <| .nil) rfl rfl (WR_nil ?_)
            refine W_chain (.v (y_ar rfl) rfl <| .a 1 rfl <| .k [1, 2, 4, 5, 6, 13, 28, 29, 30] rfl) ?_
            refine ⟨lv.length - (i + 1), by omega, i + 1, by omega, rfl, ?_⟩
            rw [hstep, hpass]
            simp only [Bool.not_false, Bool.true_and, if_true, List.length_append, List.length_singleton]
            rfl
          · rw [hc5] at hpass
            refine W_skip ?_
            refine W_chain (.v (y_ar rfl) rfl <| .a 1 rfl <| .k [1, 2, 4, 5, 6, 13, 28, 29, 30] rfl) ?_
            refine ⟨lv.length - (i + 1), by omega, i + 1, by omega, rfl, ?_⟩
            rw [hstep, hpass]
            simp only [Bool.not_false, Bool.true_and, Bool.false_eq_true, if_false, List.append_nil]
            rfl
      · have : i = lv.length := by have := of_decide_eq_false hc; omega
        subst this
        rw [List.take_length]
        refine W_exit ?_
        refine W_cs (.a 2 rfl <| .k [12] rfl) ?_
        exact W_ret ⟨_, _, .cons (.tmp rfl) .nil, Pur.ownL rfl PurL.pure, rfl⟩
end PW
end Go.Proofs.YtkaalpdfppbdeaaDoor

/- Package spf: check, Dist; package dag: Next; package graph: Out. -/
namespace Go.Proofs.YtkaalpdfppbdeaaDoor
set_option linter.unusedVariables false
set_option linter.unusedSimpArgs false
namespace PW
open Go.RowKit Reg Mem Net Heap

instance (rs : List (List Int)) : IsOne (rowsV rs) := by unfold rowsV; infer_instance
instance (T : Topo) : IsOneL (topoP T) := by unfold topoP; infer_instance
def chkE (T : Topo) (D : List Bool) (ns : List Int) : Int := if validB T && fitsB T D then (if ns.all (nodeB T) then 0 else 2) else 1

set_option maxRecDepth 10000 in
set_option maxHeartbeats 1000000 in
theorem check_can (T : Topo) (D : List Bool) (ns : List Int) (hns : ns.length ≤ 1000) : Can Tryd.prog 83 [topoV T, boolsV D, intsV ns] (· = num (chkE T D ns)) := by
  refine can_of Tryd.func83 rfl Tryd.ntmps83 rfl ?_
  refine W_cs (.a 2 rfl <| .k [1, 2, 3] rfl) ?_
  refine W_seq ?_
  obtain ⟨q1, hq1⟩ : ∃ q, validB T = q := ⟨_, rfl⟩
  obtain ⟨q2, hq2⟩ : ∃ q, fitsB T D = q := ⟨_, rfl⟩
  refine W_csK 17 (.raw (.bool ((!q1) || (!q2)))) [2, 3] rfl ?_ ?_
  · refine .a 1 rfl <| .c rfl (hq1 ▸ valid_can T) rfl <| .a 2 rfl <| ?_
    cases q1
    · exact .a 5 rfl <| .k [17, 2, 3] rfl
    · exact .a 2 rfl <| .c rfl (hq2 ▸ fits_can T D (by have := links_le hq1; omega)) rfl <| .a 2 rfl <| .k [17, 2, 3] rfl
  refine W_cond rfl (fun hc => ?_) (fun hc => ?_)
  · have hch : chkE T D ns = 1 := by
      unfold chkE
      rw [hq1, hq2, if_neg]
      revert hc
      cases q1 <;> cases q2 <;> simp
    refine W_cs (.a 1 rfl <| .k [6] rfl) ?_
    refine W_ret ?_
    exact ⟨_, _, ResL.of rfl, Pur.pure, by rw [hch]; rfl⟩
  · have hok : (validB T && fitsB T D) = true := by
      rw [hq1, hq2]
      revert hc
      cases q1 <;> cases q2 <;> simp
    refine W_skip ?_
    refine W_seq ?_
    refine W_cs (.a 3 rfl <| .k [3, 18, 19, 20] rfl) ?_
    refine W_block ?_
    refine W_k [3, 18, 19, 20] rfl ?_
    refine W_loop (fun r s => ∃ i, i ≤ ns.length ∧ (ns.take i).all (nodeB T) = true ∧ r = ns.length - i ∧ s = ⟨[(3, .pin (topoP T) 0), (18, intsV ns), (19, num ns.length), (20, num i)], []⟩) ns.length ⟨0, by omega, by simp, by omega, rfl⟩ ?_
    rintro r s ⟨i, hi, hall, rfl, rfl⟩
    refine W_cs (.a 1 rfl <| .k [3, 18, 19, 20, 21] rfl) ?_
    refine W_seq ?_
    refine W_cond rfl (fun hc => ?_) (fun hc => ?_)
    · have hlt : i < ns.length := by have := of_decide_eq_true hc; omega
      refine W_skip ?_
      refine W_seq ?_
      refine W_block ?_
      refine W_cs (.v (y_ix (i) rfl) rfl <| .v (y_ld rfl (ints_get ns i hlt)) rfl <| .a 1 rfl <| .k [3, 8, 18, 19, 20] rfl) ?_
      refine W_cs (.a 2 rfl <| .c rfl (node_can T _) rfl <| .a 1 rfl <| .k [3, 18, 19, 20, 27] rfl) ?_
      refine W_cond rfl (fun hc => ?_) (fun hc => ?_)
      · have hch : chkE T D ns = 2 := by
          unfold chkE
          rw [if_pos hok, if_neg]
          intro h
          have h1 := List.all_eq_true.1 h _ (getD_mem (d := 0) hlt)
          rw [h1] at hc
          cases hc
        refine W_cs (.a 1 rfl <| .k [6] rfl) ?_
        refine W_ret ?_
        exact ⟨_, _, ResL.of rfl, Pur.pure, by rw [hch]; rfl⟩
      · have hall' : (ns.take (i + 1)).all (nodeB T) = true := by
          rw [take_step ns i 0 hlt, List.all_append, hall]
          have : nodeB T (ns.getD i 0) = true := by revert hc; cases nodeB T (ns.getD i 0) <;> simp
          simp only [List.all_cons, this, List.all_nil, Bool.and_self]
        refine W_skip ?_
        refine W_chain (.v (y_ar rfl) rfl <| .a 1 rfl <| .k [3, 18, 19, 20] rfl) ?_
        exact ⟨ns.length - (i + 1), by omega, i + 1, by omega, hall', rfl, rfl⟩
    · have hie : i = ns.length := by have := of_decide_eq_false hc; omega
      refine W_exit ?_
      refine W_cs (.a 1 rfl <| .k [6] rfl) ?_
      refine W_ret ?_
      refine ⟨_, _, ResL.of rfl, Pur.pure, ?_⟩
      unfold chkE
      rw [if_pos hok, if_pos (by rw [hie, List.take_length] at hall; exact hall)]
      rfl

set_option maxRecDepth 10000 in
set_option maxHeartbeats 1000000 in
theorem dist1_can (rs : List (List Int)) (i : Nat) (hi : i < rs.length) : Can Tryd.prog 85 ([num i] ++ [.pin [rowsV rs] 0]) (· = intsV (rs.getD i [])) := by
  refine can_of Tryd.func85 rfl Tryd.ntmps85 rfl ?_
  refine W_cs (.a 1 rfl <| .k [0, 1] rfl) ?_
  refine W_cs (.a 2 rfl <| .v (y_ix (i) rfl) rfl <| .v (y_ld rfl ((show (rs.map intsV)[i]? = some (intsV (rs.getD i [])) by simp [hi]))) rfl <| .a 1 rfl <| .k [3] rfl) ?_
  refine W_ret ?_
  exact ⟨_, _, ResL.of rfl, Pur.pure, rfl⟩
set_option maxRecDepth 10000 in
set_option maxHeartbeats 1000000 in
theorem dist2_can (T : Topo) (a : Nat) (ha : a < 2 * T.links.length) : Can Tryd.prog 86 ([num a] ++ [.pin (topoP T) 0]) (· = num (tailN T a)) := by
  refine can_of Tryd.func86 rfl Tryd.ntmps86 rfl ?_
  refine W_cs (.a 1 rfl <| .k [0, 1] rfl) ?_
  refine W_cs (.a 2 rfl <| .c rfl (tail_can T a ha) rfl <| .a 1 rfl <| .k [3] rfl) ?_
  refine W_ret ?_
  exact ⟨_, _, ResL.of rfl, Pur.pure, rfl⟩

/-- Numbers, or an error. -/
def intsE (e : Int) (l : List Int) : PV := .tuple [intsV (if e = 0 then l else []), num e]
instance (e : Int) (l : List Int) : IsPure (intsE e l) := by unfold intsE; infer_instance
set_option maxRecDepth 10000 in
set_option maxHeartbeats 1000000 in
theorem dist_can (T : Topo) (D : List Bool) (d : Int) : Can Tryd.prog 74 [topoV T, boolsV D, num d] (· = intsE (chkE T D [d]) (distL T D d.toNat false)) := by
  refine can_of Tryd.func74 rfl Tryd.ntmps74 rfl ?_
  refine W_cs (.a 3 rfl <| .k [1, 2, 3] rfl) ?_
  refine W_seq ?_
  refine W_cs (.a 4 rfl <| .c rfl (check_can T D [d] (by simp)) rfl <| .a 1 rfl <| .k [1, 2, 3, 8] rfl) ?_
  refine W_cs (.a 2 rfl <| .k [1, 2, 3, 8, 17] rfl) ?_
  refine W_cond rfl (fun hc => ?_) (fun hc => ?_)
  · have he : chkE T D [d] ≠ 0 := of_decide_eq_true hc
    refine W_cs (.a 3 rfl <| .k [6, 7] rfl) ?_
    refine W_ret ?_
    exact ⟨_, _, ResL.of rfl, Pur.tupleL (PurL.cons Pur.nils (PurL.cons Pur.pure PurL.nil)), by unfold intsE; rw [if_neg he]; rfl⟩
  · have he : chkE T D [d] = 0 := by have := of_decide_eq_false hc; omega
    have hok : (validB T && fitsB T D) = true ∧ nodeB T d = true := by
      unfold chkE at he
      split at he
      · rename_i h1
        split at he
        · rename_i h2; exact ⟨h1, by simpa using h2⟩
        · omega
      · omega
    obtain ⟨hvf, hnd⟩ := hok
    obtain ⟨hv, hf⟩ := Bool.and_eq_true_iff.1 hvf
    have hd : 0 ≤ d ∧ d < T.nodes := by simpa [nodeB] using hnd
    obtain ⟨n, rfl⟩ := Int.eq_ofNat_of_zero_le hd.1
    have hS := sound_of hv
    refine W_skip ?_
    refine W_rs ?_
    refine WR_a 1 rfl <| WR_c rfl (entering_can T hv) rfl <| WR_a 2 rfl <| WR_k [1, 2, 3, 9] rfl ?_
    refine W_rs ?_
    refine WR_a 3 rfl <| WR_v (y_makeFunc rfl rfl) rfl <| WR_a 4 rfl <| WR_k [10] rfl ?_
    refine W_freeze (.cons 10 rfl (Pur.ptrL rfl (PurL.cons Pur.pure <| PurL.cons Pur.pure <| PurL.cons Pur.pure <| PurL.cons Pur.pure <| PurL.cons Pur.pure <| PurL.cons (Pur.funcL (PurL.cons (Pur.ptrL rfl (PurL.cons Pur.pure PurL.nil)) PurL.nil)) <| PurL.cons Pur.pure PurL.nil)) .nil) ?_
    refine W_cs (.a 1 rfl <| .c rfl (run_can T D n false 85 86 [.pin [rowsV (rowsL (headN T) T.nodes.toNat (2 * T.links.length))] 0] [.pin (topoP T) 0] hv hf hd.2 (by kernel_rfl) (by kernel_rfl) (fun i hi => by have h := dist1_can (rowsL (headN T) T.nodes.toNat (2 * T.links.length)) i (by rw [rowsL_len]; omega); rw [rowsL_get _ _ _ _ (by omega)] at h; exact h) (fun a ha => dist2_can T a ha)) rfl <| .a 2 rfl <| .k [6, 7] rfl) ?_
    refine W_ret ?_
    exact ⟨_, _, ResL.of rfl, Pur.pure, by unfold intsE; rw [if_pos he, he]; rfl⟩
end PW
end Go.Proofs.YtkaalpdfppbdeaaDoor

/- Package graph: Out; package dag: dists, Next. -/
namespace Go.Proofs.YtkaalpdfppbdeaaDoor
set_option linter.unusedVariables false
set_option linter.unusedSimpArgs false
namespace PW
open Go.RowKit Reg Mem Net Heap

set_option maxRecDepth 10000 in
set_option maxHeartbeats 1000000 in
theorem out_can (T : Topo) (hl : T.links.length ≤ 256) (n : Int) : Can Tryd.prog 31 [topoV T, num n] (· = intsV (outL T n)) := by
  refine can_of Tryd.func31 rfl Tryd.ntmps31 rfl ?_
  refine W_cs (.a 2 rfl <| .k [1, 2] rfl) ?_
  refine W_cs (.a 1 rfl <| .k [1, 2, 5] rfl) ?_
  refine W_adopt 5 3 1 rfl ?_
  refine W_seq ?_
  refine W_cs (.a 1 rfl <| .c rfl (arcs_can T (by omega)) rfl <| .a 1 rfl <| .k [1, 2, 5, 8, 9] rfl) ?_
  refine W_block ?_
  refine W_k [1, 2, 5, 8, 9] rfl ?_
  refine W_loop (fun r s => ∃ k, k ≤ 2 * T.links.length ∧ r = 2 * T.links.length - k ∧ s = ⟨[(1, num n), (2, .pin (topoP T) 0), (5, .own 0), (8, num (2 * (T.links.length : Int))), (9, num k)], [some (.row 3 1 (outTo T n k).length (intsP (outTo T n k)))]⟩) (2 * T.links.length) ⟨0, by omega, by omega, rfl⟩ ?_
  rintro r s ⟨k, hk, rfl, rfl⟩
  refine W_cs (.a 1 rfl <| .k [1, 2, 5, 8, 9, 10] rfl) ?_
  refine W_seq ?_
  refine W_cond rfl (fun hc => ?_) (fun hc => ?_)
  · have hlt : k < 2 * T.links.length := by have := of_decide_eq_true hc; omega
    have hlen := outTo_len T n k
    refine W_skip ?_
    refine W_seq ?_
    refine W_block ?_
    refine W_cs (.a 2 rfl <| .k [1, 2, 5, 6, 8, 9] rfl) ?_
    refine W_cs (.a 2 rfl <| .c rfl (tail_can T k hlt) rfl <| .a 2 rfl <| .k [1, 2, 5, 6, 8, 9, 16] rfl) ?_
    refine W_cond rfl (fun hc => ?_) (fun hc => ?_)
    · have hst := outTo_yes T n k (by simpa using of_decide_eq_true hc)
      refine W_region ?_
      refine WR_a 3 rfl <| WR_l (l_append rfl (fok.rk.get rfl) rfl rfl rfl rfl (by unfold maxLen; omega)) rfl <| WR_a 1 rfl ?_
      refine WR_ren [1] (.c 1 <| .c 2 <| .c 5 <| .c 8 <| .c 9 <| .nil) (.kept rfl (.rowP rfl (intsP_snoc _ _)) <| .nil) rfl rfl (WR_nil ?_)
      refine W_chain (.v (y_ar rfl) rfl <| .a 1 rfl <| .k [1, 2, 5, 8, 9] rfl) ?_
      refine ⟨2 * T.links.length - (k + 1), by omega, k + 1, by omega, rfl, ?_⟩
      rw [hst]
      first
        | rfl
        | (simp only [List.length_append, List.length_singleton]; rfl)
    · have hst := outTo_no T n k (by simpa using of_decide_eq_false hc)
      refine W_skip ?_
      refine W_chain (.v (y_ar rfl) rfl <| .a 1 rfl <| .k [1, 2, 5, 8, 9] rfl) ?_
      refine ⟨2 * T.links.length - (k + 1), by omega, k + 1, by omega, rfl, ?_⟩
      rw [hst]
      first
        | rfl
        | (simp only [List.length_append, List.length_singleton]; rfl)
  · have hke : k = 2 * T.links.length := by have := of_decide_eq_false hc; omega
    subst hke
    refine W_exit ?_
    refine W_cs (.a 2 rfl <| .k [4] rfl) ?_
    refine W_ret ?_
    exact ⟨_, _, ResL.of rfl, Pur.ownL rfl PurL.pure, rfl⟩

def nodeE (T : Topo) (D : List Bool) (n d : Int) : Int := if chkE T D [d] = 0 then (if nodeB T n then 0 else 2) else chkE T D [d]
set_option maxRecDepth 10000 in
set_option maxHeartbeats 1000000 in
theorem dists_can (T : Topo) (D : List Bool) (n d : Int) : Can Tryd.prog 59 [topoV T, boolsV D, num n, num d] (· = intsE (nodeE T D n d) (distL T D d.toNat false)) := by
  refine can_of Tryd.func59 rfl Tryd.ntmps59 rfl ?_
  refine W_cs (.a 3 rfl <| .k [1, 2, 3, 4] rfl) ?_
  refine W_cs (.a 3 rfl <| .c rfl (dist_can T D d) rfl <| .a 5 rfl <| .k [2, 4, 10, 11] rfl) ?_
  refine W_seq ?_
  refine W_cs (.a 2 rfl <| .k [2, 4, 10, 11, 20] rfl) ?_
  refine W_cond rfl (fun hc => ?_) (fun hc => ?_)
  · have he : chkE T D [d] ≠ 0 := of_decide_eq_true hc
    refine W_cs (.a 3 rfl <| .k [8, 9] rfl) ?_
    refine W_ret ?_
    exact ⟨_, _, ResL.of rfl, Pur.tupleL (PurL.cons Pur.nils (PurL.cons Pur.pure PurL.nil)), by unfold intsE nodeE; rw [if_neg he, if_neg he]; rfl⟩
  · have he : chkE T D [d] = 0 := by have := of_decide_eq_false hc; omega
    refine W_skip ?_
    refine W_seq ?_
    refine W_cs (.a 2 rfl <| .c rfl (node_can T n) rfl <| .a 1 rfl <| .k [10, 25] rfl) ?_
    refine W_cond rfl (fun hc => ?_) (fun hc => ?_)
    · have hn : nodeB T n = false := by revert hc; cases nodeB T n <;> simp
      refine W_cs (.a 2 rfl <| .k [8, 9] rfl) ?_
      refine W_ret ?_
      exact ⟨_, _, ResL.of rfl, Pur.tupleL (PurL.cons Pur.nils (PurL.cons Pur.pure PurL.nil)), by unfold intsE nodeE; rw [if_pos he, hn]; rfl⟩
    · have hn : nodeB T n = true := by revert hc; cases nodeB T n <;> simp
      refine W_skip ?_
      refine W_cs (.a 3 rfl <| .k [8, 9] rfl) ?_
      refine W_ret ?_
      exact ⟨_, _, ResL.of rfl, Pur.pure, by unfold intsE nodeE; simp only [he, hn, if_true]; rfl⟩

theorem chkE_zero {T : Topo} {D : List Bool} {ns : List Int} (he : chkE T D ns = 0) : validB T = true ∧ fitsB T D = true ∧ ∀ n ∈ ns, nodeB T n = true := by
  unfold chkE at he
  split at he
  · rename_i h1
    split at he
    · rename_i h2
      obtain ⟨a, b⟩ := Bool.and_eq_true_iff.1 h1
      exact ⟨a, b, List.all_eq_true.1 h2⟩
    · omega
  · omega
theorem nodeE_zero {T : Topo} {D : List Bool} {n d : Int} (he : nodeE T D n d = 0) : validB T = true ∧ fitsB T D = true ∧ nodeB T n = true ∧ nodeB T d = true := by
  unfold nodeE at he
  split at he
  · rename_i h1
    obtain ⟨a, b, c⟩ := chkE_zero h1
    split at he
    · rename_i h2; exact ⟨a, b, h2, c d (by simp)⟩
    · omega
  · omega
theorem distL_bound {T : Topo} {D : List Bool} (hv : validB T = true) {d : Nat} {dir : Bool} (hd : (d : Int) < T.nodes) : ((distL T D d dir).length : Int) = T.nodes ∧ ∀ x ∈ distL T D d dir, -1 ≤ x ∧ x ≤ 4194240 := by
  have hS := sound_of hv
  have hI := distL_inv hS D dir hd
  refine ⟨hI.len, fun x hx => ?_⟩
  obtain ⟨i, hi, rfl⟩ := List.getElem_of_mem hx
  have hin : (i : Int) < T.nodes := by have := hI.len; omega
  have h1 := hI.ge i hin
  have h2 := hI.bnd i hin
  have h3 := cnt_le (distL T D d dir)
  have h4 := hS.nodes
  have h5 := hI.len
  rw [at_eq _ i hi] at h1 h2
  omega
/-- The next arcs of a node. -/
noncomputable def nextL (T : Topo) (D : List Bool) (n d : Nat) : List Int :=
  if n = d ∨ (distL T D d false).getD n 0 < 0 then [] else passL T D (distL T D d false) ((distL T D d false).getD n 0) d (outL T n)
theorem outL_mem {T : Topo} {n : Int} {a : Int} (h : a ∈ outL T n) : 0 ≤ a ∧ a < 2 * (T.links.length : Int) := by
  unfold outL outTo at h
  obtain ⟨b, hb, rfl⟩ := List.mem_map.1 h
  have := (List.mem_filter.1 hb).1
  have := List.mem_range.1 this
  simp; omega

set_option maxRecDepth 10000 in
set_option maxHeartbeats 1000000 in
theorem next_can (T : Topo) (D : List Bool) (n d : Int) : Can Tryd.prog 30 [topoV T, boolsV D, num n, num d] (· = intsE (nodeE T D n d) (nextL T D n.toNat d.toNat)) := by
  refine can_of Tryd.func30 rfl Tryd.ntmps30 rfl ?_
  refine W_cs (.a 3 rfl <| .k [1, 2, 3, 4] rfl) ?_
  refine W_cs (.a 4 rfl <| .c rfl (dists_can T D n d) rfl <| .a 5 rfl <| .k [1, 2, 3, 4, 10, 11] rfl) ?_
  refine W_seq ?_
  refine W_cs (.a 2 rfl <| .k [1, 2, 3, 4, 10, 11, 21] rfl) ?_
  refine W_cond rfl (fun hc => ?_) (fun hc => ?_)
  · have he : nodeE T D n d ≠ 0 := of_decide_eq_true hc
    refine W_cs (.a 3 rfl <| .k [8, 9] rfl) ?_
    refine W_ret ?_
    exact ⟨_, _, ResL.of rfl, Pur.tupleL (PurL.cons Pur.nils (PurL.cons Pur.pure PurL.nil)), by unfold intsE; rw [if_neg he]; rfl⟩
  · have he : nodeE T D n d = 0 := by have := of_decide_eq_false hc; omega
    rw [he]
    obtain ⟨hv, hf, hn, hd⟩ := nodeE_zero he
    rw [nodeB_iff] at hn hd
    obtain ⟨n, rfl⟩ := Int.eq_ofNat_of_zero_le hn.1
    obtain ⟨d, rfl⟩ := Int.eq_ofNat_of_zero_le hd.1
    have hll := links_le hv
    obtain ⟨hb1, hb2⟩ := distL_bound (D := D) hv (dir := false) hd.2
    refine W_skip ?_
    refine W_drs mixed (by kernel_rfl) (.a 5 rfl <| .v [26, 27] (y_c rfl (out_can T hll _)) rfl rfl <| .a 2 rfl <| .v [23, 24, 25, 28, 29, 30] (y_c rfl (dnext_can T D (distL T D d false) (outL T n) n d hv hf hb1 hb2 hn.2 hd.2 (fun a ha => outL_mem ha) (Nat.le_trans (outTo_len T n _) (by omega)))) rfl rfl <| .a 2 rfl <| .k [8, 9] rfl) ?_
    refine W_ret ?_
    exact ⟨_, _, ResL.of rfl, Pur.pure, rfl⟩
end PW
end Go.Proofs.YtkaalpdfppbdeaaDoor

/- Tables as plain data. -/
namespace Go.Proofs.YtkaalpdfppbdeaaDoor
set_option linter.unusedVariables false
set_option linter.unusedSimpArgs false
namespace PW
open Go.RowKit Reg Mem Net

structure Seg where
  kind : Int
  num : Int
deriving DecidableEq
structure Ent where
  arcs : List Int
  rep : Bool
  push : List Seg
structure Tab where
  node : Int
  ents : List Ent
  down : List Int
def segP (s : Seg) : List PV := [num s.kind, num s.num]
def segV (s : Seg) : PV := .agg (segP s)
def segsP (l : List Seg) : List PV := l.flatMap segP
def segsV (l : List Seg) : PV := .slice l.length (segsP l)
def entP (e : Ent) : List PV := [intsV e.arcs, flag e.rep, segsV e.push]
def entV (e : Ent) : PV := .agg (entP e)
def entsP (l : List Ent) : List PV := l.flatMap entP
def entsV (l : List Ent) : PV := .slice l.length (entsP l)
def tabP (t : Tab) : List PV := [num t.node, entsV t.ents, intsV t.down]
def tabV (t : Tab) : PV := .agg (tabP t)
def tabsP (l : List Tab) : List PV := l.flatMap tabP
def tabsV (l : List Tab) : PV := .slice l.length (tabsP l)
instance (s : Seg) : IsPureL (segP s) := by unfold segP; infer_instance
instance (s : Seg) : IsOneL (segP s) := by unfold segP; infer_instance
instance (s : Seg) : IsPure (segV s) := by unfold segV; infer_instance
instance (l : List Seg) : IsPureL (segsP l) := IsPureL.flatMap _ _ fun _ => inferInstance
instance (l : List Seg) : IsOneL (segsP l) := IsOneL.flatMap _ _ fun _ => inferInstance
instance (l : List Seg) : IsPure (segsV l) := by unfold segsV; infer_instance
instance (l : List Seg) : IsOne (segsV l) := by unfold segsV; infer_instance
instance (e : Ent) : IsPureL (entP e) := by unfold entP; infer_instance
instance (e : Ent) : IsOneL (entP e) := by unfold entP; infer_instance
instance (e : Ent) : IsPure (entV e) := by unfold entV; infer_instance
instance (l : List Ent) : IsPureL (entsP l) := IsPureL.flatMap _ _ fun _ => inferInstance
instance (l : List Ent) : IsOneL (entsP l) := IsOneL.flatMap _ _ fun _ => inferInstance
instance (l : List Ent) : IsPure (entsV l) := by unfold entsV; infer_instance
instance (l : List Ent) : IsOne (entsV l) := by unfold entsV; infer_instance
instance (t : Tab) : IsPureL (tabP t) := by unfold tabP; infer_instance
instance (t : Tab) : IsOneL (tabP t) := by unfold tabP; infer_instance
instance (t : Tab) : IsPure (tabV t) := by unfold tabV; infer_instance
instance (l : List Tab) : IsPureL (tabsP l) := IsPureL.flatMap _ _ fun _ => inferInstance
instance (l : List Tab) : IsOneL (tabsP l) := IsOneL.flatMap _ _ fun _ => inferInstance
instance (l : List Tab) : IsPure (tabsV l) := by unfold tabsV; infer_instance
instance (l : List Tab) : IsOne (tabsV l) := by unfold tabsV; infer_instance
theorem entsP_snoc (l : List Ent) (e : Ent) : entsP l ++ entP e = entsP (l ++ [e]) := by simp [entsP]
theorem tabsP_snoc (l : List Tab) (e : Tab) : tabsP l ++ tabP e = tabsP (l ++ [e]) := by simp [tabsP]
/-- Rows of values of several cells. -/
theorem flat_get {α : Type} (f : α → List PV) (s : Nat) (hf : ∀ a, (f a).length = s) : ∀ (l : List α) (i j : Nat) (a : α), l[i]? = some a → j < s → (l.flatMap f)[i * s + j]? = (f a)[j]?
  | [], i, j, a, h, _ => by simp at h
  | b :: l, 0, j, a, h, hj => by
    simp at h; subst h
    rw [List.flatMap_cons, Nat.zero_mul, Nat.zero_add, List.getElem?_append_left (by rw [hf]; exact hj)]
  | b :: l, i + 1, j, a, h, hj => by
    have := flat_get f s hf l i j a (by simpa using h) hj
    have e1 : (i + 1) * s = i * s + s := Nat.succ_mul i s
    have e2 : (i + 1) * s + j - s = i * s + j := by omega
    have e3 : (f b).length ≤ (i + 1) * s + j := by rw [hf]; omega
    rw [List.flatMap_cons, List.getElem?_append_right e3, hf, e2, this]
theorem flat_drop {α : Type} (f : α → List PV) (s : Nat) (hf : ∀ a, (f a).length = s) : ∀ (l : List α) (i : Nat) (a : α), l[i]? = some a → ((l.flatMap f).drop (i * s)).take s = f a
  | [], i, a, h => by simp at h
  | b :: l, 0, a, h => by
    simp at h; subst h
    rw [List.flatMap_cons, Nat.zero_mul, List.drop_zero]
    exact List.take_left' (hf b)
  | b :: l, i + 1, a, h => by
    have := flat_drop f s hf l i a (by simpa using h)
    have e1 : (i + 1) * s = s + i * s := by rw [Nat.succ_mul]; omega
    rw [List.flatMap_cons, e1, ← List.drop_drop, List.drop_left' (hf b), this]
theorem flat_len {α : Type} (f : α → List PV) (s : Nat) (hf : ∀ a, (f a).length = s) (l : List α) : (l.flatMap f).length = l.length * s := by
  induction l with
  | nil => simp
  | cons a l ih => rw [List.flatMap_cons, List.length_append, ih, hf, List.length_cons, Nat.succ_mul]; omega
theorem ents_get (l : List Ent) (i j : Nat) (e : Ent) (h : l[i]? = some e) (hj : j < 3) : (entsP l)[i * 3 + j]? = (entP e)[j]? := flat_get entP 3 (fun _ => rfl) l i j e h hj
theorem ents_drop (l : List Ent) (i : Nat) (e : Ent) (h : l[i]? = some e) : ((entsP l).drop (i * 3)).take 3 = entP e := flat_drop entP 3 (fun _ => rfl) l i e h
theorem segs_get (l : List Seg) (i j : Nat) (e : Seg) (h : l[i]? = some e) (hj : j < 2) : (segsP l)[i * 2 + j]? = (segP e)[j]? := flat_get segP 2 (fun _ => rfl) l i j e h hj
theorem segs_drop (l : List Seg) (i : Nat) (e : Seg) (h : l[i]? = some e) : ((segsP l).drop (i * 2)).take 2 = segP e := flat_drop segP 2 (fun _ => rfl) l i e h
theorem tabs_drop (l : List Tab) (i : Nat) (e : Tab) (h : l[i]? = some e) : ((tabsP l).drop (i * 3)).take 3 = tabP e := flat_drop tabP 3 (fun _ => rfl) l i e h

/-- Less may be known of what an operation leaves. -/
theorem y_le {P : Program} {σ : Sto} {t : Tms} {o : Oper} {p q : PV} (h : Yield P σ t o p) (hl : PLe p q) : Yield P σ t o q := fun F base E ρ w hρ hS hT => by
  have := h F base E ρ w hρ hS hT
  generalize (execOp ρ o).run P w = x at *
  cases x with
  | ok n w' =>
    cases n with
    | value v => exact ⟨this.1, hl _ _ _ this.2⟩
    | skip => exact ⟨this.1, hl _ _ _ this.2⟩
    | enter f args => exact ⟨this.1, Calls.mono this.2 (fun e w'' ⟨x, h1, h2, h3⟩ => ⟨x, h1, h2, hl _ _ _ h3⟩)⟩
    | _ => exact this
  | halt x w' => exact this
def PLeL (xs ys : List PV) : Prop := xs.length = ys.length ∧ ∀ (i : Nat) x y, xs[i]? = some x → ys[i]? = some y → PLe x y
theorem PLeL.nil : PLeL [] [] := ⟨rfl, fun i x y h => by simp at h⟩
theorem PLeL.cons {x y : PV} {xs ys : List PV} (h : PLe x y) (hs : PLeL xs ys) : PLeL (x :: xs) (y :: ys) := ⟨by simp [hs.1], fun j a b h1 h2 => by
  cases j with
  | zero => simp at h1 h2; subst h1; subst h2; exact h
  | succ j => exact hs.2 j a b (by simpa using h1) (by simpa using h2)⟩
theorem PLe.aggL {xs ys : List PV} (h : PLeL xs ys) : PLe (.agg xs) (.agg ys) := fun E w v hv => by
  cases hv with
  | agg cs _ hl hr => exact .agg cs ys (hl.trans h.1) (fun i c u h1 h2 => by
      have hi : i < xs.length := by rw [h.1]; exact (List.getElem?_eq_some_iff.1 h2).1
      exact h.2 i xs[i] u (by simp [hi]) h2 E w c (hr i c _ h1 (by simp [hi])))
/-- The routes of a node. -/
noncomputable def toL (T : Topo) (D : List Bool) (n k : Nat) : List Ent := (List.range k).map fun d => ⟨nextL T D n d, false, []⟩
def downL (D : List Bool) (l : List Int) : List Int := l.filter fun a => downN D a.toNat
noncomputable def routesT (T : Topo) (D : List Bool) (n : Nat) : Tab := ⟨n, toL T D n T.nodes.toNat, downL D (outL T n)⟩
noncomputable def routesE (T : Topo) (D : List Bool) (n : Int) : Tab := if chkE T D [n] = 0 then routesT T D n.toNat else ⟨0, [], []⟩
theorem toL_step (T : Topo) (D : List Bool) (n k : Nat) : toL T D n (k + 1) = toL T D n k ++ [⟨nextL T D n k, false, []⟩] := by simp [toL, List.range_succ]
theorem toL_len (T : Topo) (D : List Bool) (n k : Nat) : (toL T D n k).length = k := by simp [toL]
end PW
end Go.Proofs.YtkaalpdfppbdeaaDoor

/- The arguments of the laws: segments, entries, tables. -/
namespace Go.Proofs.YtkaalpdfppbdeaaDoor
set_option linter.unusedVariables false
set_option linter.unusedSimpArgs false
namespace PW
open Go.RowKit Reg Mem Net
section
variable {H : Type} {enc : TypeId × Value → H} {W : World}
set_option maxRecDepth 10000 in
theorem rd_seg {n : Nat} {cs : List Value} {y : DataW H × List MemPlace} (h : DataW.trod enc Tryd.prog W 0 (fun _ => true) true n 42 cs = some y) (hl : cs.length = 2) : ∃ s : Seg, RepL EN W cs (segP s) := by
  have c3 : Tryd.prog.cellsOf 3 = 1 := by kernel_rfl
  obtain ⟨xs, m, _, _, _, hlen, hf⟩ := DataW.trod_struct Tryd.underlying42 h
  match cs, hl with
  | [c0, c1], _ =>
    match xs, hlen with
    | [y0, y1], _ =>
      have f0 : DataW.trod enc Tryd.prog W 0 (fun _ => true) true m 3 (([c0, c1].drop 0).take (Tryd.prog.cellsOf 3)) = some y0 := hf 0 _ rfl
      rw [c3] at f0
      have f1 : DataW.trod enc Tryd.prog W 0 (fun _ => true) true m 3 (([c0, c1].drop 1).take (Tryd.prog.cellsOf 3)) = some y1 := hf 1 _ rfl
      rw [c3] at f1
      obtain ⟨a0, h0⟩ := rd_int f0
      obtain ⟨a1, h1⟩ := rd_int f1
      simp at h0 h1
      subst h0 h1
      exact ⟨⟨a0, a1⟩, RepL.cons (.raw _) <| RepL.cons (.raw _) (RepL.nil _ _)⟩
theorem rd_segs {n : Nat} {v : Value} {y : DataW H × List MemPlace} (h : DataW.trod enc Tryd.prog W 0 (fun _ => true) true n 38 [v] = some y) : ∃ L, Rep EN W v (segsV L) :=
  rd_slice (f := segP) (s := 2) Tryd.underlying38 (by kernel_rfl) (by omega) (fun n cs y hy hl => rd_seg hy hl) h
set_option maxRecDepth 10000 in
theorem rd_ent {n : Nat} {cs : List Value} {y : DataW H × List MemPlace} (h : DataW.trod enc Tryd.prog W 0 (fun _ => true) true n 40 cs = some y) (hl : cs.length = 3) : ∃ e : Ent, RepL EN W cs (entP e) := by
  have c0' : Tryd.prog.cellsOf 29 = 1 := by kernel_rfl
  have c1' : Tryd.prog.cellsOf 4 = 1 := by kernel_rfl
  have c2' : Tryd.prog.cellsOf 38 = 1 := by kernel_rfl
  obtain ⟨xs, m, _, _, _, hlen, hf⟩ := DataW.trod_struct Tryd.underlying40 h
  match cs, hl with
  | [c0, c1, c2], _ =>
    match xs, hlen with
    | [y0, y1, y2], _ =>
      have f0 : DataW.trod enc Tryd.prog W 0 (fun _ => true) true m 29 (([c0, c1, c2].drop 0).take (Tryd.prog.cellsOf 29)) = some y0 := hf 0 _ rfl
      rw [c0'] at f0
      have f1 : DataW.trod enc Tryd.prog W 0 (fun _ => true) true m 4 (([c0, c1, c2].drop 1).take (Tryd.prog.cellsOf 4)) = some y1 := hf 1 _ rfl
      rw [c1'] at f1
      have f2 : DataW.trod enc Tryd.prog W 0 (fun _ => true) true m 38 (([c0, c1, c2].drop 2).take (Tryd.prog.cellsOf 38)) = some y2 := hf 2 _ rfl
      rw [c2'] at f2
      obtain ⟨L, hL⟩ := rd_ints f0
      obtain ⟨b, hb, _⟩ := DataW.trod_bool Tryd.underlying4 f1
      obtain ⟨M, hM⟩ := rd_segs f2
      simp at hb
      subst hb
      exact ⟨⟨L, b, M⟩, RepL.cons hL <| RepL.cons (.raw _) <| RepL.cons hM (RepL.nil _ _)⟩
set_option maxRecDepth 10000 in
theorem rd_tab {base : Nat} {v : Value} {d : DataW H} {p : List MemPlace} (hv : Value.okWide Tryd.prog W .any base 31 v) (h : DataW.Trod enc Tryd.prog W 0 (fun _ => true) true 31 v d p) : ∃ T, Rep EN W v (tabV T) := by
  obtain ⟨v0, v1, v2, y0, y1, y2, n, rfl, _, _, h0, h1, h2⟩ := Joins.open_agg3 Tryd.underlying31 (by kernel_rfl) (by kernel_rfl) hv h
  obtain ⟨a, ha⟩ := rd_int h0
  obtain ⟨E, hE⟩ := rd_slice (f := entP) (s := 3) Tryd.underlying28 (by kernel_rfl) (by omega) (fun n cs y hy hl => rd_ent hy hl) h1
  obtain ⟨L, hL⟩ := rd_ints h2
  cases ha
  refine ⟨⟨a, E, L⟩, .agg #[_, v1, v2] _ rfl (fun i x u k1 k2 => ?_)⟩
  match i, k1, k2 with
  | 0, k1, k2 => cases k1; cases k2; exact .raw _
  | 1, k1, k2 => cases k1; cases k2; exact hE
  | 2, k1, k2 => cases k1; cases k2; exact hL
  | _ + 3, _, k2 => simp [tabP] at k2
end
end PW
end Go.Proofs.YtkaalpdfppbdeaaDoor

/- Pure walks: strings: bytes appended to a row of the call's own. No program in sight. -/
namespace Go.Proofs.YtkaalpdfppbdeaaDoor
set_option linter.unusedVariables false
set_option linter.unusedSimpArgs false
namespace PW
open Go.RowKit Reg Mem
section
variable {P : Program} {σ : Sto} {t : Tms} {o : Oper}
def bytesP (l : List UInt8) : List PV := l.map fun b => .raw (.int .u8 b.toNat)
instance (l : List UInt8) : IsPureL (bytesP l) := IsPureL.map _ _ fun _ => inferInstance
instance (l : List UInt8) : IsOneL (bytesP l) := IsOneL.map _ _ fun _ => inferInstance
theorem bytesP_append (a b : List UInt8) : bytesP a ++ bytesP b = bytesP (a ++ b) := by simp [bytesP]
theorem run_append_whereS {w : World} (base : Nat) (t u ty e : TypeId) (i : TypeInfo) (ht : P.underlying t = some (.slice e)) (hu : P.underlying u = some .string) (hi : P.info? e = some i) (hz : i.zero = some (.int .u8 0))
    (hsize : i.size = 1) (hby : i.bytes = 1) (v : Value) (n : Nat) (xs : List Value) (hown : w.ownsRow base e 1 v n xs) (s : ByteArray)
    (h63 : n + s.size ≤ maxLen) (hbytes : n + s.size ≤ 140737488355328) (hbase : base ≤ w.heap.size) :
    ∃ v' w', (Builtin.append_ #[t, u] ty #[v, .string s]).run P w = .ok v' w' ∧ w'.ownsRow base e 1 v' (n + s.size) (xs ++ Lib.strCells s) ∧ w.grownBy w' v.ownBlock ∧ (v'.ownBlock = v.ownBlock ∨ v'.ownBlock = some w.heap.size) := by
  obtain ⟨v', w', hr, h2, h3, h4⟩ := Lib.run_append_own_string (P := P) w base t u ty e i ht hu hi hz hsize hby v n xs hown s h63 hbytes hbase
  refine ⟨v', w', hr, h2, h3, ?_⟩
  have hsmall : n + s.size ≤ 9223372036854775807 := by simp only [maxLen] at h63; omega
  rcases hown.2 with ⟨rfl, rfl⟩ | ⟨g, cap, cur, rfl, hbg, hg, hnc, hcm, hcs, htake⟩
  · by_cases hm : s.size = 0
    · rw [h4.2 ⟨rfl, hm⟩]; exact .inl rfl
    · have hr' := run_append_nil_string (P := P) w t u ty e i (.int .u8 0) ht hu hi hz s (by omega) (by omega) (by rw [hby]; omega)
      rw [hr'] at hr
      cases hr
      exact .inr rfl
  · by_cases hroom : n + s.size ≤ cap
    · have hr' := Lib.run_append_room_string (P := P) w t u ty e i ht hu hi hsize g n cap cur hg s hroom (by rw [hcs]; omega)
      rw [hr'] at hr
      cases hr
      exact .inl rfl
    · have holds : ∀ (j : Nat) u, xs[j]? = some u → w.cell? ((⟨g, 0, none⟩ : Addr).add j) = some u := hown.cells (g := g) rfl
      have hr' := Lib.run_append_grow_string (P := P) w t u ty e i (.int .u8 0) ht hu hi hz ⟨g, 0, none⟩ n cap xs (by rw [hsize]; exact hown.1) holds s (by omega) (by omega) (growslice_fits (by omega) (by rw [hby]; omega))
      rw [hr'] at hr
      cases hr
      exact .inr rfl
def byteK (P : Program) (ty sy : TypeId) : Option TypeId :=
  match P.underlying ty, P.underlying sy with
  | some (.slice e), some .string => match P.info? e with
    | some i => match i.zero with
      | some (.int .u8 0) => bif Nat.beq i.size 1 && Nat.beq i.bytes 1 then some e else none
      | _ => none
    | none => none
  | _, _ => none
theorem byteK_spec {ty sy e : TypeId} (h : byteK P ty sy = some e) : P.underlying ty = some (.slice e) ∧ P.underlying sy = some .string ∧ ∃ i, P.info? e = some i ∧ i.zero = some (.int .u8 0) ∧ i.size = 1 ∧ i.bytes = 1 := by
  unfold byteK at h
  split at h
  · rename_i e' h1 h2
    split at h
    · rename_i i hi
      split at h
      · rename_i hz
        rw [Bool.cond_eq_ite] at h
        split at h
        · rename_i hb
          cases h
          obtain ⟨b1, b2⟩ := Bool.and_eq_true_iff.1 hb
          exact ⟨h1, h2, i, hi, hz, Nat.eq_of_beq_eq_true b1, Nat.eq_of_beq_eq_true b2⟩
        · cases h
      · cases h
    · cases h
  · cases h
/-- Append of a string to a row of bytes of the call's own. -/
theorem l_appendStr {ty sy e n i : Nat} {xs : List PV} {x y : Operand} {s : ByteArray} (ho : o.op = .call { callee := .builtin .append, args := #[x, y], argTypes := #[ty, sy] }) (hk : byteK P ty sy = some e) (hx : evalO t x = some (.own i)) (hi : σ[i]? = some (some (.row e 1 n xs)))
    (hy : evalO t y = some (.raw (.string s))) (hn : n + s.size ≤ 140737488355328) :
    Loud P σ t o (.own σ.length) (σ.set i none ++ [some (.row e 1 (n + s.size) (xs ++ bytesP s.data.toList))]) := by
  intro F base E ρ w hρ hS hT
  have h1 := evalO_rep hρ hT hx
  have h2 := evalO_rep hρ hT hy
  generalize hz1 : ρ x = v at h1
  generalize hz2 : ρ y = u at h2
  cases h2
  obtain ⟨hu, hu2, inf, hinf, hz, hs, hby⟩ := byteK_spec hk
  cases h1 with
  | own _ hiL _ hat hone =>
    obtain ⟨cs, k1, k2⟩ := hS.blk i _ hi
    rw [hat] at k1
    have hob : blockOf (E.at_ i) = v.ownBlock := by rw [hat]; exact own_block k1
    obtain ⟨v', w', hrun, hown, hg, hw⟩ := run_append_whereS (P := P) (w := w) base ty sy o.type e inf hu hu2 hinf hz hs hby v n cs k1 s (by unfold maxLen; omega) hn hS.bl
    have hr : (execOp ρ o).run P w = .ok (.value v') w' := by
      simp only [execOp, ho, resolve, invoke, builtin, Sem.run_bind, Sem.run_pure, Result.andThen_ok, List.map_toArray, List.map_cons, List.map_nil, hz1, hz2, hrun]
    have hnw : RepL E w (Lib.strCells s) (bytesP s.data.toList) := by
      refine ⟨by simp [Lib.strCells, bytesP], fun j c u h1 h2 => ?_⟩
      simp only [Lib.strCells, bytesP, List.getElem?_map, Option.map_eq_some_iff] at h1 h2
      obtain ⟨b, hb, rfl⟩ := h1
      obtain ⟨b', hb', rfl⟩ := h2
      rw [hb] at hb'
      cases hb'
      exact .raw _
    have hv' : ∀ b, blockOf v' = some b → blockOf (E.at_ i) = some b ∨ w.heap.size ≤ b := fun b hb => by
      rw [own_block hown] at hb
      rcases hw with h | h
      · rw [hob, ← h]; exact .inl hb
      · rw [h] at hb; cases hb; exact .inr (Nat.le_refl _)
    obtain ⟨a1, a2⟩ := hS.swap (w' := w') (blk := .row e 1 (n + s.size) (xs ++ bytesP s.data.toList)) hi hg.size (fun k hk hne => hg.block k hk (by rw [← hob]; exact Ne.symm hne)) hv' (fun E' g => ⟨cs ++ Lib.strCells s, hown, (k2.append hnw).goes g⟩)
    refine ⟨v', w', _, .inl hr, a1, a2, ⟨hg.os, hg.tape, hg.output, hg.size, fun k hk => hg.block k (Nat.lt_of_lt_of_le hk hS.bl) (fun e => ?_)⟩, .own σ.length (by simp [Env.push, Env.kill, hS.len]) v' (by simp [Env.push, Env.kill, hS.len]) ?_⟩
    · have := (k1.lt k e.symm).1; omega
    · rcases hown.2 with ⟨rfl, _⟩ | ⟨g', cap, cur, rfl, _⟩ <;> rfl
theorem Sat.drop {F : Nat → Prop} {base : Nat} {E : Env} {w w' : World} (hS : Sat F base σ E w) {j g : Nat} {bj : Blk} (hj : σ[j]? = some (some bj)) (hb : blockOf (E.at_ j) = some g) (hs : w.heap.size ≤ w'.heap.size) (ho : ∀ k, k < w.heap.size → k ≠ g → w'.heap[k]? = w.heap[k]?) :
    Sat F base (σ.set j none) (E.kill j) w' ∧ Goes E w (E.kill j) w' := by
  have hgM : E.M g := (hS.mm g).2 (.inr ⟨j, bj, hj, hb⟩)
  obtain ⟨k1, _⟩ := hS.kill j hj
  have g' : Goes E w (E.kill j) w' := ⟨Nat.le_refl _, fun _ _ => rfl, fun b _ hM h => hM h.1, hs, fun k hk hM => ho k hk (fun e => hM (by rw [e]; exact hgM))⟩
  refine ⟨⟨Nat.le_trans hS.bl hs, fun b hb' => ⟨Nat.lt_of_lt_of_le (k1.fb b hb').1 hs, (k1.fb b hb').2⟩, k1.len, k1.mm, fun i bl hi => ?_, k1.inj⟩, g'⟩
  obtain ⟨hne, h3⟩ := set_none hi
  exact (hS.blk i bl h3).goes g' (fun k hk => ho k ((hS.blk i bl h3).lt hk).2 (fun e => hne (hS.inj i j bl bj g h3 hj (by rw [← e]; exact hk) hb)))
theorem y_lenStr {ty : TypeId} {x : Operand} {s : ByteArray} (ho : o.op = .call { callee := .builtin .len, args := #[x], argTypes := #[ty] }) (hu : P.underlying ty = some .string) (hx : evalO t x = some (.raw (.string s))) : Yield P σ t o (.raw (.int .i64 s.size)) := by
  intro F base E ρ w hρ _ hT
  have h1 := evalO_rep hρ hT hx
  generalize hz : ρ x = z at h1
  cases h1
  simp [execOp, ho, resolve, invoke, builtin, Builtin.len_, hz, run_underlying hu, goInt]
  exact upon_val (.raw _)
/-- unsafe.SliceData of a row of the call's own that is not empty. -/
theorem y_sliceData {ty : TypeId} {x : Operand} {j e s n : Nat} {xs : List PV} (ho : o.op = .call { callee := .builtin .unsafeSliceData, args := #[x], argTypes := #[ty] }) (hx : evalO t x = some (.own j)) (hj : σ[j]? = some (some (.row e s n xs))) (hn : 0 < n) : Yield P σ t o (.ptr j 0) := by
  intro F base E ρ w hρ hS hT
  have h1 := evalO_rep hρ hT hx
  generalize hz : ρ x = z at h1
  cases h1 with
  | own _ hi _ h hone =>
    obtain ⟨cs, k1, _⟩ := hS.blk j _ hj
    rw [h] at k1
    rcases k1.2 with ⟨_, h0⟩ | ⟨g, cap, cur, hv, _, _, hnc, _⟩
    · omega
    · subst hv
      have := Lib.run_unsafeSliceData_row (P := P) w #[ty] o.type ⟨g, 0, none⟩ n cap (by omega)
      simp only [execOp, ho, resolve, invoke, builtin, Sem.run_bind, Sem.run_pure, Result.andThen_ok, List.map_toArray, List.map_cons, List.map_nil, hz, this]
      exact upon_val (.ptr j 0 g hi (.inr ⟨n, cap, h⟩))
/-- unsafe.String over a row of bytes of the call's own: the row is no longer written to. -/
theorem l_unsafeStr {pt it : TypeId} {x y : Operand} {j e : Nat} {l : List UInt8} (ho : o.op = .call { callee := .builtin .unsafeString, args := #[x, y], argTypes := #[pt, it] }) (hp : P.underlying pt = some (.pointer e)) (hc : P.cellsOf e = 1) (hx : evalO t x = some (.ptr j 0)) (hy : evalO t y = some (.raw (.int .i64 l.length))) (hj : σ[j]? = some (some (.row e 1 l.length (bytesP l)))) (hl : 0 < l.length) :
    Loud P σ t o (.raw (.string ⟨l.toArray⟩)) (σ.set j none) := by
  intro F base E ρ w hρ hS hT
  have h1 := evalO_rep hρ hT hx
  have h2 := evalO_rep hρ hT hy
  generalize hz : ρ x = z at h1
  generalize hz' : ρ y = z' at h2
  cases h2
  cases h1 with
  | ptr _ _ b hi h =>
    obtain ⟨cs, k1, k2⟩ := hS.blk j _ hj
    have hcs : cs = Lib.byteCells l := by
      apply List.ext_getElem?
      intro i
      by_cases hi' : i < l.length
      · have h3 := k2.2 i (cs[i]'(by rw [k2.1]; simpa [bytesP] using hi')) (.raw (.int .u8 (l[i]).toNat)) (by simp) (by simp [bytesP, hi'])
        have h4 : cs[i]'(by rw [k2.1]; simpa [bytesP] using hi') = .int .u8 (l[i]).toNat := by
          generalize cs[i]'(by rw [k2.1]; simpa [bytesP] using hi') = q at h3
          cases h3; rfl
        rw [List.getElem?_eq_getElem (by rw [k2.1]; simpa [bytesP] using hi'), h4]
        simp [Lib.byteCells, hi']
      · rw [List.getElem?_eq_none (by rw [k2.1]; simp [bytesP]; omega), List.getElem?_eq_none (by simp [Lib.byteCells]; omega)]
    subst hcs
    have k3 := k1
    rcases k1.2 with ⟨hv, h0⟩ | ⟨g, cap, cur, hv, hbg, hg, hnc, hcm, hsz, htk⟩
    · omega
    · have hbeq : b = g := by
        rcases h with h | ⟨n, c, h⟩
        · rw [hv] at h; cases h
        · rw [hv] at h; cases h; rfl
      subst hbeq
      have hblk : blockOf (E.at_ j) = some b := by rw [hv]; rfl
      have hrun := Lib.run_unsafeString_row (P := P) w pt it o.type e hp hc b cur.size (by simp [World.shape?, hg]) l (by intro e'; rw [e'] at hl; simp at hl) (by omega) (by unfold maxLen at hcm; omega) (fun i x hx' => k3.cells (g := b) (by rw [hv]; rfl) i (.int .u8 x.toNat) (by simp [Lib.byteCells, hx']))
      have hr : (execOp ρ o).run P w = .ok (.value (.string ⟨l.toArray⟩)) (w.freeze ⟨b, 0, none⟩ l.length) := by
        simp only [execOp, ho, resolve, invoke, builtin, Sem.run_bind, Sem.run_pure, Result.andThen_ok, List.map_toArray, List.map_cons, List.map_nil, hz, hz', hrun]
      have hfz : ∀ k, k ≠ b → (w.freeze ⟨b, 0, none⟩ l.length).heap[k]? = w.heap[k]? := fun k hk => by
        unfold World.freeze
        split
        · rfl
        · simp only [Array.getElem?_modify]
          rw [if_neg (Ne.symm hk)]
      have hsz' : w.heap.size ≤ (w.freeze ⟨b, 0, none⟩ l.length).heap.size := by
        unfold World.freeze
        split <;> simp
      obtain ⟨a1, a2⟩ := Sat.drop (w' := w.freeze ⟨b, 0, none⟩ l.length) hS hj hblk hsz' (fun k _ hk => hfz k hk)
      exact ⟨_, _, _, .inl hr, a1, a2, Lib.below_freeze (Below.refl base w) (p := ⟨b, 0, none⟩) hbg _, .raw _⟩
theorem y_nilEql {x y : Operand} {ty tz : TypeId} (ho : o.op = .binOp .eql ty x y tz) (hk : ptrK P ty = true) (hx : evalO t x = some (.raw (.pointer none))) (hy : evalO t y = some (.raw (.pointer none))) : Yield P σ t o (.raw (.bool true)) := by
  refine y_bin ho hx hy fun w => ?_
  unfold ptrK at hk
  split at hk
  · rename_i e hu
    have key : ∀ d, (Op.equalIn (d + 1) ty (.pointer none) (.pointer none)).run P w = .ok true w := fun d => by
      simp only [Op.equalIn, Sem.run_bind, run_underlying hu, Result.andThen_ok, Sem.run_pure, Option.isNone_none]
    have := key 9999
    simp only [Nat.reduceAdd] at this
    simp [eqGuard, binOp, Op.equal, Op.maxDepth, this]
  · cases hk
theorem y_ptrSame {x y : Operand} {ty te tz : TypeId} {i k : Nat} {ji : TypeInfo} (ho : o.op = .binOp .neq ty x y tz) (hp : P.underlying ty = some (.pointer te)) (hte : P.info? te = some ji) (hx : evalO t x = some (.ptr i k)) (hy : evalO t y = some (.ptr i k)) : Yield P σ t o (.raw (.bool false)) := by
  intro F base E ρ w hρ hS hT
  have h1 := evalO_rep hρ hT hx
  have h2 := evalO_rep hρ hT hy
  have he : ρ x = ρ y := IsFix.det E w _ _ h1 h2
  generalize hz : ρ x = z at h1
  have hz' : ρ y = z := by rw [← he, hz]
  cases h1 with
  | ptr _ _ b hi h =>
    have hb := Lib.run_neq_ptr_same (P := P) w ⟨b, k, none⟩ hp hte
    have hr : (execOp ρ o).run P w = .ok (.value (.bool false)) w := by
      simp only [execOp, ho, hz, hz', Sem.run_bind, Sem.run_pure]
      have hg : (eqGuard .neq ty x y (.pointer (some ⟨b, k, none⟩)) (.pointer (some ⟨b, k, none⟩))).run P w = .ok () w := rfl
      rw [hg]
      simp only [Result.andThen_ok, hb]
    rw [hr]
    exact upon_val (.raw _)
theorem y_toUnsafe {src dst te ty : TypeId} {x : Operand} {i : Nat} {ji : TypeInfo} {xs : List PV} (ho : o.op = .convert src dst x) (hs : P.underlying src = some (.pointer te)) (hd : P.underlying dst = some .unsafePointer) (ht : P.info? te = some ji) (hj : ji.size ≠ 0) (hx : evalO t x = some (.ptr i 0)) (hi : σ[i]? = some (some (.cells ty xs))) (hl : 0 < xs.length) : Yield P σ t o (.ptr i 0) := by
  intro F base E ρ w hρ hS hT
  have h1 := evalO_rep hρ hT hx
  have h1' := h1
  generalize hz : ρ x = z at h1 h1'
  obtain ⟨b, cs, k1, k2, k3, k4⟩ := hS.blk i _ hi
  cases h1 with
  | ptr _ _ b' hi' h =>
    have hb : b' = b := by
      rcases h with h | ⟨n, c, h⟩ <;> rw [k1] at h <;> cases h
      rfl
    subst hb
    have := Lib.run_to_unsafe (P := P) w ⟨b', 0, none⟩ hs hd ht hj (e := ty) (cells := cs.size) (by simp [World.shape?, k3]) (by have := k4.1; simp at this ⊢; omega)
    simp only [execOp, ho, hz, Sem.run_bind, this, Result.andThen_ok, Sem.run_pure]
    exact upon_val h1'
theorem y_fromUnsafe {src dst u ty : TypeId} {x : Operand} {i : Nat} {ji : TypeInfo} {xs : List PV} (ho : o.op = .convert src dst x) (hs : P.underlying src = some .unsafePointer) (hd : P.underlying dst = some (.pointer u)) (ht : P.info? u = some ji) (hx : evalO t x = some (.ptr i 0)) (hi : σ[i]? = some (some (.cells ty xs))) (hl : liesAt P P.depth ty (xs.length / P.cellsOf ty) 0 u 1 = true) : Yield P σ t o (.ptr i 0) := by
  intro F base E ρ w hρ hS hT
  have h1 := evalO_rep hρ hT hx
  have h1' := h1
  generalize hz : ρ x = z at h1 h1'
  obtain ⟨b, cs, k1, k2, k3, k4⟩ := hS.blk i _ hi
  cases h1 with
  | ptr _ _ b' hi' h =>
    have hb : b' = b := by
      rcases h with h | ⟨n, c, h⟩ <;> rw [k1] at h <;> cases h
      rfl
    subst hb
    have hsz : cs.size = xs.length := by have := k4.1; simpa using this
    have := Lib.run_from_unsafe (P := P) w ⟨b', 0, none⟩ hs hd ht (e := ty) (cells := cs.size) (by simp [World.shape?, k3]) (by rw [hsz]; exact hl)
    simp only [execOp, ho, hz, Sem.run_bind, this, Result.andThen_ok, Sem.run_pure]
    exact upon_val h1'
/-- A function of the model's own that hands its argument back. -/
theorem y_callSame {f : FuncId} {x a : Operand} {ats : Array TypeId} {p : PV} (ho : o.op = .call { callee := .value x, args := #[a], argTypes := ats }) (hx : evalO t x = some (.func f [])) (ha : evalO t a = some p) (hr : ∀ v w, (callFunc f #[v]).run P w = .ok (.value v) w) : Yield P σ t o p := by
  intro F base E ρ w hρ hS hT
  have h1 := evalO_rep hρ hT hx
  have h2 := evalO_rep hρ hT ha
  generalize hz : ρ x = z at h1
  cases h1 with
  | func _ cs _ hl hr' =>
    have hcs : cs = #[] := Array.eq_empty_of_size_eq_zero (by simpa using hl)
    subst hcs
    have h3 : (execOp ρ o).run P w = .ok (.value (ρ a)) w := by
      have := hr (ρ a) w
      simp [execOp, ho, resolve, hz, Deferred.ofValue, invoke, this]
    rw [h3]
    exact upon_val h2
end
end PW
end Go.Proofs.YtkaalpdfppbdeaaDoor

/-
  DERIVED: THE SHELF's CONTRACTS AT THIS DUMP, IN PLAIN WORDS (tools/lay-plain.mjs out of 'TrydShelf.lean', which tools/lay-shelf.mjs wrote): THE SAME DECLARATIONS UNDER THE SAME NAMES: 'import', 'namespace', 'open', 'def', 'theorem' AND NOTHING ELSE: no command of the shelf's: FOR A HAND-IN. Each laying: the table of numbers ('.._ren') and one theorem, a field a fact of the dump's own or the kernel's comparison; each contract: ONE APPLICATION.
-/
namespace Go.Proofs
open Go.Shelf
def Tryd.lays169_ren : Go.Shelf.Ren := ⟨fun | 169 => 43 | n => n, fun | 70 => 65 | 9 => 9 | 0 => 0 | 72 => 68 | 37 => 66 | 127 => 94 | 3 => 3 | 5 => 5 | n => n, fun | n => n⟩
theorem Tryd.lays169 : Go.Proofs.Lays.n169 Tryd.prog Tryd.lays169_ren := {
  mixed := by kernel_rfl
  f169 := Tryd.func43.trans (congrArg some (by kernel_rfl))
  t0 := Tryd.underlying0
  a0 := Tryd.isAgg0
  z0 := Tryd.sizeOf0
  v0 := Tryd.zeroValue0
  t3 := Tryd.underlying3
  a3 := Tryd.isAgg3
  z3 := Tryd.sizeOf3
  v3 := Tryd.zeroValue3
  t9 := Tryd.underlying9
  a9 := Tryd.isAgg9
  z9 := Tryd.sizeOf9
  v9 := Tryd.zeroValue9
  t37 := Tryd.underlying66
  a37 := Tryd.isAgg66
  z37 := Tryd.sizeOf66
  v37 := Tryd.zeroValue66
  t70 := Tryd.underlying65
  a70 := Tryd.isAgg65
  z70 := Tryd.sizeOf65
  v70 := Tryd.zeroValue65
  t72 := Tryd.underlying68
  a72 := Tryd.isAgg68
  z72 := Tryd.sizeOf68
  v72 := Tryd.zeroValue68
  t127 := Tryd.underlying94
  a127 := Tryd.isAgg94
  z127 := Tryd.sizeOf94
  v127 := Tryd.zeroValue94 }
theorem Tryd.Builder_Extra_169 : Builder.Extra Tryd.prog Tryd.lays169_ren := {
  sizeBuilder := by kernel_rfl
  liesBuilder := by kernel_rfl
  t5 := Tryd.underlying5
  a5 := Tryd.isAgg5
  z5 := Tryd.sizeOf5
  v5 := Tryd.zeroValue5
  infoByte := by kernel_rfl
  cellsByte := by kernel_rfl
  sizeByte := by kernel_rfl
  neB5 := by decide }
open Go.RowKit in
/-- (*strings.Builder).String: "String returns the accumulated string.": OF A BUILDER THAT HOLDS AT LEAST ONE BYTE. ✋ THE MODEL FREEZES THOSE BYTES IN THE BUFFER (unsafe.String): a later write INTO them ends the model's run without an answer; a later append BEHIND them goes on. The statement's order of evaluation is drawn: one draw. (LAID: no walk: one application.) -/
theorem Tryd.Builder_String (B b : Nat) (l : List UInt8) (w : World) (h : Lib.IsBuilder 68 5 B b (Lib.byteCells l) w) (h0 : l ≠ []) :
    Calls Tryd.prog 43 #[.pointer (some ⟨b, 0, none⟩)] w fun e w' => e = .returned (.string ⟨l.toArray⟩) ∧ Below B w w' := Any.Builder_String Tryd.lays169 Tryd.Builder_Extra_169 B b l w h h0
open Go.RowKit in
/-- (*strings.Builder).String OF A BUILDER THAT HOLDS NO BYTE: the empty string. (Its buffer is nil, or a row of which it has taken nothing yet; where that row has NO capacity the model lays one new block for unsafe.SliceData's 'some address'.) One draw. (LAID: no walk: one application.) -/
theorem Tryd.Builder_String_empty (B b : Nat) (w : World) (h : Lib.IsBuilder 68 5 B b [] w) (hBw : B ≤ w.heap.size) :
    Calls Tryd.prog 43 #[.pointer (some ⟨b, 0, none⟩)] w fun e w' => e = .returned (.string ⟨#[]⟩) ∧ Below B w w' := Any.Builder_String_empty Tryd.lays169 Tryd.Builder_Extra_169 B b w h hBw
open Go.RowKit in
/-- (*strings.Builder).String: "String returns the accumulated string.": WHATEVER THE BUILDER HOLDS. (LAID: no walk: one application.) -/
theorem Tryd.Builder_String_any (B b : Nat) (l : List UInt8) (w : World) (h : Lib.IsBuilder 68 5 B b (Lib.byteCells l) w) (hBw : B ≤ w.heap.size) :
    Calls Tryd.prog 43 #[.pointer (some ⟨b, 0, none⟩)] w fun e w' => e = .returned (.string ⟨l.toArray⟩) ∧ Below B w w' := Any.Builder_String_any Tryd.lays169 Tryd.Builder_Extra_169 B b l w h hBw
def Tryd.lays241_ren : Go.Shelf.Ren := ⟨fun | 241 => 89 | 277 => 98 | n => n, fun | 70 => 65 | 3 => 3 | 0 => 0 | 72 => 68 | 37 => 66 | 5 => 5 | n => n, fun | n => n⟩
theorem Tryd.lays241 : Go.Proofs.Lays.n241 Tryd.prog Tryd.lays241_ren := {
  mixed := by kernel_rfl
  f241 := Tryd.func89.trans (congrArg some (by kernel_rfl))
  f277 := Tryd.func98.trans (congrArg some (by kernel_rfl))
  t0 := Tryd.underlying0
  a0 := Tryd.isAgg0
  z0 := Tryd.sizeOf0
  v0 := Tryd.zeroValue0
  t3 := Tryd.underlying3
  a3 := Tryd.isAgg3
  z3 := Tryd.sizeOf3
  v3 := Tryd.zeroValue3
  t37 := Tryd.underlying66
  a37 := Tryd.isAgg66
  z37 := Tryd.sizeOf66
  v37 := Tryd.zeroValue66
  t70 := Tryd.underlying65
  a70 := Tryd.isAgg65
  z70 := Tryd.sizeOf65
  v70 := Tryd.zeroValue65
  t72 := Tryd.underlying68
  a72 := Tryd.isAgg68
  z72 := Tryd.sizeOf68
  v72 := Tryd.zeroValue68 }
theorem Tryd.Builder_Extra_241 : Builder.Extra Tryd.prog Tryd.lays241_ren := {
  sizeBuilder := by kernel_rfl
  liesBuilder := by kernel_rfl
  t5 := Tryd.underlying5
  a5 := Tryd.isAgg5
  z5 := Tryd.sizeOf5
  v5 := Tryd.zeroValue5
  infoByte := by kernel_rfl
  cellsByte := by kernel_rfl
  sizeByte := by kernel_rfl
  neB5 := by decide }
open Go.RowKit in
/-- (*strings.Builder).grow (no doc but "grow copies the buffer to a new, larger buffer so that there are at least n bytes of capacity beyond len(b.buf)."): AT A BUILDER WITHOUT A BUFFER: a new row of whatever bytes for its buffer, none of them its own yet. Three draws. (LAID: no walk: one application.) -/
theorem Tryd.Builder_grow_fresh (B b n : Nat) (w : World) (hB : B ≤ b) (hbk : w.heap[b]? = some (.cells #[.pointer (some ⟨b, 0, none⟩), .slice none 0 0] 68 (0, 0))) (hBw : B ≤ w.heap.size) (hn : n ≤ 281474976710656) :
    Calls Tryd.prog 89 #[.pointer (some ⟨b, 0, none⟩), .int .i64 n] w fun e w' => e = .returned (.tuple #[]) ∧ (Lib.BuilderAt 68 5 B b (.pointer (some ⟨b, 0, none⟩)) [] w' ∧ Below B w w') := Any.Builder_grow_fresh Tryd.lays241 Tryd.Builder_Extra_241 B b n w hB hbk hBw hn
def Tryd.lays165_ren : Go.Shelf.Ren := ⟨fun | 165 => 80 | 240 => 79 | 241 => 89 | 276 => 88 | 277 => 98 | n => n, fun | 70 => 65 | 3 => 3 | 0 => 0 | 4 => 4 | 9 => 9 | 20 => 20 | 72 => 68 | 37 => 66 | 164 => 107 | 5 => 5 | n => n, fun | n => n⟩
theorem Tryd.lays165 : Go.Proofs.Lays.n165 Tryd.prog Tryd.lays165_ren := {
  mixed := by kernel_rfl
  f165 := Tryd.func80.trans (congrArg some (by kernel_rfl))
  f240 := Tryd.func79.trans (congrArg some (by kernel_rfl))
  f241 := Tryd.func89.trans (congrArg some (by kernel_rfl))
  f276 := Tryd.func88.trans (congrArg some (by kernel_rfl))
  f277 := Tryd.func98.trans (congrArg some (by kernel_rfl))
  t0 := Tryd.underlying0
  a0 := Tryd.isAgg0
  z0 := Tryd.sizeOf0
  v0 := Tryd.zeroValue0
  t3 := Tryd.underlying3
  a3 := Tryd.isAgg3
  z3 := Tryd.sizeOf3
  v3 := Tryd.zeroValue3
  t4 := Tryd.underlying4
  a4 := Tryd.isAgg4
  z4 := Tryd.sizeOf4
  v4 := Tryd.zeroValue4
  t9 := Tryd.underlying9
  a9 := Tryd.isAgg9
  z9 := Tryd.sizeOf9
  v9 := Tryd.zeroValue9
  t20 := Tryd.underlying20
  a20 := Tryd.isAgg20
  z20 := Tryd.sizeOf20
  v20 := Tryd.zeroValue20
  t37 := Tryd.underlying66
  a37 := Tryd.isAgg66
  z37 := Tryd.sizeOf66
  v37 := Tryd.zeroValue66
  t70 := Tryd.underlying65
  a70 := Tryd.isAgg65
  z70 := Tryd.sizeOf65
  v70 := Tryd.zeroValue65
  t72 := Tryd.underlying68
  a72 := Tryd.isAgg68
  z72 := Tryd.sizeOf68
  v72 := Tryd.zeroValue68
  t164 := Tryd.underlying107
  a164 := Tryd.isAgg107
  z164 := Tryd.sizeOf107
  v164 := Tryd.zeroValue107 }
theorem Tryd.Builder_Extra_165 : Builder.Extra Tryd.prog Tryd.lays165_ren := {
  sizeBuilder := by kernel_rfl
  liesBuilder := by kernel_rfl
  t5 := Tryd.underlying5
  a5 := Tryd.isAgg5
  z5 := Tryd.sizeOf5
  v5 := Tryd.zeroValue5
  infoByte := by kernel_rfl
  cellsByte := by kernel_rfl
  sizeByte := by kernel_rfl
  neB5 := by decide }
open Go.RowKit in
/-- (*strings.Builder).Grow AT A BUILDER THAT HAS NOT BEEN WRITTEN ('var b strings.Builder; b.Grow(n)'): "Grow grows b's capacity, if necessary, to guarantee space for another n bytes.": it holds no byte behind it as before it. (LAID: no walk: one application.) -/
theorem Tryd.Builder_Grow_fresh (B b n : Nat) (w : World) (hB : B ≤ b) (hbk : w.heap[b]? = some (.cells #[.pointer none, .slice none 0 0] 68 (0, 0))) (hBw : B ≤ w.heap.size) (hn : n ≤ 281474976710656) :
    Calls Tryd.prog 80 #[.pointer (some ⟨b, 0, none⟩), .int .i64 n] w fun e w' => e = .returned (.tuple #[]) ∧ (Lib.BuilderAt 68 5 B b (.pointer (some ⟨b, 0, none⟩)) [] w' ∧ Below B w w') := Any.Builder_Grow_fresh Tryd.lays165 Tryd.Builder_Extra_165 B b n w hB hbk hBw hn
def Tryd.lays156_ren : Go.Shelf.Ren := ⟨fun | 156 => 66 | 165 => 80 | 166 => 65 | 169 => 43 | 240 => 79 | 241 => 89 | 276 => 88 | 277 => 98 | n => n, fun | 31 => 70 | 9 => 9 | 3 => 3 | 4 => 4 | 0 => 0 | 20 => 20 | 72 => 68 | 76 => 89 | 70 => 65 | 37 => 66 | 75 => 88 | 127 => 94 | 164 => 107 | 5 => 5 | 80 => 72 | n => n, fun | n => n⟩
theorem Tryd.lays156 : Go.Proofs.Lays.n156 Tryd.prog Tryd.lays156_ren := {
  mixed := by kernel_rfl
  f156 := Tryd.func66.trans (congrArg some (by kernel_rfl))
  f165 := Tryd.func80.trans (congrArg some (by kernel_rfl))
  f166 := Tryd.func65.trans (congrArg some (by kernel_rfl))
  f169 := Tryd.func43.trans (congrArg some (by kernel_rfl))
  f240 := Tryd.func79.trans (congrArg some (by kernel_rfl))
  f241 := Tryd.func89.trans (congrArg some (by kernel_rfl))
  f276 := Tryd.func88.trans (congrArg some (by kernel_rfl))
  f277 := Tryd.func98.trans (congrArg some (by kernel_rfl))
  t0 := Tryd.underlying0
  a0 := Tryd.isAgg0
  z0 := Tryd.sizeOf0
  v0 := Tryd.zeroValue0
  t3 := Tryd.underlying3
  a3 := Tryd.isAgg3
  z3 := Tryd.sizeOf3
  v3 := Tryd.zeroValue3
  t4 := Tryd.underlying4
  a4 := Tryd.isAgg4
  z4 := Tryd.sizeOf4
  v4 := Tryd.zeroValue4
  t9 := Tryd.underlying9
  a9 := Tryd.isAgg9
  z9 := Tryd.sizeOf9
  v9 := Tryd.zeroValue9
  t20 := Tryd.underlying20
  a20 := Tryd.isAgg20
  z20 := Tryd.sizeOf20
  v20 := Tryd.zeroValue20
  t31 := Tryd.underlying70
  a31 := Tryd.isAgg70
  z31 := Tryd.sizeOf70
  v31 := Tryd.zeroValue70
  t37 := Tryd.underlying66
  a37 := Tryd.isAgg66
  z37 := Tryd.sizeOf66
  v37 := Tryd.zeroValue66
  t70 := Tryd.underlying65
  a70 := Tryd.isAgg65
  z70 := Tryd.sizeOf65
  v70 := Tryd.zeroValue65
  t72 := Tryd.underlying68
  a72 := Tryd.isAgg68
  z72 := Tryd.sizeOf68
  v72 := Tryd.zeroValue68
  t75 := Tryd.underlying88
  a75 := Tryd.isAgg88
  z75 := Tryd.sizeOf88
  v75 := Tryd.zeroValue88
  t76 := Tryd.underlying89
  a76 := Tryd.isAgg89
  z76 := Tryd.sizeOf89
  v76 := Tryd.zeroValue89
  t127 := Tryd.underlying94
  a127 := Tryd.isAgg94
  z127 := Tryd.sizeOf94
  v127 := Tryd.zeroValue94
  t164 := Tryd.underlying107
  a164 := Tryd.isAgg107
  z164 := Tryd.sizeOf107
  v164 := Tryd.zeroValue107 }
theorem Tryd.Builder_Extra_156 : Builder.Extra Tryd.prog Tryd.lays156_ren := {
  sizeBuilder := by kernel_rfl
  liesBuilder := by kernel_rfl
  t5 := Tryd.underlying5
  a5 := Tryd.isAgg5
  z5 := Tryd.sizeOf5
  v5 := Tryd.zeroValue5
  infoByte := by kernel_rfl
  cellsByte := by kernel_rfl
  sizeByte := by kernel_rfl
  neB5 := by decide }
open Go.RowKit in
/-- No element: the empty string; the world is as it was. (Whatever the slice's address and capacity: a nil slice too.) (LAID: no walk: one application.) -/
theorem Tryd.strings_Join_none (a : Option Addr) (c : Nat) (sep : ByteArray) (w : World) :
    Calls Tryd.prog 66 #[.slice a 0 c, .string sep] w fun e w' => e = .returned (.string ⟨#[]⟩) ∧ w' = w := Any.strings_Join_none Tryd.lays156 Tryd.Builder_Extra_156 a c sep w
open Go.RowKit in
/-- strings.Join: "Join concatenates the elements of its first argument to create a single string. The separator string sep is placed between elements in the resulting string.": HOWEVER MANY ELEMENTS. Below the heap's end the world is as it was. (LAID: no walk: one application.) -/
theorem Tryd.strings_Join (bk o c : Nat) (xs : List ByteArray) (sep : ByteArray) (w : World) (hcells : ∀ (j : Nat) x, xs[j]? = some x → w.cell? ⟨bk, o + j, none⟩ = some (.string x)) (hbk : bk < w.heap.size) (hN : xs.length ≤ 140737488355328) (hcap : xs.length ≤ c) (hlen : (Lib.join (xs.map (·.data.toList)) sep.data.toList).length ≤ 140737488355328) :
    Calls Tryd.prog 66 #[.slice (some ⟨bk, o, none⟩) xs.length c, .string sep] w fun e w' => e = .returned (.string ⟨(Lib.join (xs.map (·.data.toList)) sep.data.toList).toArray⟩) ∧ Below w.heap.size w w' := Any.strings_Join Tryd.lays156 Tryd.Builder_Extra_156 bk o c xs sep w hcells hbk hN hcap hlen
open Go.RowKit in
/-- (*strings.Builder).String: "String returns the accumulated string.": OF A BUILDER THAT HOLDS AT LEAST ONE BYTE. ✋ THE MODEL FREEZES THOSE BYTES IN THE BUFFER (unsafe.String): a later write INTO them ends the model's run without an answer; a later append BEHIND them goes on. The statement's order of evaluation is drawn: one draw. THE FORM '_f': IT SAYS BESIDES THAT THE BUILDER IS A BUILDER STILL ('Lib.IsBuilderF', the same bytes): SO IT CAN BE WRITTEN ON: 'b.WriteString(b.String()[:k])'. (LAID: no walk: one application.) -/
theorem Tryd.Builder_String_f (B b : Nat) (l : List UInt8) (w : World) (h : Lib.IsBuilderF 68 5 B b (Lib.byteCells l) w) (h0 : l ≠ []) :
    Calls Tryd.prog 43 #[.pointer (some ⟨b, 0, none⟩)] w fun e w' => e = .returned (.string ⟨l.toArray⟩) ∧ (Lib.IsBuilderF 68 5 B b (Lib.byteCells l) w' ∧ Below B w w') := Any.Builder_String_f Tryd.lays169 Tryd.Builder_Extra_169 B b l w h h0
open Go.RowKit in
/-- (*strings.Builder).String OF A BUILDER THAT HOLDS NO BYTE: the empty string; THE FORM '_f': a builder still. (LAID: no walk: one application.) -/
theorem Tryd.Builder_String_empty_f (B b : Nat) (w : World) (h : Lib.IsBuilderF 68 5 B b [] w) (hBw : B ≤ w.heap.size) :
    Calls Tryd.prog 43 #[.pointer (some ⟨b, 0, none⟩)] w fun e w' => e = .returned (.string ⟨#[]⟩) ∧ (Lib.IsBuilderF 68 5 B b [] w' ∧ Below B w w') := Any.Builder_String_empty_f Tryd.lays169 Tryd.Builder_Extra_169 B b w h hBw
open Go.RowKit in
/-- (*strings.Builder).String: "String returns the accumulated string.": WHATEVER THE BUILDER HOLDS; THE FORM '_f': OF A BUILDER THAT MAY HAVE BEEN READ BEFORE; AND IT IS A BUILDER STILL, holding the same bytes: it can be written on. (LAID: no walk: one application.) -/
theorem Tryd.Builder_String_any_f (B b : Nat) (l : List UInt8) (w : World) (h : Lib.IsBuilderF 68 5 B b (Lib.byteCells l) w) (hBw : B ≤ w.heap.size) :
    Calls Tryd.prog 43 #[.pointer (some ⟨b, 0, none⟩)] w fun e w' => e = .returned (.string ⟨l.toArray⟩) ∧ (Lib.IsBuilderF 68 5 B b (Lib.byteCells l) w' ∧ Below B w w') := Any.Builder_String_any_f Tryd.lays169 Tryd.Builder_Extra_169 B b l w h hBw
open Go.RowKit in
/-- (*strings.Builder).String: "String returns the accumulated string.": OF A BUILDER THAT HOLDS AT LEAST ONE BYTE. ✋ THE MODEL FREEZES THOSE BYTES IN THE BUFFER (unsafe.String): a later write INTO them ends the model's run without an answer; a later append BEHIND them goes on. The statement's order of evaluation is drawn: one draw. THE FORM '_k': OVER 'Lib.IsBuilderF' (a builder that 'String()' may have read), AND WITH THE FRAME THAT REACHES ABOVE THE BUILDER: 'Lib.OthersKept': every block that is not b and is no row of uint8's stands as it stood: the iterator of a range among them. (LAID: no walk: one application.) -/
theorem Tryd.Builder_String_k (B b : Nat) (l : List UInt8) (w : World) (h : Lib.IsBuilderF 68 5 B b (Lib.byteCells l) w) (h0 : l ≠ []) :
    Calls Tryd.prog 43 #[.pointer (some ⟨b, 0, none⟩)] w fun e w' => e = .returned (.string ⟨l.toArray⟩) ∧ (Lib.IsBuilderF 68 5 B b (Lib.byteCells l) w' ∧ Below B w w' ∧ Lib.OthersKept 5 (some b) w w') := Any.Builder_String_k Tryd.lays169 Tryd.Builder_Extra_169 B b l w h h0
open Go.RowKit in
/-- (*strings.Builder).String OF A BUILDER THAT HOLDS NO BYTE: the empty string; THE FORM '_k': OVER 'Lib.IsBuilderF' (a builder that 'String()' may have read), AND WITH THE FRAME THAT REACHES ABOVE THE BUILDER: 'Lib.OthersKept': every block that is not b and is no row of uint8's stands as it stood: the iterator of a range among them. (LAID: no walk: one application.) -/
theorem Tryd.Builder_String_empty_k (B b : Nat) (w : World) (h : Lib.IsBuilderF 68 5 B b [] w) (hBw : B ≤ w.heap.size) :
    Calls Tryd.prog 43 #[.pointer (some ⟨b, 0, none⟩)] w fun e w' => e = .returned (.string ⟨#[]⟩) ∧ (Lib.IsBuilderF 68 5 B b [] w' ∧ Below B w w' ∧ Lib.OthersKept 5 (some b) w w') := Any.Builder_String_empty_k Tryd.lays169 Tryd.Builder_Extra_169 B b w h hBw
open Go.RowKit in
/-- (*strings.Builder).String: "String returns the accumulated string.": WHATEVER THE BUILDER HOLDS; THE FORM '_k': OVER 'Lib.IsBuilderF' (a builder that 'String()' may have read), AND WITH THE FRAME THAT REACHES ABOVE THE BUILDER: 'Lib.OthersKept': every block that is not b and is no row of uint8's stands as it stood: the iterator of a range among them. (LAID: no walk: one application.) -/
theorem Tryd.Builder_String_any_k (B b : Nat) (l : List UInt8) (w : World) (h : Lib.IsBuilderF 68 5 B b (Lib.byteCells l) w) (hBw : B ≤ w.heap.size) :
    Calls Tryd.prog 43 #[.pointer (some ⟨b, 0, none⟩)] w fun e w' => e = .returned (.string ⟨l.toArray⟩) ∧ (Lib.IsBuilderF 68 5 B b (Lib.byteCells l) w' ∧ Below B w w' ∧ Lib.OthersKept 5 (some b) w w') := Any.Builder_String_any_k Tryd.lays169 Tryd.Builder_Extra_169 B b l w h hBw
open Go.RowKit in
/-- (*strings.Builder).grow (no doc but "grow copies the buffer to a new, larger buffer so that there are at least n bytes of capacity beyond len(b.buf)."): AT A BUILDER WITHOUT A BUFFER: a new row of whatever bytes for its buffer, none of them its own yet. Three draws. (LAID: no walk: one application.) -/
theorem Tryd.Builder_grow_fresh_cap (B b n : Nat) (w : World) (hB : B ≤ b) (hbk : w.heap[b]? = some (.cells #[.pointer (some ⟨b, 0, none⟩), .slice none 0 0] 68 (0, 0))) (hBw : B ≤ w.heap.size) (hn : n ≤ 281474976710656) :
    Calls Tryd.prog 89 #[.pointer (some ⟨b, 0, none⟩), .int .i64 n] w fun e w' => e = .returned (.tuple #[]) ∧ (Lib.BuilderAt 68 5 B b (.pointer (some ⟨b, 0, none⟩)) [] w' ∧ Below B w w') ∧ ∃ p cap, w'.cell? ⟨b, 1, none⟩ = some (.slice p 0 cap) ∧ n ≤ cap := Any.Builder_grow_fresh_cap Tryd.lays241 Tryd.Builder_Extra_241 B b n w hB hbk hBw hn
open Go.RowKit in
/-- (*strings.Builder).Grow AT A BUILDER THAT HAS NOT BEEN WRITTEN ('var b strings.Builder; b.Grow(n)'): "Grow grows b's capacity, if necessary, to guarantee space for another n bytes.": it holds no byte behind it as before it. (LAID: no walk: one application.) -/
theorem Tryd.Builder_Grow_fresh_cap (B b n : Nat) (w : World) (hB : B ≤ b) (hbk : w.heap[b]? = some (.cells #[.pointer none, .slice none 0 0] 68 (0, 0))) (hBw : B ≤ w.heap.size) (hn : n ≤ 281474976710656) :
    Calls Tryd.prog 80 #[.pointer (some ⟨b, 0, none⟩), .int .i64 n] w fun e w' => e = .returned (.tuple #[]) ∧ (Lib.BuilderAt 68 5 B b (.pointer (some ⟨b, 0, none⟩)) [] w' ∧ Below B w w') ∧ ∃ p cap, w'.cell? ⟨b, 1, none⟩ = some (.slice p 0 cap) ∧ n ≤ cap := Any.Builder_Grow_fresh_cap Tryd.lays165 Tryd.Builder_Extra_165 B b n w hB hbk hBw hn
def Tryd.lays129_ren : Go.Shelf.Ren := ⟨fun | 129 => 100 | n => n, fun | 53 => 86 | 3 => 3 | 4 => 4 | 46 => 128 | 5 => 5 | 9 => 9 | n => n, fun | n => n⟩
theorem Tryd.lays129 : Go.Proofs.Lays.n129 Tryd.prog Tryd.lays129_ren := {
  mixed := by kernel_rfl
  f129 := Tryd.func100.trans (congrArg some (by kernel_rfl))
  t3 := Tryd.underlying3
  a3 := Tryd.isAgg3
  z3 := Tryd.sizeOf3
  v3 := Tryd.zeroValue3
  t4 := Tryd.underlying4
  a4 := Tryd.isAgg4
  z4 := Tryd.sizeOf4
  v4 := Tryd.zeroValue4
  t5 := Tryd.underlying5
  a5 := Tryd.isAgg5
  z5 := Tryd.sizeOf5
  v5 := Tryd.zeroValue5
  t9 := Tryd.underlying9
  a9 := Tryd.isAgg9
  z9 := Tryd.sizeOf9
  v9 := Tryd.zeroValue9
  t46 := Tryd.underlying128
  a46 := Tryd.isAgg128
  z46 := Tryd.sizeOf128
  v46 := Tryd.zeroValue128
  t53 := Tryd.underlying86
  a53 := Tryd.isAgg86
  z53 := Tryd.sizeOf86
  v53 := Tryd.zeroValue86 }
/-- bits.Len64: "Len64 returns the minimum number of bits required to represent x; the result is 0 for x == 0.": IT RETURNS 'Lib.bitLen x'; the world is as it was. ('h0', 'h1': x is a uint64.) (LAID: no walk: one application.) -/
theorem Tryd.bits_Len64 (x : Int) (w : World) (h0 : 0 ≤ x) (h1 : x ≤ 18446744073709551615) :
    Calls Tryd.prog 100 #[.int .u64 x] w fun e w' => e = .returned (.int .i64 (Lib.bitLen x.toNat)) ∧ w' = w := Any.bits_Len64 Tryd.lays129 x w h0 h1
def Tryd.lays317_ren : Go.Shelf.Ren := ⟨fun | 317 => 99 | n => n, fun | 3 => 3 | 46 => 128 | n => n, fun | n => n⟩
theorem Tryd.lays317 : Go.Proofs.Lays.n317 Tryd.prog Tryd.lays317_ren := {
  mixed := by kernel_rfl
  f317 := Tryd.func99.trans (congrArg some (by kernel_rfl))
  t3 := Tryd.underlying3
  a3 := Tryd.isAgg3
  z3 := Tryd.sizeOf3
  v3 := Tryd.zeroValue3
  t46 := Tryd.underlying128
  a46 := Tryd.isAgg128
  z46 := Tryd.sizeOf128
  v46 := Tryd.zeroValue128 }
open Go.Lib in
/-- internal/strconv.log10Pow2: "log10Pow2(x) returns ⌊log₁₀ 2**x⌋ = ⌊x * log₁₀ 2⌋.": '(x * 78913) >> 18', at an x up to 64 (a length in bits). The world is as it was. (LAID: no walk: one application.) -/
theorem Tryd.internal_strconv_log10Pow2 (x : Nat) (h : x ≤ 64) (w : World) :
    Calls Tryd.prog 99 #[.int .i64 x] w fun e w' => e = .returned (.int .i64 (Lib.l10 x)) ∧ w' = w := Any.internal_strconv_log10Pow2 Tryd.lays317 x h w
def Tryd.lays318_ren : Go.Shelf.Ren := ⟨fun | 318 => 101 | n => n, fun | 3 => 3 | 4 => 4 | n => n, fun | n => n⟩
theorem Tryd.lays318 : Go.Proofs.Lays.n318 Tryd.prog Tryd.lays318_ren := {
  mixed := by kernel_rfl
  f318 := Tryd.func101.trans (congrArg some (by kernel_rfl))
  t3 := Tryd.underlying3
  a3 := Tryd.isAgg3
  z3 := Tryd.sizeOf3
  v3 := Tryd.zeroValue3
  t4 := Tryd.underlying4
  a4 := Tryd.isAgg4
  z4 := Tryd.sizeOf4
  v4 := Tryd.zeroValue4 }
open Go.Lib in
/-- internal/strconv.bool2: "bool2 converts b to an integer: 1 for true, 0 for false." The world is as it was. (LAID: no walk: one application.) -/
theorem Tryd.internal_strconv_bool2_int (b : Bool) (w : World) :
    Calls Tryd.prog 101 #[.bool b] w fun e w' => e = .returned (.int .i64 (if b then 1 else 0)) ∧ w' = w := Any.internal_strconv_bool2_int Tryd.lays318 b w
def Tryd.lays283_ren : Go.Shelf.Ren := ⟨fun | 283 => 90 | n => n, fun | 3 => 3 | 9 => 9 | 4 => 4 | n => n, fun | n => n⟩
theorem Tryd.lays283 : Go.Proofs.Lays.n283 Tryd.prog Tryd.lays283_ren := {
  mixed := by kernel_rfl
  f283 := Tryd.func90.trans (congrArg some (by kernel_rfl))
  t3 := Tryd.underlying3
  a3 := Tryd.isAgg3
  z3 := Tryd.sizeOf3
  v3 := Tryd.zeroValue3
  t4 := Tryd.underlying4
  a4 := Tryd.isAgg4
  z4 := Tryd.sizeOf4
  v4 := Tryd.zeroValue4
  t9 := Tryd.underlying9
  a9 := Tryd.isAgg9
  z9 := Tryd.sizeOf9
  v9 := Tryd.zeroValue9 }
open Go.Lib in
/-- internal/strconv.small: "small returns the string for an i with 0 <= i < nSmalls.": i's decimal numeral. The world is as it was. (LAID: no walk: one application.) -/
theorem Tryd.internal_strconv_small (i : Nat) (h : i < 100) (w : World) :
    Calls Tryd.prog 90 #[.int .i64 i] w fun e w' => e = .returned (.string ⟨(Lib.decDigits i).toArray⟩) ∧ w' = w := Any.internal_strconv_small Tryd.lays283 i h w
def Tryd.laysM284_ren : Go.Shelf.Ren := ⟨fun | 284 => 91 | 129 => 100 | 317 => 99 | 318 => 101 | n => n, fun | 53 => 86 | 3 => 3 | 212 => 124 | 0 => 0 | 4 => 4 | 46 => 128 | 5 => 5 | 9 => 9 | n => n, fun | 17 => 0 | n => n⟩
theorem Tryd.laysM284 : Go.Proofs.LaysM.n284 Tryd.prog Tryd.laysM284_ren := {
  mixed := by kernel_rfl
  f129 := Tryd.func100.trans (congrArg some (by kernel_rfl))
  f284 := Tryd.func91.trans (congrArg some (by kernel_rfl))
  f317 := Tryd.func99.trans (congrArg some (by kernel_rfl))
  f318 := Tryd.func101.trans (congrArg some (by kernel_rfl))
  t0 := Tryd.underlying0
  a0 := Tryd.isAgg0
  z0 := Tryd.sizeOf0
  v0 := Tryd.zeroValue0
  t3 := Tryd.underlying3
  a3 := Tryd.isAgg3
  z3 := Tryd.sizeOf3
  v3 := Tryd.zeroValue3
  t4 := Tryd.underlying4
  a4 := Tryd.isAgg4
  z4 := Tryd.sizeOf4
  v4 := Tryd.zeroValue4
  t5 := Tryd.underlying5
  a5 := Tryd.isAgg5
  z5 := Tryd.sizeOf5
  v5 := Tryd.zeroValue5
  t9 := Tryd.underlying9
  a9 := Tryd.isAgg9
  z9 := Tryd.sizeOf9
  v9 := Tryd.zeroValue9
  t46 := Tryd.underlying128
  a46 := Tryd.isAgg128
  z46 := Tryd.sizeOf128
  v46 := Tryd.zeroValue128
  t53 := Tryd.underlying86
  a53 := Tryd.isAgg86
  z53 := Tryd.sizeOf86
  v53 := Tryd.zeroValue86
  t212 := Tryd.underlying124
  a212 := Tryd.isAgg124
  z212 := Tryd.sizeOf124
  v212 := Tryd.zeroValue124
  g17 := by kernel_rfl
  i0 := by kernel_rfl
  i3 := by kernel_rfl
  i4 := by kernel_rfl
  i5 := by kernel_rfl
  i9 := by kernel_rfl
  i46 := by kernel_rfl
  i53 := by kernel_rfl
  i212 := by kernel_rfl
  m17 := by kernel_rfl }
open Go.Lib in
/-- internal/strconv.numDigits, at a d that is not 0: THE NUMBER OF d's DECIMAL DIGITS. The world is as it was. (LAID: no walk: one application.) -/
theorem Tryd.internal_strconv_numDigits (u : Nat) (h1 : 1 ≤ u) (h2 : u < 18446744073709551616) (w : World) (htab : Lib.TabIs Tryd.prog w "internal/strconv.uint64pow10" .u64 Lib.pow10Tab) :
    Calls Tryd.prog 91 #[.int .u64 u] w fun e w' => e = .returned (.int .i64 (Lib.nDigits u)) ∧ w' = w := Any.internal_strconv_numDigits Tryd.laysM284 u h1 h2 w htab
def Tryd.lays285_ren : Go.Shelf.Ren := ⟨fun | 285 => 92 | n => n, fun | 37 => 66 | 53 => 86 | 3 => 3 | 4 => 4 | 51 => 125 | 9 => 9 | 5 => 5 | 0 => 0 | n => n, fun | n => n⟩
theorem Tryd.lays285 : Go.Proofs.Lays.n285 Tryd.prog Tryd.lays285_ren := {
  mixed := by kernel_rfl
  f285 := Tryd.func92.trans (congrArg some (by kernel_rfl))
  t0 := Tryd.underlying0
  a0 := Tryd.isAgg0
  z0 := Tryd.sizeOf0
  v0 := Tryd.zeroValue0
  t3 := Tryd.underlying3
  a3 := Tryd.isAgg3
  z3 := Tryd.sizeOf3
  v3 := Tryd.zeroValue3
  t4 := Tryd.underlying4
  a4 := Tryd.isAgg4
  z4 := Tryd.sizeOf4
  v4 := Tryd.zeroValue4
  t5 := Tryd.underlying5
  a5 := Tryd.isAgg5
  z5 := Tryd.sizeOf5
  v5 := Tryd.zeroValue5
  t9 := Tryd.underlying9
  a9 := Tryd.isAgg9
  z9 := Tryd.sizeOf9
  v9 := Tryd.zeroValue9
  t37 := Tryd.underlying66
  a37 := Tryd.isAgg66
  z37 := Tryd.sizeOf66
  v37 := Tryd.zeroValue66
  t51 := Tryd.underlying125
  a51 := Tryd.isAgg125
  z51 := Tryd.sizeOf125
  v51 := Tryd.zeroValue125
  t53 := Tryd.underlying86
  a53 := Tryd.isAgg86
  z53 := Tryd.sizeOf86
  v53 := Tryd.zeroValue86 }
open Go.RowKit Go.Sort Go.Lib in
/-- internal/strconv.formatBase10: "formatBase10 formats the decimal representation of u into a. The caller is responsible for ensuring that a is big enough to hold u. If a is too big, leading zeros will be filled in as needed.": THE ROW HOLDS u's DIGITS ('FmtInv .. 0 ..': every place t holds 'dg u (len - 1 - t)'); all else is as it was but for the count of draws. (LAID: no walk: one application.) -/
theorem Tryd.internal_strconv_formatBase10 (blk off cap : Nat) (u : Nat) (d : Array UInt8) (w : World) (hH : Holds (fun (b : UInt8) => Value.int .u8 (b.toNat : Int)) w blk off d) (hu : u < 10 ^ d.size) (hu64 : u < 18446744073709551616) (hsz : d.size < 4611686018427387904) :
    Calls Tryd.prog 92 #[.slice (some ⟨blk, off, none⟩) d.size cap, .int .u64 u] w fun e w' =>
      e = .returned (.tuple #[]) ∧ ∃ (n v' : Nat) (dk : Array UInt8), w' = (putRow (fun (b : UInt8) => Value.int .u8 (b.toNat : Int)) w blk off dk).drewN n ∧ FmtInv d.size u 0 v' dk := Any.internal_strconv_formatBase10 Tryd.lays285 blk off cap u d w hH hu hu64 hsz
def Tryd.laysM246_ren : Go.Shelf.Ren := ⟨fun | 246 => 81 | 283 => 90 | 284 => 91 | 285 => 92 | 286 => 93 | 129 => 100 | 317 => 99 | 318 => 101 | 319 => 102 | 320 => 103 | 337 => 106 | 338 => 107 | n => n, fun | 2 => 2 | 3 => 3 | 9 => 9 | 4 => 4 | 171 => 109 | 0 => 0 | 53 => 86 | 37 => 66 | 5 => 5 | 173 => 112 | 212 => 124 | 51 => 125 | 20 => 20 | 213 => 126 | 46 => 128 | 232 => 135 | 233 => 136 | n => n, fun | 17 => 0 | 18 => 2 | 19 => 3 | n => n⟩
theorem Tryd.laysM246 : Go.Proofs.LaysM.n246 Tryd.prog Tryd.laysM246_ren := {
  mixed := by kernel_rfl
  f129 := Tryd.func100.trans (congrArg some (by kernel_rfl))
  f246 := Tryd.func81.trans (congrArg some (by kernel_rfl))
  f283 := Tryd.func90.trans (congrArg some (by kernel_rfl))
  f284 := Tryd.func91.trans (congrArg some (by kernel_rfl))
  f285 := Tryd.func92.trans (congrArg some (by kernel_rfl))
  f286 := Tryd.func93.trans (congrArg some (by kernel_rfl))
  f317 := Tryd.func99.trans (congrArg some (by kernel_rfl))
  f318 := Tryd.func101.trans (congrArg some (by kernel_rfl))
  f319 := Tryd.func102.trans (congrArg some (by kernel_rfl))
  f320 := Tryd.func103.trans (congrArg some (by kernel_rfl))
  f337 := Tryd.func106.trans (congrArg some (by kernel_rfl))
  f338 := Tryd.func107.trans (congrArg some (by kernel_rfl))
  t0 := Tryd.underlying0
  a0 := Tryd.isAgg0
  z0 := Tryd.sizeOf0
  v0 := Tryd.zeroValue0
  t2 := Tryd.underlying2
  a2 := Tryd.isAgg2
  z2 := Tryd.sizeOf2
  v2 := Tryd.zeroValue2
  t3 := Tryd.underlying3
  a3 := Tryd.isAgg3
  z3 := Tryd.sizeOf3
  v3 := Tryd.zeroValue3
  t4 := Tryd.underlying4
  a4 := Tryd.isAgg4
  z4 := Tryd.sizeOf4
  v4 := Tryd.zeroValue4
  t5 := Tryd.underlying5
  a5 := Tryd.isAgg5
  z5 := Tryd.sizeOf5
  v5 := Tryd.zeroValue5
  t9 := Tryd.underlying9
  a9 := Tryd.isAgg9
  z9 := Tryd.sizeOf9
  v9 := Tryd.zeroValue9
  t20 := Tryd.underlying20
  a20 := Tryd.isAgg20
  z20 := Tryd.sizeOf20
  v20 := Tryd.zeroValue20
  t37 := Tryd.underlying66
  a37 := Tryd.isAgg66
  z37 := Tryd.sizeOf66
  v37 := Tryd.zeroValue66
  t46 := Tryd.underlying128
  a46 := Tryd.isAgg128
  z46 := Tryd.sizeOf128
  v46 := Tryd.zeroValue128
  t51 := Tryd.underlying125
  a51 := Tryd.isAgg125
  z51 := Tryd.sizeOf125
  v51 := Tryd.zeroValue125
  t53 := Tryd.underlying86
  a53 := Tryd.isAgg86
  z53 := Tryd.sizeOf86
  v53 := Tryd.zeroValue86
  t171 := Tryd.underlying109
  a171 := Tryd.isAgg109
  z171 := Tryd.sizeOf109
  v171 := Tryd.zeroValue109
  t173 := Tryd.underlying112
  a173 := Tryd.isAgg112
  z173 := Tryd.sizeOf112
  v173 := Tryd.zeroValue112
  t212 := Tryd.underlying124
  a212 := Tryd.isAgg124
  z212 := Tryd.sizeOf124
  v212 := Tryd.zeroValue124
  t213 := Tryd.underlying126
  a213 := Tryd.isAgg126
  z213 := Tryd.sizeOf126
  t232 := Tryd.underlying135
  a232 := Tryd.isAgg135
  z232 := Tryd.sizeOf135
  v232 := Tryd.zeroValue135
  t233 := Tryd.underlying136
  a233 := Tryd.isAgg136
  z233 := Tryd.sizeOf136
  v233 := Tryd.zeroValue136
  g17 := by kernel_rfl
  g18 := by kernel_rfl
  g19 := by kernel_rfl
  i0 := by kernel_rfl
  i2 := by kernel_rfl
  i3 := by kernel_rfl
  i4 := by kernel_rfl
  i5 := by kernel_rfl
  i9 := by kernel_rfl
  i20 := by kernel_rfl
  i37 := by kernel_rfl
  i46 := by kernel_rfl
  i51 := by kernel_rfl
  i53 := by kernel_rfl
  i171 := by kernel_rfl
  i173 := by kernel_rfl
  i212 := by kernel_rfl
  i232 := by kernel_rfl
  i233 := by kernel_rfl
  m17 := by kernel_rfl
  m18 := by kernel_rfl
  m19 := by kernel_rfl }
open Go.RowKit Go.Sort Go.Lib in
/-- internal/strconv.FormatInt: "FormatInt returns the string representation of i in the given base": AT BASE 10: i's decimal numeral, for every int64. The world behind the call: the world before it, new blocks behind the heap, draws. (LAID: no walk: one application.) -/
theorem Tryd.internal_strconv_FormatInt_10 (n : Int) (h0 : -9223372036854775808 ≤ n) (h1 : n ≤ 9223372036854775807) (w : World) (htab : Lib.TabIs Tryd.prog w "internal/strconv.uint64pow10" .u64 Lib.pow10Tab) :
    Calls Tryd.prog 81 #[.int .i64 n, .int .i64 10] w fun e w' => e = .returned (.string ⟨(Lib.itoa n).toArray⟩) ∧ ∃ k os, w' = grow (w.drewN k) os := Any.internal_strconv_FormatInt_10 Tryd.laysM246 n h0 h1 w htab
def Tryd.lays246_ren : Go.Shelf.Ren := ⟨fun | 246 => 81 | 283 => 90 | 284 => 91 | 285 => 92 | 286 => 93 | 129 => 100 | 317 => 99 | 318 => 101 | 319 => 102 | 320 => 103 | 337 => 106 | 338 => 107 | n => n, fun | 2 => 2 | 3 => 3 | 9 => 9 | 4 => 4 | 171 => 109 | 0 => 0 | 53 => 86 | 37 => 66 | 5 => 5 | 173 => 112 | 212 => 124 | 51 => 125 | 20 => 20 | 213 => 126 | 46 => 128 | 232 => 135 | 233 => 136 | n => n, fun | 17 => 0 | 18 => 2 | 19 => 3 | n => n⟩
theorem Tryd.lays246 : Go.Proofs.Lays.n246 Tryd.prog Tryd.lays246_ren := {
  mixed := by kernel_rfl
  f129 := Tryd.func100.trans (congrArg some (by kernel_rfl))
  f246 := Tryd.func81.trans (congrArg some (by kernel_rfl))
  f283 := Tryd.func90.trans (congrArg some (by kernel_rfl))
  f284 := Tryd.func91.trans (congrArg some (by kernel_rfl))
  f285 := Tryd.func92.trans (congrArg some (by kernel_rfl))
  f286 := Tryd.func93.trans (congrArg some (by kernel_rfl))
  f317 := Tryd.func99.trans (congrArg some (by kernel_rfl))
  f318 := Tryd.func101.trans (congrArg some (by kernel_rfl))
  f319 := Tryd.func102.trans (congrArg some (by kernel_rfl))
  f320 := Tryd.func103.trans (congrArg some (by kernel_rfl))
  f337 := Tryd.func106.trans (congrArg some (by kernel_rfl))
  f338 := Tryd.func107.trans (congrArg some (by kernel_rfl))
  t0 := Tryd.underlying0
  a0 := Tryd.isAgg0
  z0 := Tryd.sizeOf0
  v0 := Tryd.zeroValue0
  t2 := Tryd.underlying2
  a2 := Tryd.isAgg2
  z2 := Tryd.sizeOf2
  v2 := Tryd.zeroValue2
  t3 := Tryd.underlying3
  a3 := Tryd.isAgg3
  z3 := Tryd.sizeOf3
  v3 := Tryd.zeroValue3
  t4 := Tryd.underlying4
  a4 := Tryd.isAgg4
  z4 := Tryd.sizeOf4
  v4 := Tryd.zeroValue4
  t5 := Tryd.underlying5
  a5 := Tryd.isAgg5
  z5 := Tryd.sizeOf5
  v5 := Tryd.zeroValue5
  t9 := Tryd.underlying9
  a9 := Tryd.isAgg9
  z9 := Tryd.sizeOf9
  v9 := Tryd.zeroValue9
  t20 := Tryd.underlying20
  a20 := Tryd.isAgg20
  z20 := Tryd.sizeOf20
  v20 := Tryd.zeroValue20
  t37 := Tryd.underlying66
  a37 := Tryd.isAgg66
  z37 := Tryd.sizeOf66
  v37 := Tryd.zeroValue66
  t46 := Tryd.underlying128
  a46 := Tryd.isAgg128
  z46 := Tryd.sizeOf128
  v46 := Tryd.zeroValue128
  t51 := Tryd.underlying125
  a51 := Tryd.isAgg125
  z51 := Tryd.sizeOf125
  v51 := Tryd.zeroValue125
  t53 := Tryd.underlying86
  a53 := Tryd.isAgg86
  z53 := Tryd.sizeOf86
  v53 := Tryd.zeroValue86
  t171 := Tryd.underlying109
  a171 := Tryd.isAgg109
  z171 := Tryd.sizeOf109
  v171 := Tryd.zeroValue109
  t173 := Tryd.underlying112
  a173 := Tryd.isAgg112
  z173 := Tryd.sizeOf112
  v173 := Tryd.zeroValue112
  t212 := Tryd.underlying124
  a212 := Tryd.isAgg124
  z212 := Tryd.sizeOf124
  v212 := Tryd.zeroValue124
  t213 := Tryd.underlying126
  a213 := Tryd.isAgg126
  z213 := Tryd.sizeOf126
  t232 := Tryd.underlying135
  a232 := Tryd.isAgg135
  z232 := Tryd.sizeOf135
  v232 := Tryd.zeroValue135
  t233 := Tryd.underlying136
  a233 := Tryd.isAgg136
  z233 := Tryd.sizeOf136
  v233 := Tryd.zeroValue136
  g17 := by kernel_rfl
  g18 := by kernel_rfl
  g19 := by kernel_rfl }
open Go.RowKit Go.Sort Go.Lib in
/-- THE ROAD WITHOUT THE TABLE: 0 <= i < 100: two constants are read, nothing is laid: no premise on the world, and the world is as it was. (LAID: no walk: one application.) -/
theorem Tryd.internal_strconv_FormatInt_10_small (i : Nat) (hi : i < 100) (w : World) :
    Calls Tryd.prog 81 #[.int .i64 i, .int .i64 10] w fun e w' => e = .returned (.string ⟨(Lib.decDigits i).toArray⟩) ∧ w' = w := Any.internal_strconv_FormatInt_10_small Tryd.lays246 i hi w
def Tryd.laysM243_ren : Go.Shelf.Ren := ⟨fun | 243 => 68 | 246 => 81 | 283 => 90 | 284 => 91 | 285 => 92 | 286 => 93 | 129 => 100 | 317 => 99 | 318 => 101 | 319 => 102 | 320 => 103 | 337 => 106 | 338 => 107 | n => n, fun | 3 => 3 | 9 => 9 | 2 => 2 | 4 => 4 | 171 => 109 | 0 => 0 | 53 => 86 | 37 => 66 | 5 => 5 | 173 => 112 | 212 => 124 | 51 => 125 | 20 => 20 | 213 => 126 | 46 => 128 | 232 => 135 | 233 => 136 | n => n, fun | 17 => 0 | 18 => 2 | 19 => 3 | n => n⟩
theorem Tryd.laysM243 : Go.Proofs.LaysM.n243 Tryd.prog Tryd.laysM243_ren := {
  mixed := by kernel_rfl
  f129 := Tryd.func100.trans (congrArg some (by kernel_rfl))
  f243 := Tryd.func68.trans (congrArg some (by kernel_rfl))
  f246 := Tryd.func81.trans (congrArg some (by kernel_rfl))
  f283 := Tryd.func90.trans (congrArg some (by kernel_rfl))
  f284 := Tryd.func91.trans (congrArg some (by kernel_rfl))
  f285 := Tryd.func92.trans (congrArg some (by kernel_rfl))
  f286 := Tryd.func93.trans (congrArg some (by kernel_rfl))
  f317 := Tryd.func99.trans (congrArg some (by kernel_rfl))
  f318 := Tryd.func101.trans (congrArg some (by kernel_rfl))
  f319 := Tryd.func102.trans (congrArg some (by kernel_rfl))
  f320 := Tryd.func103.trans (congrArg some (by kernel_rfl))
  f337 := Tryd.func106.trans (congrArg some (by kernel_rfl))
  f338 := Tryd.func107.trans (congrArg some (by kernel_rfl))
  t0 := Tryd.underlying0
  a0 := Tryd.isAgg0
  z0 := Tryd.sizeOf0
  v0 := Tryd.zeroValue0
  t2 := Tryd.underlying2
  a2 := Tryd.isAgg2
  z2 := Tryd.sizeOf2
  v2 := Tryd.zeroValue2
  t3 := Tryd.underlying3
  a3 := Tryd.isAgg3
  z3 := Tryd.sizeOf3
  v3 := Tryd.zeroValue3
  t4 := Tryd.underlying4
  a4 := Tryd.isAgg4
  z4 := Tryd.sizeOf4
  v4 := Tryd.zeroValue4
  t5 := Tryd.underlying5
  a5 := Tryd.isAgg5
  z5 := Tryd.sizeOf5
  v5 := Tryd.zeroValue5
  t9 := Tryd.underlying9
  a9 := Tryd.isAgg9
  z9 := Tryd.sizeOf9
  v9 := Tryd.zeroValue9
  t20 := Tryd.underlying20
  a20 := Tryd.isAgg20
  z20 := Tryd.sizeOf20
  v20 := Tryd.zeroValue20
  t37 := Tryd.underlying66
  a37 := Tryd.isAgg66
  z37 := Tryd.sizeOf66
  v37 := Tryd.zeroValue66
  t46 := Tryd.underlying128
  a46 := Tryd.isAgg128
  z46 := Tryd.sizeOf128
  v46 := Tryd.zeroValue128
  t51 := Tryd.underlying125
  a51 := Tryd.isAgg125
  z51 := Tryd.sizeOf125
  v51 := Tryd.zeroValue125
  t53 := Tryd.underlying86
  a53 := Tryd.isAgg86
  z53 := Tryd.sizeOf86
  v53 := Tryd.zeroValue86
  t171 := Tryd.underlying109
  a171 := Tryd.isAgg109
  z171 := Tryd.sizeOf109
  v171 := Tryd.zeroValue109
  t173 := Tryd.underlying112
  a173 := Tryd.isAgg112
  z173 := Tryd.sizeOf112
  v173 := Tryd.zeroValue112
  t212 := Tryd.underlying124
  a212 := Tryd.isAgg124
  z212 := Tryd.sizeOf124
  v212 := Tryd.zeroValue124
  t213 := Tryd.underlying126
  a213 := Tryd.isAgg126
  z213 := Tryd.sizeOf126
  t232 := Tryd.underlying135
  a232 := Tryd.isAgg135
  z232 := Tryd.sizeOf135
  v232 := Tryd.zeroValue135
  t233 := Tryd.underlying136
  a233 := Tryd.isAgg136
  z233 := Tryd.sizeOf136
  v233 := Tryd.zeroValue136
  g17 := by kernel_rfl
  g18 := by kernel_rfl
  g19 := by kernel_rfl
  i0 := by kernel_rfl
  i2 := by kernel_rfl
  i3 := by kernel_rfl
  i4 := by kernel_rfl
  i5 := by kernel_rfl
  i9 := by kernel_rfl
  i20 := by kernel_rfl
  i37 := by kernel_rfl
  i46 := by kernel_rfl
  i51 := by kernel_rfl
  i53 := by kernel_rfl
  i171 := by kernel_rfl
  i173 := by kernel_rfl
  i212 := by kernel_rfl
  i232 := by kernel_rfl
  i233 := by kernel_rfl
  m17 := by kernel_rfl
  m18 := by kernel_rfl
  m19 := by kernel_rfl }
open Go.RowKit Go.Sort Go.Lib in
/-- internal/strconv.Itoa: "Itoa is equivalent to FormatInt(int64(i), 10).": i's decimal numeral, for every int. (LAID: no walk: one application.) -/
theorem Tryd.internal_strconv_Itoa (n : Int) (h0 : -9223372036854775808 ≤ n) (h1 : n ≤ 9223372036854775807) (w : World) (htab : Lib.TabIs Tryd.prog w "internal/strconv.uint64pow10" .u64 Lib.pow10Tab) :
    Calls Tryd.prog 68 #[.int .i64 n] w fun e w' => e = .returned (.string ⟨(Lib.itoa n).toArray⟩) ∧ ∃ k os, w' = grow (w.drewN k) os := Any.internal_strconv_Itoa Tryd.laysM243 n h0 h1 w htab
def Tryd.lays243_ren : Go.Shelf.Ren := ⟨fun | 243 => 68 | 246 => 81 | 283 => 90 | 284 => 91 | 285 => 92 | 286 => 93 | 129 => 100 | 317 => 99 | 318 => 101 | 319 => 102 | 320 => 103 | 337 => 106 | 338 => 107 | n => n, fun | 3 => 3 | 9 => 9 | 2 => 2 | 4 => 4 | 171 => 109 | 0 => 0 | 53 => 86 | 37 => 66 | 5 => 5 | 173 => 112 | 212 => 124 | 51 => 125 | 20 => 20 | 213 => 126 | 46 => 128 | 232 => 135 | 233 => 136 | n => n, fun | 17 => 0 | 18 => 2 | 19 => 3 | n => n⟩
theorem Tryd.lays243 : Go.Proofs.Lays.n243 Tryd.prog Tryd.lays243_ren := {
  mixed := by kernel_rfl
  f129 := Tryd.func100.trans (congrArg some (by kernel_rfl))
  f243 := Tryd.func68.trans (congrArg some (by kernel_rfl))
  f246 := Tryd.func81.trans (congrArg some (by kernel_rfl))
  f283 := Tryd.func90.trans (congrArg some (by kernel_rfl))
  f284 := Tryd.func91.trans (congrArg some (by kernel_rfl))
  f285 := Tryd.func92.trans (congrArg some (by kernel_rfl))
  f286 := Tryd.func93.trans (congrArg some (by kernel_rfl))
  f317 := Tryd.func99.trans (congrArg some (by kernel_rfl))
  f318 := Tryd.func101.trans (congrArg some (by kernel_rfl))
  f319 := Tryd.func102.trans (congrArg some (by kernel_rfl))
  f320 := Tryd.func103.trans (congrArg some (by kernel_rfl))
  f337 := Tryd.func106.trans (congrArg some (by kernel_rfl))
  f338 := Tryd.func107.trans (congrArg some (by kernel_rfl))
  t0 := Tryd.underlying0
  a0 := Tryd.isAgg0
  z0 := Tryd.sizeOf0
  v0 := Tryd.zeroValue0
  t2 := Tryd.underlying2
  a2 := Tryd.isAgg2
  z2 := Tryd.sizeOf2
  v2 := Tryd.zeroValue2
  t3 := Tryd.underlying3
  a3 := Tryd.isAgg3
  z3 := Tryd.sizeOf3
  v3 := Tryd.zeroValue3
  t4 := Tryd.underlying4
  a4 := Tryd.isAgg4
  z4 := Tryd.sizeOf4
  v4 := Tryd.zeroValue4
  t5 := Tryd.underlying5
  a5 := Tryd.isAgg5
  z5 := Tryd.sizeOf5
  v5 := Tryd.zeroValue5
  t9 := Tryd.underlying9
  a9 := Tryd.isAgg9
  z9 := Tryd.sizeOf9
  v9 := Tryd.zeroValue9
  t20 := Tryd.underlying20
  a20 := Tryd.isAgg20
  z20 := Tryd.sizeOf20
  v20 := Tryd.zeroValue20
  t37 := Tryd.underlying66
  a37 := Tryd.isAgg66
  z37 := Tryd.sizeOf66
  v37 := Tryd.zeroValue66
  t46 := Tryd.underlying128
  a46 := Tryd.isAgg128
  z46 := Tryd.sizeOf128
  v46 := Tryd.zeroValue128
  t51 := Tryd.underlying125
  a51 := Tryd.isAgg125
  z51 := Tryd.sizeOf125
  v51 := Tryd.zeroValue125
  t53 := Tryd.underlying86
  a53 := Tryd.isAgg86
  z53 := Tryd.sizeOf86
  v53 := Tryd.zeroValue86
  t171 := Tryd.underlying109
  a171 := Tryd.isAgg109
  z171 := Tryd.sizeOf109
  v171 := Tryd.zeroValue109
  t173 := Tryd.underlying112
  a173 := Tryd.isAgg112
  z173 := Tryd.sizeOf112
  v173 := Tryd.zeroValue112
  t212 := Tryd.underlying124
  a212 := Tryd.isAgg124
  z212 := Tryd.sizeOf124
  v212 := Tryd.zeroValue124
  t213 := Tryd.underlying126
  a213 := Tryd.isAgg126
  z213 := Tryd.sizeOf126
  t232 := Tryd.underlying135
  a232 := Tryd.isAgg135
  z232 := Tryd.sizeOf135
  v232 := Tryd.zeroValue135
  t233 := Tryd.underlying136
  a233 := Tryd.isAgg136
  z233 := Tryd.sizeOf136
  v233 := Tryd.zeroValue136
  g17 := by kernel_rfl
  g18 := by kernel_rfl
  g19 := by kernel_rfl }
open Go.RowKit Go.Sort Go.Lib in
/-- THE ROAD WITHOUT THE TABLE: 0 <= i < 100. (LAID: no walk: one application.) -/
theorem Tryd.internal_strconv_Itoa_small (i : Nat) (hi : i < 100) (w : World) :
    Calls Tryd.prog 68 #[.int .i64 i] w fun e w' => e = .returned (.string ⟨(Lib.decDigits i).toArray⟩) ∧ w' = w := Any.internal_strconv_Itoa_small Tryd.lays243 i hi w
def Tryd.laysM171_ren : Go.Shelf.Ren := ⟨fun | 171 => 40 | 243 => 68 | 246 => 81 | 283 => 90 | 284 => 91 | 285 => 92 | 286 => 93 | 129 => 100 | 317 => 99 | 318 => 101 | 319 => 102 | 320 => 103 | 337 => 106 | 338 => 107 | n => n, fun | 3 => 3 | 9 => 9 | 2 => 2 | 4 => 4 | 171 => 109 | 0 => 0 | 53 => 86 | 37 => 66 | 5 => 5 | 173 => 112 | 212 => 124 | 51 => 125 | 20 => 20 | 213 => 126 | 46 => 128 | 232 => 135 | 233 => 136 | n => n, fun | 17 => 0 | 18 => 2 | 19 => 3 | n => n⟩
theorem Tryd.laysM171 : Go.Proofs.LaysM.n171 Tryd.prog Tryd.laysM171_ren := {
  mixed := by kernel_rfl
  f129 := Tryd.func100.trans (congrArg some (by kernel_rfl))
  f171 := Tryd.func40.trans (congrArg some (by kernel_rfl))
  f243 := Tryd.func68.trans (congrArg some (by kernel_rfl))
  f246 := Tryd.func81.trans (congrArg some (by kernel_rfl))
  f283 := Tryd.func90.trans (congrArg some (by kernel_rfl))
  f284 := Tryd.func91.trans (congrArg some (by kernel_rfl))
  f285 := Tryd.func92.trans (congrArg some (by kernel_rfl))
  f286 := Tryd.func93.trans (congrArg some (by kernel_rfl))
  f317 := Tryd.func99.trans (congrArg some (by kernel_rfl))
  f318 := Tryd.func101.trans (congrArg some (by kernel_rfl))
  f319 := Tryd.func102.trans (congrArg some (by kernel_rfl))
  f320 := Tryd.func103.trans (congrArg some (by kernel_rfl))
  f337 := Tryd.func106.trans (congrArg some (by kernel_rfl))
  f338 := Tryd.func107.trans (congrArg some (by kernel_rfl))
  t0 := Tryd.underlying0
  a0 := Tryd.isAgg0
  z0 := Tryd.sizeOf0
  v0 := Tryd.zeroValue0
  t2 := Tryd.underlying2
  a2 := Tryd.isAgg2
  z2 := Tryd.sizeOf2
  v2 := Tryd.zeroValue2
  t3 := Tryd.underlying3
  a3 := Tryd.isAgg3
  z3 := Tryd.sizeOf3
  v3 := Tryd.zeroValue3
  t4 := Tryd.underlying4
  a4 := Tryd.isAgg4
  z4 := Tryd.sizeOf4
  v4 := Tryd.zeroValue4
  t5 := Tryd.underlying5
  a5 := Tryd.isAgg5
  z5 := Tryd.sizeOf5
  v5 := Tryd.zeroValue5
  t9 := Tryd.underlying9
  a9 := Tryd.isAgg9
  z9 := Tryd.sizeOf9
  v9 := Tryd.zeroValue9
  t20 := Tryd.underlying20
  a20 := Tryd.isAgg20
  z20 := Tryd.sizeOf20
  v20 := Tryd.zeroValue20
  t37 := Tryd.underlying66
  a37 := Tryd.isAgg66
  z37 := Tryd.sizeOf66
  v37 := Tryd.zeroValue66
  t46 := Tryd.underlying128
  a46 := Tryd.isAgg128
  z46 := Tryd.sizeOf128
  v46 := Tryd.zeroValue128
  t51 := Tryd.underlying125
  a51 := Tryd.isAgg125
  z51 := Tryd.sizeOf125
  v51 := Tryd.zeroValue125
  t53 := Tryd.underlying86
  a53 := Tryd.isAgg86
  z53 := Tryd.sizeOf86
  v53 := Tryd.zeroValue86
  t171 := Tryd.underlying109
  a171 := Tryd.isAgg109
  z171 := Tryd.sizeOf109
  v171 := Tryd.zeroValue109
  t173 := Tryd.underlying112
  a173 := Tryd.isAgg112
  z173 := Tryd.sizeOf112
  v173 := Tryd.zeroValue112
  t212 := Tryd.underlying124
  a212 := Tryd.isAgg124
  z212 := Tryd.sizeOf124
  v212 := Tryd.zeroValue124
  t213 := Tryd.underlying126
  a213 := Tryd.isAgg126
  z213 := Tryd.sizeOf126
  t232 := Tryd.underlying135
  a232 := Tryd.isAgg135
  z232 := Tryd.sizeOf135
  v232 := Tryd.zeroValue135
  t233 := Tryd.underlying136
  a233 := Tryd.isAgg136
  z233 := Tryd.sizeOf136
  v233 := Tryd.zeroValue136
  g17 := by kernel_rfl
  g18 := by kernel_rfl
  g19 := by kernel_rfl
  i0 := by kernel_rfl
  i2 := by kernel_rfl
  i3 := by kernel_rfl
  i4 := by kernel_rfl
  i5 := by kernel_rfl
  i9 := by kernel_rfl
  i20 := by kernel_rfl
  i37 := by kernel_rfl
  i46 := by kernel_rfl
  i51 := by kernel_rfl
  i53 := by kernel_rfl
  i171 := by kernel_rfl
  i173 := by kernel_rfl
  i212 := by kernel_rfl
  i232 := by kernel_rfl
  i233 := by kernel_rfl
  m17 := by kernel_rfl
  m18 := by kernel_rfl
  m19 := by kernel_rfl }
open Go.RowKit Go.Sort Go.Lib in
/-- strconv.Itoa: "Itoa is equivalent to FormatInt(int64(i), 10).": i's DECIMAL NUMERAL ('Lib.itoa': a '-' where i is negative, then the digits), FOR EVERY int. The world behind the call: the world before it, new blocks behind the heap (the library's 'var a [24]byte'), draws. (LAID: no walk: one application.) -/
theorem Tryd.strconv_Itoa (n : Int) (h0 : -9223372036854775808 ≤ n) (h1 : n ≤ 9223372036854775807) (w : World) (htab : Lib.TabIs Tryd.prog w "internal/strconv.uint64pow10" .u64 Lib.pow10Tab) :
    Calls Tryd.prog 40 #[.int .i64 n] w fun e w' => e = .returned (.string ⟨(Lib.itoa n).toArray⟩) ∧ ∃ k os, w' = grow (w.drewN k) os := Any.strconv_Itoa Tryd.laysM171 n h0 h1 w htab
def Tryd.lays171_ren : Go.Shelf.Ren := ⟨fun | 171 => 40 | 243 => 68 | 246 => 81 | 283 => 90 | 284 => 91 | 285 => 92 | 286 => 93 | 129 => 100 | 317 => 99 | 318 => 101 | 319 => 102 | 320 => 103 | 337 => 106 | 338 => 107 | n => n, fun | 3 => 3 | 9 => 9 | 2 => 2 | 4 => 4 | 171 => 109 | 0 => 0 | 53 => 86 | 37 => 66 | 5 => 5 | 173 => 112 | 212 => 124 | 51 => 125 | 20 => 20 | 213 => 126 | 46 => 128 | 232 => 135 | 233 => 136 | n => n, fun | 17 => 0 | 18 => 2 | 19 => 3 | n => n⟩
theorem Tryd.lays171 : Go.Proofs.Lays.n171 Tryd.prog Tryd.lays171_ren := {
  mixed := by kernel_rfl
  f129 := Tryd.func100.trans (congrArg some (by kernel_rfl))
  f171 := Tryd.func40.trans (congrArg some (by kernel_rfl))
  f243 := Tryd.func68.trans (congrArg some (by kernel_rfl))
  f246 := Tryd.func81.trans (congrArg some (by kernel_rfl))
  f283 := Tryd.func90.trans (congrArg some (by kernel_rfl))
  f284 := Tryd.func91.trans (congrArg some (by kernel_rfl))
  f285 := Tryd.func92.trans (congrArg some (by kernel_rfl))
  f286 := Tryd.func93.trans (congrArg some (by kernel_rfl))
  f317 := Tryd.func99.trans (congrArg some (by kernel_rfl))
  f318 := Tryd.func101.trans (congrArg some (by kernel_rfl))
  f319 := Tryd.func102.trans (congrArg some (by kernel_rfl))
  f320 := Tryd.func103.trans (congrArg some (by kernel_rfl))
  f337 := Tryd.func106.trans (congrArg some (by kernel_rfl))
  f338 := Tryd.func107.trans (congrArg some (by kernel_rfl))
  t0 := Tryd.underlying0
  a0 := Tryd.isAgg0
  z0 := Tryd.sizeOf0
  v0 := Tryd.zeroValue0
  t2 := Tryd.underlying2
  a2 := Tryd.isAgg2
  z2 := Tryd.sizeOf2
  v2 := Tryd.zeroValue2
  t3 := Tryd.underlying3
  a3 := Tryd.isAgg3
  z3 := Tryd.sizeOf3
  v3 := Tryd.zeroValue3
  t4 := Tryd.underlying4
  a4 := Tryd.isAgg4
  z4 := Tryd.sizeOf4
  v4 := Tryd.zeroValue4
  t5 := Tryd.underlying5
  a5 := Tryd.isAgg5
  z5 := Tryd.sizeOf5
  v5 := Tryd.zeroValue5
  t9 := Tryd.underlying9
  a9 := Tryd.isAgg9
  z9 := Tryd.sizeOf9
  v9 := Tryd.zeroValue9
  t20 := Tryd.underlying20
  a20 := Tryd.isAgg20
  z20 := Tryd.sizeOf20
  v20 := Tryd.zeroValue20
  t37 := Tryd.underlying66
  a37 := Tryd.isAgg66
  z37 := Tryd.sizeOf66
  v37 := Tryd.zeroValue66
  t46 := Tryd.underlying128
  a46 := Tryd.isAgg128
  z46 := Tryd.sizeOf128
  v46 := Tryd.zeroValue128
  t51 := Tryd.underlying125
  a51 := Tryd.isAgg125
  z51 := Tryd.sizeOf125
  v51 := Tryd.zeroValue125
  t53 := Tryd.underlying86
  a53 := Tryd.isAgg86
  z53 := Tryd.sizeOf86
  v53 := Tryd.zeroValue86
  t171 := Tryd.underlying109
  a171 := Tryd.isAgg109
  z171 := Tryd.sizeOf109
  v171 := Tryd.zeroValue109
  t173 := Tryd.underlying112
  a173 := Tryd.isAgg112
  z173 := Tryd.sizeOf112
  v173 := Tryd.zeroValue112
  t212 := Tryd.underlying124
  a212 := Tryd.isAgg124
  z212 := Tryd.sizeOf124
  v212 := Tryd.zeroValue124
  t213 := Tryd.underlying126
  a213 := Tryd.isAgg126
  z213 := Tryd.sizeOf126
  t232 := Tryd.underlying135
  a232 := Tryd.isAgg135
  z232 := Tryd.sizeOf135
  v232 := Tryd.zeroValue135
  t233 := Tryd.underlying136
  a233 := Tryd.isAgg136
  z233 := Tryd.sizeOf136
  v233 := Tryd.zeroValue136
  g17 := by kernel_rfl
  g18 := by kernel_rfl
  g19 := by kernel_rfl }
open Go.RowKit Go.Sort Go.Lib in
/-- THE ROAD WITHOUT THE TABLE: 0 <= i < 100: NO PREMISE ON THE WORLD, AND THE WORLD IS AS IT WAS: a row that keeps its argument in that range need list no table ('laid = []'). (LAID: no walk: one application.) -/
theorem Tryd.strconv_Itoa_small (i : Nat) (hi : i < 100) (w : World) :
    Calls Tryd.prog 40 #[.int .i64 i] w fun e w' => e = .returned (.string ⟨(Lib.decDigits i).toArray⟩) ∧ w' = w := Any.strconv_Itoa_small Tryd.lays171 i hi w
def Tryd.lays111_ren : Go.Shelf.Ren := ⟨fun | 111 => 46 | n => n, fun | 28 => 29 | 3 => 3 | 4 => 4 | 0 => 0 | n => n, fun | n => n⟩
theorem Tryd.lays111 : Go.Proofs.Lays.n111 Tryd.prog Tryd.lays111_ren := {
  mixed := by kernel_rfl
  f111 := Tryd.func46.trans (congrArg some (by kernel_rfl))
  t0 := Tryd.underlying0
  a0 := Tryd.isAgg0
  z0 := Tryd.sizeOf0
  v0 := Tryd.zeroValue0
  t3 := Tryd.underlying3
  a3 := Tryd.isAgg3
  z3 := Tryd.sizeOf3
  v3 := Tryd.zeroValue3
  t4 := Tryd.underlying4
  a4 := Tryd.isAgg4
  z4 := Tryd.sizeOf4
  v4 := Tryd.zeroValue4
  t28 := Tryd.underlying29
  a28 := Tryd.isAgg29
  z28 := Tryd.sizeOf29
  v28 := Tryd.zeroValue29 }
open Go.RowKit Go.Lib in
/-- slices.Equal at []int: "Equal reports whether two slices are equal: the same length and all elements equal. If the lengths are different, Equal returns false. Otherwise, the elements are compared in increasing index order, and the comparison stops at the first unequal pair. Empty and nil slices are considered equal.": IT RETURNS WHETHER THE TWO LISTS OF ELEMENTS ARE ONE; the world is as it was but for the count of draws (the test 's1[i] != s2[i]' has two reads, whose order the model draws, once a round). 'xs', 'ys': what the cells behind the two addresses hold (the spare capacity too, if you have it); 'xs.take n', 'ys.take m': the elements. THE TWO SLICES MAY OVERLAP. (LAID: no walk: one application.) -/
theorem Tryd.slices_Equal_int (b1 o1 n c b2 o2 m d : Nat) (xs ys : List Int) (w : World) (hx : n ≤ xs.length) (hy : m ≤ ys.length) (hbig : n ≤ 9223372036854775807) (hbig2 : m ≤ 9223372036854775807) (hc1 : ∀ j, j < xs.length → w.cell? ⟨b1, o1 + j, none⟩ = some (.int .i64 (xs.getD j 0))) (hc2 : ∀ j, j < ys.length → w.cell? ⟨b2, o2 + j, none⟩ = some (.int .i64 (ys.getD j 0))) :
    Calls Tryd.prog 46 #[.slice (some ⟨b1, o1, none⟩) n c, .slice (some ⟨b2, o2, none⟩) m d] w fun e w' => e = .returned (.bool (xs.take n == ys.take m)) ∧ ∃ q, w' = w.drewN q := Any.slices_Equal_int Tryd.lays111 b1 o1 n c b2 o2 m d xs ys w hx hy hbig hbig2 hc1 hc2
open Go.RowKit Go.Lib in
/-- The same where the first is of length 0 (a nil one too): no cell is asked for. (LAID: no walk: one application.) -/
theorem Tryd.slices_Equal_int_empty (a1 a2 : Option Addr) (c m d : Nat) (w : World) (hbig2 : m ≤ 9223372036854775807) :
    Calls Tryd.prog 46 #[.slice a1 0 c, .slice a2 m d] w fun e w' => e = .returned (.bool (decide (m = 0))) ∧ w' = w := Any.slices_Equal_int_empty Tryd.lays111 a1 a2 c m d w hbig2
open Go.RowKit Go.Lib in
theorem Tryd.slices_Equal_int_lens (a1 a2 : Option Addr) (n c m d : Nat) (w : World) (hnm : n ≠ m) :
    Calls Tryd.prog 46 #[.slice a1 n c, .slice a2 m d] w fun e w' => e = .returned (.bool false) ∧ w' = w := Any.slices_Equal_int_lens Tryd.lays111 a1 a2 n c m d w hnm
end Go.Proofs
