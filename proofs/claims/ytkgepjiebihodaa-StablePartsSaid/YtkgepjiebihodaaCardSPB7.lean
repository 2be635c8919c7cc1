/- Texts of the proof, part 7. -/
import Derived.Laws.StructEq
import Derived.Test.YtkgepjiebihodaaCardSPB6
/- The contract of package dag's next arcs. -/
namespace Go.Proofs.Ytkgepjiebihodaa
set_option linter.unusedVariables false
set_option linter.unusedSimpArgs false
namespace PW
open Go.RowKit Reg Mem Net

/-- Whether the arc a is a next arc of a node with distance dn towards d, by the distances L. -/
def passB (T : Topo) (D : List Bool) (L : List Int) (dn : Int) (d a : Nat) : Bool :=
  !(downN D a || decide (L.getD (headN T a).toNat 0 < 0) || (decide (headN T a ≠ (d : Int)) && overN T (headN T a).toNat)) && decide (L.getD (headN T a).toNat 0 + costN T a = dn)
def passL (T : Topo) (D : List Bool) (L : List Int) (dn : Int) (d : Nat) (l : List Int) : List Int := l.filter fun a => passB T D L dn d a.toNat

set_option maxRecDepth 10000 in
set_option maxHeartbeats 1000000 in
theorem dnext_can (T : Topo) (D : List Bool) (L lv : List Int) (n d : Nat) (hv : validB T = true) (hf : fitsB T D = true) (hL : (L.length : Int) = T.nodes) (hub : ∀ x ∈ L, -1 ≤ x ∧ x ≤ 4194240) (hn : (n : Int) < T.nodes) (hd : (d : Int) < T.nodes)
    (hlv : ∀ a ∈ lv, 0 ≤ a ∧ a < 2 * (T.links.length : Int)) (hll : lv.length ≤ 100000) :
    Can Try.prog 82 [topoV T, boolsV D, intsV L, intsV lv, num n, num d] (· = intsV (if n = d ∨ L.getD n 0 < 0 then [] else passL T D L (L.getD n 0) d lv)) := by
  have hbd := valid_bd hv
  have hS := sound_of hv
  have hnL : n < L.length := by omega
  refine can_of Try.func82 rfl Try.ntmps82 rfl ?_
  refine W_cs (.a 2 rfl <| .k [1, 2, 3, 4, 5, 6] rfl) ?_
  refine W_cs (.a 1 rfl <| .k [1, 2, 3, 4, 5, 6, 13] rfl) ?_
  obtain ⟨q1, hq1⟩ : ∃ q, decide ((n : Int) = (d : Int)) = q := ⟨_, rfl⟩
  obtain ⟨q2, hq2⟩ : ∃ q, decide (L.getD n 0 < 0) = q := ⟨_, rfl⟩
  refine W_seq ?_
  refine W_csK 26 (.raw (.bool (q1 || q2))) [1, 2, 3, 4, 5, 6, 13] rfl ?_ ?_
  · refine .a 2 rfl <| .v (y_q rfl (hq1)) rfl <| .a 1 rfl <| ?_
    cases q1
    · exact .a 2 rfl <| .v (y_ix (n) rfl) rfl <| .v (y_ld rfl (ints_get L n hnL)) rfl <| .v (y_q rfl (hq2)) rfl <| .a 1 rfl <| .k [26, 1, 2, 3, 4, 5, 6, 13] rfl
    · exact .a 6 rfl <| .k [26, 1, 2, 3, 4, 5, 6, 13] rfl
  refine W_cond (b := q1 || q2) rfl (fun hc => ?_) (fun hc => ?_)
  · have : n = d ∨ L.getD n 0 < 0 := by
      rcases Bool.or_eq_true_iff.1 hc with h | h
      · rw [h] at hq1; exact .inl (by have := of_decide_eq_true hq1; omega)
      · rw [h] at hq2; exact .inr (of_decide_eq_true hq2)
    rw [if_pos this]
    refine W_cs (.a 2 rfl <| .k [12] rfl) ?_
    refine W_ret ⟨_, _, .cons (.tmp rfl) .nil, Pur.nils, rfl⟩
  · obtain ⟨c1, c2⟩ := Bool.or_eq_false_iff.1 hc
    rw [c1] at hq1
    rw [c2] at hq2
    have hnd : ¬ (n = d ∨ L.getD n 0 < 0) := by
      have := of_decide_eq_false hq1
      have := of_decide_eq_false hq2
      omega
    rw [if_neg hnd]
    refine W_skip ?_
    refine W_seq ?_
    refine W_cs (.a 3 rfl <| .k [1, 2, 4, 5, 6, 13, 28, 29, 30] rfl) ?_
    refine W_adopt 13 3 1 rfl ?_
    refine W_block ?_
    refine W_sub (.cons (k := 1) rfl <| .cons (k := 2) rfl <| .cons (k := 4) rfl <| .cons (k := 5) rfl <| .cons (k := 6) rfl <| .cons (k := 13) rfl <| .cons (k := 28) rfl <| .cons (k := 29) rfl <| .cons (k := 30) rfl <| Sub.nil _) ?_
    refine W_loop (fun r s => ∃ i, i ≤ lv.length ∧ r = lv.length - i ∧ s = ⟨[(1, boolsV D), (2, intsV L), (4, num n), (5, num d), (6, .pin (topoP T) 0), (13, .own 0), (28, intsV lv), (29, num lv.length), (30, num i)], [some (.row 3 1 (passL T D L (L.getD n 0) d (lv.take i)).length (intsP (passL T D L (L.getD n 0) d (lv.take i))))]⟩) lv.length ⟨0, by omega, by omega, ?_⟩ ?_
    · simp only [List.take_zero, passL, List.filter_nil]
      rfl
    · rintro r s ⟨i, hi, rfl, rfl⟩
      refine W_cs (.a 1 rfl <| .k [1, 2, 4, 5, 6, 13, 28, 29, 30, 31] rfl) ?_
      refine W_seq ?_
      refine W_cond (b := decide ((i : Int) < (lv.length : Int))) rfl (fun hc => ?_) (fun hc => ?_)
      · have hlt : i < lv.length := by have := of_decide_eq_true hc; omega
        refine W_skip ?_
        obtain ⟨a, ha⟩ : ∃ a : Nat, lv.getD i 0 = (a : Int) := Int.eq_ofNat_of_zero_le (hlv _ (getD_mem hlt)).1
        have ham : a < 2 * T.links.length := by
          have := (hlv (lv.getD i 0) (getD_mem hlt)).2
          omega
        have hstep : passL T D L (L.getD n 0) d (lv.take (i + 1)) = passL T D L (L.getD n 0) d (lv.take i) ++ (if passB T D L (L.getD n 0) d a then [(a : Int)] else []) := by
          unfold passL
          rw [List.take_add_one, List.filter_append, show lv[i]? = some (a : Int) by rw [← ha, List.getD_eq_getElem?_getD]; simp [hlt]]
          congr 1
          simp only [Option.toList_some, List.filter_cons, List.filter_nil, Int.toNat_natCast]
        have hlen : (passL T D L (L.getD n 0) d (lv.take i)).length ≤ 100000 := Nat.le_trans (List.length_filter_le _ _) (by rw [List.length_take]; omega)
        obtain ⟨hd0, hhN⟩ := hS.head a ham
        obtain ⟨h, hh⟩ := Int.eq_ofNat_of_zero_le hd0
        have hhL : h < L.length := by omega
        have hub1 : -1 ≤ L.getD h 0 ∧ L.getD h 0 ≤ 4194240 := hub _ (getD_mem hhL)
        have hcb := hS.cost a ham
        have hDl : D.length = 0 ∨ a < D.length := by simp only [fitsB, decide_eq_true_eq] at hf; omega
        have hov : T.over.length = 0 ∨ h < T.over.length := by have := hbd.2.2.2; omega
        refine W_seq ?_
        refine W_block ?_
        refine W_cs (.v (y_ix (i) rfl) rfl <| .v (y_ld rfl ((ints_get lv i hlt).trans (by rw [ha]))) rfl <| .a 1 rfl <| .k [1, 2, 4, 5, 6, 13, 15, 28, 29, 30] rfl) ?_
        refine W_cs (.a 2 rfl <| .c rfl (hh ▸ head_can T a ham (by omega)) rfl <| .a 1 rfl <| .k [1, 2, 4, 5, 6, 13, 15, 16, 28, 29, 30] rfl) ?_
        obtain ⟨p1, hp1⟩ : ∃ q, downN D a = q := ⟨_, rfl⟩
        obtain ⟨p2, hp2⟩ : ∃ q, decide (L.getD h 0 < 0) = q := ⟨_, rfl⟩
        obtain ⟨p3, hp3⟩ : ∃ q, decide ((h : Int) ≠ (d : Int)) = q := ⟨_, rfl⟩
        obtain ⟨p4, hp4⟩ : ∃ q, overN T h = q := ⟨_, rfl⟩
        obtain ⟨p5, hp5⟩ : ∃ q, decide (L.getD h 0 + costN T a = L.getD n 0) = q := ⟨_, rfl⟩
        have hpass : passB T D L (L.getD n 0) d a = (!((p1 || p2) || (p3 && p4)) && p5) := by
          unfold passB; rw [hh, Int.toNat_natCast, hp1, hp2, hp3, hp4, hp5]
        refine W_seq ?_
        refine W_csK 56 (.raw (.bool ((p1 || p2) || (p3 && p4)))) [1, 2, 4, 5, 6, 13, 15, 16, 28, 29, 30] rfl ?_ ?_
        · refine .a 2 rfl <| .c rfl (hp1 ▸ down_can D a hDl) rfl <| .a 1 rfl <| ?_
          cases p1
          · refine .a 2 rfl <| .v (y_ix (h) rfl) rfl <| .v (y_ld rfl (ints_get L h hhL)) rfl <| .v (y_q rfl (hp2)) rfl <| .a 2 rfl <| ?_
            cases p2
            · refine .a 2 rfl <| .v (y_q rfl (hp3)) rfl <| .a 1 rfl <| ?_
              cases p3
              · exact .a 5 rfl <| .k [56, 1, 2, 4, 5, 6, 13, 15, 16, 28, 29, 30] rfl
              · exact .a 2 rfl <| .c rfl (hp4 ▸ over_can T h hov) rfl <| .a 2 rfl <| .k [56, 1, 2, 4, 5, 6, 13, 15, 16, 28, 29, 30] rfl
            · exact .a 9 rfl <| .k [56, 1, 2, 4, 5, 6, 13, 15, 16, 28, 29, 30] rfl
          · exact .a 16 rfl <| .k [56, 1, 2, 4, 5, 6, 13, 15, 16, 28, 29, 30] rfl
        refine W_cond (b := (p1 || p2) || (p3 && p4)) rfl (fun hc => ?_) (fun hc => ?_)
        · rw [hc] at hpass
          refine W_exit ?_
          refine W_chain (.v (y_ar rfl) rfl <| .a 1 rfl <| .k [1, 2, 4, 5, 6, 13, 28, 29, 30] rfl) ?_
          refine ⟨lv.length - (i + 1), by omega, i + 1, by omega, rfl, ?_⟩
          rw [hstep, hpass]
          simp only [Bool.not_true, Bool.false_and, Bool.false_eq_true, if_false, List.append_nil]
          rfl
        · rw [hc] at hpass
          refine W_skip ?_
          refine W_drs mixed (by kernel_rfl) (.a 2 rfl <| .v [57, 58] (y_ix (h) rfl) rfl rfl <| .v [59] (y_ld rfl (ints_get L h hhL)) rfl rfl <| .a 2 rfl <| .v [61, 62] (y_c rfl (cost_can T a ham)) rfl rfl <| .v [60, 63] (y_ar rfl) rfl rfl <| .a 2 rfl <| .v [65, 66] (y_ix (n) rfl) rfl rfl <| .v [67] (y_ld rfl (ints_get L n hnL)) rfl rfl <| .v [64, 68] (y_q rfl (hp5)) rfl rfl <| .k [1, 2, 4, 5, 6, 13, 15, 28, 29, 30, 69] rfl) ?_
          refine W_cond (b := p5) rfl (fun hc5 => ?_) (fun hc5 => ?_)
          · rw [hc5] at hpass
            refine W_region ?_
            refine WR_a 3 rfl <| WR_l (l_append rfl (fok.rk.get rfl) rfl rfl rfl rfl (by unfold maxLen; omega)) rfl <| WR_a 1 rfl ?_
            refine WR_ren [1] (.c 1 <| .c 2 <| .c 4 <| .c 5 <| .c 6 <| .c 13 <| .c 28 <| .c 29 <| .c 30 <| .nil) (.kept rfl (.rowP rfl (intsP_snoc _ _)) <| .nil) rfl rfl (WR_nil ?_)
            refine W_chain (.v (y_ar rfl) rfl <| .a 1 rfl <| .k [1, 2, 4, 5, 6, 13, 28, 29, 30] rfl) ?_
            refine ⟨lv.length - (i + 1), by omega, i + 1, by omega, rfl, ?_⟩
            rw [hstep, hpass]
            simp only [Bool.not_false, Bool.true_and, if_true, List.length_append, List.length_singleton]
            rfl
          · rw [hc5] at hpass
            refine W_skip ?_
            refine W_chain (.v (y_ar rfl) rfl <| .a 1 rfl <| .k [1, 2, 4, 5, 6, 13, 28, 29, 30] rfl) ?_
            refine ⟨lv.length - (i + 1), by omega, i + 1, by omega, rfl, ?_⟩
            rw [hstep, hpass]
            simp only [Bool.not_false, Bool.true_and, Bool.false_eq_true, if_false, List.append_nil]
            rfl
      · have : i = lv.length := by have := of_decide_eq_false hc; omega
        subst this
        rw [List.take_length]
        refine W_exit ?_
        refine W_cs (.a 2 rfl <| .k [12] rfl) ?_
        exact W_ret ⟨_, _, .cons (.tmp rfl) .nil, Pur.ownL rfl PurL.pure, rfl⟩
end PW
end Go.Proofs.Ytkgepjiebihodaa

/- Package spf: check, Dist; package dag: Next; package graph: Out. -/
namespace Go.Proofs.Ytkgepjiebihodaa
set_option linter.unusedVariables false
set_option linter.unusedSimpArgs false
namespace PW
open Go.RowKit Reg Mem Net Heap

instance (rs : List (List Int)) : IsOne (rowsV rs) := by unfold rowsV; infer_instance
instance (T : Topo) : IsOneL (topoP T) := by unfold topoP; infer_instance
def chkE (T : Topo) (D : List Bool) (ns : List Int) : Int := if validB T && fitsB T D then (if ns.all (nodeB T) then 0 else 2) else 1

set_option maxRecDepth 10000 in
set_option maxHeartbeats 1000000 in
theorem check_can (T : Topo) (D : List Bool) (ns : List Int) (hns : ns.length ≤ 1000) : Can Try.prog 61 [topoV T, boolsV D, intsV ns] (· = num (chkE T D ns)) := by
  refine can_of Try.func61 rfl Try.ntmps61 rfl ?_
  refine W_cs (.a 2 rfl <| .k [1, 2, 3] rfl) ?_
  refine W_seq ?_
  obtain ⟨q1, hq1⟩ : ∃ q, validB T = q := ⟨_, rfl⟩
  obtain ⟨q2, hq2⟩ : ∃ q, fitsB T D = q := ⟨_, rfl⟩
  refine W_csK 17 (.raw (.bool ((!q1) || (!q2)))) [2, 3] rfl ?_ ?_
  · refine .a 1 rfl <| .c rfl (hq1 ▸ valid_can T) rfl <| .a 2 rfl <| ?_
    cases q1
    · exact .a 5 rfl <| .k [17, 2, 3] rfl
    · exact .a 2 rfl <| .c rfl (hq2 ▸ fits_can T D (by have := links_le hq1; omega)) rfl <| .a 2 rfl <| .k [17, 2, 3] rfl
  refine W_cond rfl (fun hc => ?_) (fun hc => ?_)
  · have hch : chkE T D ns = 1 := by
      unfold chkE
      rw [hq1, hq2, if_neg]
      revert hc
      cases q1 <;> cases q2 <;> simp
    refine W_cs (.a 1 rfl <| .k [6] rfl) ?_
    refine W_ret ?_
    exact ⟨_, _, ResL.of rfl, Pur.pure, by rw [hch]; rfl⟩
  · have hok : (validB T && fitsB T D) = true := by
      rw [hq1, hq2]
      revert hc
      cases q1 <;> cases q2 <;> simp
    refine W_skip ?_
    refine W_seq ?_
    refine W_cs (.a 3 rfl <| .k [3, 18, 19, 20] rfl) ?_
    refine W_block ?_
    refine W_k [3, 18, 19, 20] rfl ?_
    refine W_loop (fun r s => ∃ i, i ≤ ns.length ∧ (ns.take i).all (nodeB T) = true ∧ r = ns.length - i ∧ s = ⟨[(3, .pin (topoP T) 0), (18, intsV ns), (19, num ns.length), (20, num i)], []⟩) ns.length ⟨0, by omega, by simp, by omega, rfl⟩ ?_
    rintro r s ⟨i, hi, hall, rfl, rfl⟩
    refine W_cs (.a 1 rfl <| .k [3, 18, 19, 20, 21] rfl) ?_
    refine W_seq ?_
    refine W_cond rfl (fun hc => ?_) (fun hc => ?_)
    · have hlt : i < ns.length := by have := of_decide_eq_true hc; omega
      refine W_skip ?_
      refine W_seq ?_
      refine W_block ?_
      refine W_cs (.v (y_ix (i) rfl) rfl <| .v (y_ld rfl (ints_get ns i hlt)) rfl <| .a 1 rfl <| .k [3, 8, 18, 19, 20] rfl) ?_
      refine W_cs (.a 2 rfl <| .c rfl (node_can T _) rfl <| .a 1 rfl <| .k [3, 18, 19, 20, 27] rfl) ?_
      refine W_cond rfl (fun hc => ?_) (fun hc => ?_)
      · have hch : chkE T D ns = 2 := by
          unfold chkE
          rw [if_pos hok, if_neg]
          intro h
          have h1 := List.all_eq_true.1 h _ (getD_mem (d := 0) hlt)
          rw [h1] at hc
          cases hc
        refine W_cs (.a 1 rfl <| .k [6] rfl) ?_
        refine W_ret ?_
        exact ⟨_, _, ResL.of rfl, Pur.pure, by rw [hch]; rfl⟩
      · have hall' : (ns.take (i + 1)).all (nodeB T) = true := by
          rw [take_step ns i 0 hlt, List.all_append, hall]
          have : nodeB T (ns.getD i 0) = true := by revert hc; cases nodeB T (ns.getD i 0) <;> simp
          simp only [List.all_cons, this, List.all_nil, Bool.and_self]
        refine W_skip ?_
        refine W_chain (.v (y_ar rfl) rfl <| .a 1 rfl <| .k [3, 18, 19, 20] rfl) ?_
        exact ⟨ns.length - (i + 1), by omega, i + 1, by omega, hall', rfl, rfl⟩
    · have hie : i = ns.length := by have := of_decide_eq_false hc; omega
      refine W_exit ?_
      refine W_cs (.a 1 rfl <| .k [6] rfl) ?_
      refine W_ret ?_
      refine ⟨_, _, ResL.of rfl, Pur.pure, ?_⟩
      unfold chkE
      rw [if_pos hok, if_pos (by rw [hie, List.take_length] at hall; exact hall)]
      rfl

set_option maxRecDepth 10000 in
set_option maxHeartbeats 1000000 in
theorem dist1_can (rs : List (List Int)) (i : Nat) (hi : i < rs.length) : Can Try.prog 76 ([num i] ++ [.pin [rowsV rs] 0]) (· = intsV (rs.getD i [])) := by
  refine can_of Try.func76 rfl Try.ntmps76 rfl ?_
  refine W_cs (.a 1 rfl <| .k [0, 1] rfl) ?_
  refine W_cs (.a 2 rfl <| .v (y_ix (i) rfl) rfl <| .v (y_ld rfl ((show (rs.map intsV)[i]? = some (intsV (rs.getD i [])) by simp [hi]))) rfl <| .a 1 rfl <| .k [3] rfl) ?_
  refine W_ret ?_
  exact ⟨_, _, ResL.of rfl, Pur.pure, rfl⟩
set_option maxRecDepth 10000 in
set_option maxHeartbeats 1000000 in
theorem dist2_can (T : Topo) (a : Nat) (ha : a < 2 * T.links.length) : Can Try.prog 77 ([num a] ++ [.pin (topoP T) 0]) (· = num (tailN T a)) := by
  refine can_of Try.func77 rfl Try.ntmps77 rfl ?_
  refine W_cs (.a 1 rfl <| .k [0, 1] rfl) ?_
  refine W_cs (.a 2 rfl <| .c rfl (tail_can T a ha) rfl <| .a 1 rfl <| .k [3] rfl) ?_
  refine W_ret ?_
  exact ⟨_, _, ResL.of rfl, Pur.pure, rfl⟩

/-- Numbers, or an error. -/
def intsE (e : Int) (l : List Int) : PV := .tuple [intsV (if e = 0 then l else []), num e]
instance (e : Int) (l : List Int) : IsPure (intsE e l) := by unfold intsE; infer_instance
set_option maxRecDepth 10000 in
set_option maxHeartbeats 1000000 in
theorem dist_can (T : Topo) (D : List Bool) (d : Int) : Can Try.prog 56 [topoV T, boolsV D, num d] (· = intsE (chkE T D [d]) (distL T D d.toNat false)) := by
  refine can_of Try.func56 rfl Try.ntmps56 rfl ?_
  refine W_cs (.a 3 rfl <| .k [1, 2, 3] rfl) ?_
  refine W_seq ?_
  refine W_cs (.a 4 rfl <| .c rfl (check_can T D [d] (by simp)) rfl <| .a 1 rfl <| .k [1, 2, 3, 8] rfl) ?_
  refine W_cs (.a 2 rfl <| .k [1, 2, 3, 8, 17] rfl) ?_
  refine W_cond rfl (fun hc => ?_) (fun hc => ?_)
  · have he : chkE T D [d] ≠ 0 := of_decide_eq_true hc
    refine W_cs (.a 3 rfl <| .k [6, 7] rfl) ?_
    refine W_ret ?_
    exact ⟨_, _, ResL.of rfl, Pur.tupleL (PurL.cons Pur.nils (PurL.cons Pur.pure PurL.nil)), by unfold intsE; rw [if_neg he]; rfl⟩
  · have he : chkE T D [d] = 0 := by have := of_decide_eq_false hc; omega
    have hok : (validB T && fitsB T D) = true ∧ nodeB T d = true := by
      unfold chkE at he
      split at he
      · rename_i h1
        split at he
        · rename_i h2; exact ⟨h1, by simpa using h2⟩
        · omega
      · omega
    obtain ⟨hvf, hnd⟩ := hok
    obtain ⟨hv, hf⟩ := Bool.and_eq_true_iff.1 hvf
    have hd : 0 ≤ d ∧ d < T.nodes := by simpa [nodeB] using hnd
    obtain ⟨n, rfl⟩ := Int.eq_ofNat_of_zero_le hd.1
    have hS := sound_of hv
    refine W_skip ?_
    refine W_rs ?_
    refine WR_a 1 rfl <| WR_c rfl (entering_can T hv) rfl <| WR_a 2 rfl <| WR_k [1, 2, 3, 9] rfl ?_
    refine W_rs ?_
    refine WR_a 3 rfl <| WR_v (y_makeFunc rfl rfl) rfl <| WR_a 4 rfl <| WR_k [10] rfl ?_
    refine W_freeze (.cons 10 rfl (Pur.ptrL rfl (PurL.cons Pur.pure <| PurL.cons Pur.pure <| PurL.cons Pur.pure <| PurL.cons Pur.pure <| PurL.cons Pur.pure <| PurL.cons (Pur.funcL (PurL.cons (Pur.ptrL rfl (PurL.cons Pur.pure PurL.nil)) PurL.nil)) <| PurL.cons Pur.pure PurL.nil)) .nil) ?_
    refine W_cs (.a 1 rfl <| .c rfl (run_can T D n false 76 77 [.pin [rowsV (rowsL (headN T) T.nodes.toNat (2 * T.links.length))] 0] [.pin (topoP T) 0] hv hf hd.2 (by kernel_rfl) (by kernel_rfl) (fun i hi => by have h := dist1_can (rowsL (headN T) T.nodes.toNat (2 * T.links.length)) i (by rw [rowsL_len]; omega); rw [rowsL_get _ _ _ _ (by omega)] at h; exact h) (fun a ha => dist2_can T a ha)) rfl <| .a 2 rfl <| .k [6, 7] rfl) ?_
    refine W_ret ?_
    exact ⟨_, _, ResL.of rfl, Pur.pure, by unfold intsE; rw [if_pos he, he]; rfl⟩
end PW
end Go.Proofs.Ytkgepjiebihodaa

/- Package graph: Out; package dag: dists, Next. -/
namespace Go.Proofs.Ytkgepjiebihodaa
set_option linter.unusedVariables false
set_option linter.unusedSimpArgs false
namespace PW
open Go.RowKit Reg Mem Net Heap

def nodeE (T : Topo) (D : List Bool) (n d : Int) : Int := if chkE T D [d] = 0 then (if nodeB T n then 0 else 2) else chkE T D [d]
set_option maxRecDepth 10000 in
set_option maxHeartbeats 1000000 in
theorem dists_can (T : Topo) (D : List Bool) (n d : Int) : Can Try.prog 79 [topoV T, boolsV D, num n, num d] (· = intsE (nodeE T D n d) (distL T D d.toNat false)) := by
  refine can_of Try.func79 rfl Try.ntmps79 rfl ?_
  refine W_cs (.a 3 rfl <| .k [1, 2, 3, 4] rfl) ?_
  refine W_cs (.a 3 rfl <| .c rfl (dist_can T D d) rfl <| .a 5 rfl <| .k [2, 4, 10, 11] rfl) ?_
  refine W_seq ?_
  refine W_cs (.a 2 rfl <| .k [2, 4, 10, 11, 20] rfl) ?_
  refine W_cond rfl (fun hc => ?_) (fun hc => ?_)
  · have he : chkE T D [d] ≠ 0 := of_decide_eq_true hc
    refine W_cs (.a 3 rfl <| .k [8, 9] rfl) ?_
    refine W_ret ?_
    exact ⟨_, _, ResL.of rfl, Pur.tupleL (PurL.cons Pur.nils (PurL.cons Pur.pure PurL.nil)), by unfold intsE nodeE; rw [if_neg he, if_neg he]; rfl⟩
  · have he : chkE T D [d] = 0 := by have := of_decide_eq_false hc; omega
    refine W_skip ?_
    refine W_seq ?_
    refine W_cs (.a 2 rfl <| .c rfl (node_can T n) rfl <| .a 1 rfl <| .k [10, 25] rfl) ?_
    refine W_cond rfl (fun hc => ?_) (fun hc => ?_)
    · have hn : nodeB T n = false := by revert hc; cases nodeB T n <;> simp
      refine W_cs (.a 2 rfl <| .k [8, 9] rfl) ?_
      refine W_ret ?_
      exact ⟨_, _, ResL.of rfl, Pur.tupleL (PurL.cons Pur.nils (PurL.cons Pur.pure PurL.nil)), by unfold intsE nodeE; rw [if_pos he, hn]; rfl⟩
    · have hn : nodeB T n = true := by revert hc; cases nodeB T n <;> simp
      refine W_skip ?_
      refine W_cs (.a 3 rfl <| .k [8, 9] rfl) ?_
      refine W_ret ?_
      exact ⟨_, _, ResL.of rfl, Pur.pure, by unfold intsE nodeE; simp only [he, hn, if_true]; rfl⟩

theorem chkE_zero {T : Topo} {D : List Bool} {ns : List Int} (he : chkE T D ns = 0) : validB T = true ∧ fitsB T D = true ∧ ∀ n ∈ ns, nodeB T n = true := by
  unfold chkE at he
  split at he
  · rename_i h1
    split at he
    · rename_i h2
      obtain ⟨a, b⟩ := Bool.and_eq_true_iff.1 h1
      exact ⟨a, b, List.all_eq_true.1 h2⟩
    · omega
  · omega
theorem nodeE_zero {T : Topo} {D : List Bool} {n d : Int} (he : nodeE T D n d = 0) : validB T = true ∧ fitsB T D = true ∧ nodeB T n = true ∧ nodeB T d = true := by
  unfold nodeE at he
  split at he
  · rename_i h1
    obtain ⟨a, b, c⟩ := chkE_zero h1
    split at he
    · rename_i h2; exact ⟨a, b, h2, c d (by simp)⟩
    · omega
  · omega
theorem distL_bound {T : Topo} {D : List Bool} (hv : validB T = true) {d : Nat} {dir : Bool} (hd : (d : Int) < T.nodes) : ((distL T D d dir).length : Int) = T.nodes ∧ ∀ x ∈ distL T D d dir, -1 ≤ x ∧ x ≤ 4194240 := by
  have hS := sound_of hv
  have hI := distL_inv hS D dir hd
  refine ⟨hI.len, fun x hx => ?_⟩
  obtain ⟨i, hi, rfl⟩ := List.getElem_of_mem hx
  have hin : (i : Int) < T.nodes := by have := hI.len; omega
  have h1 := hI.ge i hin
  have h2 := hI.bnd i hin
  have h3 := cnt_le (distL T D d dir)
  have h4 := hS.nodes
  have h5 := hI.len
  rw [at_eq _ i hi] at h1 h2
  omega
/-- The next arcs of a node. -/
noncomputable def nextL (T : Topo) (D : List Bool) (n d : Nat) : List Int :=
  if n = d ∨ (distL T D d false).getD n 0 < 0 then [] else passL T D (distL T D d false) ((distL T D d false).getD n 0) d (outL T n)
theorem outL_mem {T : Topo} {n : Int} {a : Int} (h : a ∈ outL T n) : 0 ≤ a ∧ a < 2 * (T.links.length : Int) := by
  unfold outL outTo at h
  obtain ⟨b, hb, rfl⟩ := List.mem_map.1 h
  have := (List.mem_filter.1 hb).1
  have := List.mem_range.1 this
  simp; omega

end PW
end Go.Proofs.Ytkgepjiebihodaa

/- Tables as plain data. -/
namespace Go.Proofs.Ytkgepjiebihodaa
set_option linter.unusedVariables false
set_option linter.unusedSimpArgs false
namespace PW
open Go.RowKit Reg Mem Net

structure Seg where
  kind : Int
  num : Int
deriving DecidableEq
structure Ent where
  arcs : List Int
  rep : Bool
  push : List Seg
structure Tab where
  node : Int
  ents : List Ent
  down : List Int
def segP (s : Seg) : List PV := [num s.kind, num s.num]
def segV (s : Seg) : PV := .agg (segP s)
def segsP (l : List Seg) : List PV := l.flatMap segP
def segsV (l : List Seg) : PV := .slice l.length (segsP l)
def entP (e : Ent) : List PV := [intsV e.arcs, flag e.rep, segsV e.push]
def entV (e : Ent) : PV := .agg (entP e)
def entsP (l : List Ent) : List PV := l.flatMap entP
def entsV (l : List Ent) : PV := .slice l.length (entsP l)
def tabP (t : Tab) : List PV := [num t.node, entsV t.ents, intsV t.down]
def tabV (t : Tab) : PV := .agg (tabP t)
def tabsP (l : List Tab) : List PV := l.flatMap tabP
def tabsV (l : List Tab) : PV := .slice l.length (tabsP l)
instance (s : Seg) : IsPureL (segP s) := by unfold segP; infer_instance
instance (s : Seg) : IsOneL (segP s) := by unfold segP; infer_instance
instance (s : Seg) : IsPure (segV s) := by unfold segV; infer_instance
instance (l : List Seg) : IsPureL (segsP l) := IsPureL.flatMap _ _ fun _ => inferInstance
instance (l : List Seg) : IsOneL (segsP l) := IsOneL.flatMap _ _ fun _ => inferInstance
instance (l : List Seg) : IsPure (segsV l) := by unfold segsV; infer_instance
instance (l : List Seg) : IsOne (segsV l) := by unfold segsV; infer_instance
instance (e : Ent) : IsPureL (entP e) := by unfold entP; infer_instance
instance (e : Ent) : IsOneL (entP e) := by unfold entP; infer_instance
instance (e : Ent) : IsPure (entV e) := by unfold entV; infer_instance
instance (l : List Ent) : IsPureL (entsP l) := IsPureL.flatMap _ _ fun _ => inferInstance
instance (l : List Ent) : IsOneL (entsP l) := IsOneL.flatMap _ _ fun _ => inferInstance
instance (l : List Ent) : IsPure (entsV l) := by unfold entsV; infer_instance
instance (l : List Ent) : IsOne (entsV l) := by unfold entsV; infer_instance
instance (t : Tab) : IsPureL (tabP t) := by unfold tabP; infer_instance
instance (t : Tab) : IsOneL (tabP t) := by unfold tabP; infer_instance
instance (t : Tab) : IsPure (tabV t) := by unfold tabV; infer_instance
instance (l : List Tab) : IsPureL (tabsP l) := IsPureL.flatMap _ _ fun _ => inferInstance
instance (l : List Tab) : IsOneL (tabsP l) := IsOneL.flatMap _ _ fun _ => inferInstance
instance (l : List Tab) : IsPure (tabsV l) := by unfold tabsV; infer_instance
instance (l : List Tab) : IsOne (tabsV l) := by unfold tabsV; infer_instance
theorem entsP_snoc (l : List Ent) (e : Ent) : entsP l ++ entP e = entsP (l ++ [e]) := by simp [entsP]
theorem tabsP_snoc (l : List Tab) (e : Tab) : tabsP l ++ tabP e = tabsP (l ++ [e]) := by simp [tabsP]
/-- Rows of values of several cells. -/
theorem flat_get {α : Type} (f : α → List PV) (s : Nat) (hf : ∀ a, (f a).length = s) : ∀ (l : List α) (i j : Nat) (a : α), l[i]? = some a → j < s → (l.flatMap f)[i * s + j]? = (f a)[j]?
  | [], i, j, a, h, _ => by simp at h
  | b :: l, 0, j, a, h, hj => by
    simp at h; subst h
    rw [List.flatMap_cons, Nat.zero_mul, Nat.zero_add, List.getElem?_append_left (by rw [hf]; exact hj)]
  | b :: l, i + 1, j, a, h, hj => by
    have := flat_get f s hf l i j a (by simpa using h) hj
    have e1 : (i + 1) * s = i * s + s := Nat.succ_mul i s
    have e2 : (i + 1) * s + j - s = i * s + j := by omega
    have e3 : (f b).length ≤ (i + 1) * s + j := by rw [hf]; omega
    rw [List.flatMap_cons, List.getElem?_append_right e3, hf, e2, this]
theorem flat_drop {α : Type} (f : α → List PV) (s : Nat) (hf : ∀ a, (f a).length = s) : ∀ (l : List α) (i : Nat) (a : α), l[i]? = some a → ((l.flatMap f).drop (i * s)).take s = f a
  | [], i, a, h => by simp at h
  | b :: l, 0, a, h => by
    simp at h; subst h
    rw [List.flatMap_cons, Nat.zero_mul, List.drop_zero]
    exact List.take_left' (hf b)
  | b :: l, i + 1, a, h => by
    have := flat_drop f s hf l i a (by simpa using h)
    have e1 : (i + 1) * s = s + i * s := by rw [Nat.succ_mul]; omega
    rw [List.flatMap_cons, e1, ← List.drop_drop, List.drop_left' (hf b), this]
theorem flat_len {α : Type} (f : α → List PV) (s : Nat) (hf : ∀ a, (f a).length = s) (l : List α) : (l.flatMap f).length = l.length * s := by
  induction l with
  | nil => simp
  | cons a l ih => rw [List.flatMap_cons, List.length_append, ih, hf, List.length_cons, Nat.succ_mul]; omega
theorem ents_get (l : List Ent) (i j : Nat) (e : Ent) (h : l[i]? = some e) (hj : j < 3) : (entsP l)[i * 3 + j]? = (entP e)[j]? := flat_get entP 3 (fun _ => rfl) l i j e h hj
theorem ents_drop (l : List Ent) (i : Nat) (e : Ent) (h : l[i]? = some e) : ((entsP l).drop (i * 3)).take 3 = entP e := flat_drop entP 3 (fun _ => rfl) l i e h
theorem segs_get (l : List Seg) (i j : Nat) (e : Seg) (h : l[i]? = some e) (hj : j < 2) : (segsP l)[i * 2 + j]? = (segP e)[j]? := flat_get segP 2 (fun _ => rfl) l i j e h hj
theorem segs_drop (l : List Seg) (i : Nat) (e : Seg) (h : l[i]? = some e) : ((segsP l).drop (i * 2)).take 2 = segP e := flat_drop segP 2 (fun _ => rfl) l i e h
theorem tabs_drop (l : List Tab) (i : Nat) (e : Tab) (h : l[i]? = some e) : ((tabsP l).drop (i * 3)).take 3 = tabP e := flat_drop tabP 3 (fun _ => rfl) l i e h

/-- Less may be known of what an operation leaves. -/
theorem y_le {P : Program} {σ : Sto} {t : Tms} {o : Oper} {p q : PV} (h : Yield P σ t o p) (hl : PLe p q) : Yield P σ t o q := fun F base E ρ w hρ hS hT => by
  have := h F base E ρ w hρ hS hT
  generalize (execOp ρ o).run P w = x at *
  cases x with
  | ok n w' =>
    cases n with
    | value v => exact ⟨this.1, hl _ _ _ this.2⟩
    | skip => exact ⟨this.1, hl _ _ _ this.2⟩
    | enter f args => exact ⟨this.1, Calls.mono this.2 (fun e w'' ⟨x, h1, h2, h3⟩ => ⟨x, h1, h2, hl _ _ _ h3⟩)⟩
    | _ => exact this
  | halt x w' => exact this
def PLeL (xs ys : List PV) : Prop := xs.length = ys.length ∧ ∀ (i : Nat) x y, xs[i]? = some x → ys[i]? = some y → PLe x y
theorem PLeL.nil : PLeL [] [] := ⟨rfl, fun i x y h => by simp at h⟩
theorem PLeL.cons {x y : PV} {xs ys : List PV} (h : PLe x y) (hs : PLeL xs ys) : PLeL (x :: xs) (y :: ys) := ⟨by simp [hs.1], fun j a b h1 h2 => by
  cases j with
  | zero => simp at h1 h2; subst h1; subst h2; exact h
  | succ j => exact hs.2 j a b (by simpa using h1) (by simpa using h2)⟩
theorem PLe.aggL {xs ys : List PV} (h : PLeL xs ys) : PLe (.agg xs) (.agg ys) := fun E w v hv => by
  cases hv with
  | agg cs _ hl hr => exact .agg cs ys (hl.trans h.1) (fun i c u h1 h2 => by
      have hi : i < xs.length := by rw [h.1]; exact (List.getElem?_eq_some_iff.1 h2).1
      exact h.2 i xs[i] u (by simp [hi]) h2 E w c (hr i c _ h1 (by simp [hi])))
/-- The routes of a node. -/
noncomputable def toL (T : Topo) (D : List Bool) (n k : Nat) : List Ent := (List.range k).map fun d => ⟨nextL T D n d, false, []⟩
def downL (D : List Bool) (l : List Int) : List Int := l.filter fun a => downN D a.toNat
noncomputable def routesT (T : Topo) (D : List Bool) (n : Nat) : Tab := ⟨n, toL T D n T.nodes.toNat, downL D (outL T n)⟩
noncomputable def routesE (T : Topo) (D : List Bool) (n : Int) : Tab := if chkE T D [n] = 0 then routesT T D n.toNat else ⟨0, [], []⟩
theorem toL_step (T : Topo) (D : List Bool) (n k : Nat) : toL T D n (k + 1) = toL T D n k ++ [⟨nextL T D n k, false, []⟩] := by simp [toL, List.range_succ]
theorem toL_len (T : Topo) (D : List Bool) (n k : Nat) : (toL T D n k).length = k := by simp [toL]
end PW
end Go.Proofs.Ytkgepjiebihodaa

/- The reference of the layers 9, 11 and 12, in plain form: scalars, search, Dist. -/
namespace Go.Proofs.Ytkgepjiebihodaa
set_option linter.unusedVariables false
set_option linter.unusedSimpArgs false
namespace PW
open Go.RowKit Reg Mem Net


set_option maxRecDepth 10000 in
set_option maxHeartbeats 4000000 in
theorem rsearch_can (T : Topo) (D : List Bool) (n : Int) (dir : Bool) : Can Try.prog 67 [topoV T, boolsV D, num n, flag dir] (· = intsE (chkE T D [n]) (distL T D n.toNat dir)) := by
  refine can_of Try.func67 rfl Try.ntmps67 rfl ?_
  refine W_cs (.a 3 rfl <| .k [1, 2, 3, 4] rfl) ?_
  refine W_seq ?_
  refine W_cs (.a 2 rfl <| .c rfl (rfits_can T D) rfl <| .a 1 rfl <| .k [1, 2, 3, 4, 20] rfl) ?_
  refine W_cond rfl (fun hc => ?_) (fun hc => ?_)
  · have hch : chkE T D [n] = 1 := by
      unfold chkE
      rw [if_neg]
      revert hc
      cases (validB T && fitsB T D) <;> simp
    refine W_cs (.a 2 rfl <| .k [8, 9] rfl) ?_
    refine W_ret ?_
    exact ⟨_, _, ResL.of rfl, Pur.tupleL (PurL.cons Pur.nils (PurL.cons Pur.pure PurL.nil)), by unfold intsE; rw [hch]; rfl⟩
  · have hok : (validB T && fitsB T D) = true := by revert hc; cases (validB T && fitsB T D) <;> simp
    refine W_skip ?_
    refine W_seq ?_
    obtain ⟨q1, hq1⟩ : ∃ q, decide (n < 0) = q := ⟨_, rfl⟩
    obtain ⟨q2, hq2⟩ : ∃ q, decide (T.nodes ≤ n) = q := ⟨_, rfl⟩
    have hnb : nodeB T n = !(q1 || q2) := by rw [← hq1, ← hq2]; unfold nodeB; by_cases h1 : n < 0 <;> by_cases h2 : T.nodes ≤ n <;> simp [h1, h2] <;> omega
    refine W_csK 28 (.raw (.bool (q1 || q2))) [1, 2, 3, 4] rfl ?_ ?_
    · refine .a 1 rfl <| .v (y_q rfl (hq1)) rfl <| .a 1 rfl <| ?_
      cases q1
      · exact .a 3 rfl <| .v (y_q rfl (hq2)) rfl <| .a 1 rfl <| .k [28, 1, 2, 3, 4] rfl
      · exact .a 5 rfl <| .k [28, 1, 2, 3, 4] rfl
    refine W_cond rfl (fun hc => ?_) (fun hc => ?_)
    · have hch : chkE T D [n] = 2 := by
        unfold chkE
        rw [if_pos hok, if_neg]
        simp [hnb, hc]
      refine W_cs (.a 2 rfl <| .k [8, 9] rfl) ?_
      refine W_ret ?_
      exact ⟨_, _, ResL.of rfl, Pur.tupleL (PurL.cons Pur.nils (PurL.cons Pur.pure PurL.nil)), by unfold intsE; rw [hch]; rfl⟩
    · have hnb' : nodeB T n = true := by rw [hnb, hc]; rfl
      have hch : chkE T D [n] = 0 := by
        unfold chkE
        rw [if_pos hok, if_pos]
        simp [hnb']
      obtain ⟨hv, hf⟩ := Bool.and_eq_true_iff.1 hok
      have hn := nodeB_iff.1 hnb'
      obtain ⟨n, rfl⟩ := Int.eq_ofNat_of_zero_le hn.1
      have hS := sound_of hv
      have hbd := valid_bd hv
      obtain ⟨N, hN⟩ : ∃ N : Nat, T.nodes = (N : Int) := ⟨T.nodes.toNat, by omega⟩
      have hN64 : N ≤ 64 := by have := hS.nodes; omega
      have hnN : n < N := by omega
      clear hc hq1 hq2 hnb
      refine W_skip ?_
      refine W_rs ?_
      refine WR_a 2 rfl <| WR_l (l_make rfl (fok.rk.get rfl) rfl rfl hN hN ⟨by unfold maxLen; omega, by omega⟩) rfl <| WR_a 1 rfl <| WR_k [1, 2, 3, 4, 10] rfl ?_
      refine W_seq ?_
      refine W_cs (.a 1 rfl <| .k [1, 2, 3, 4, 10, 11] rfl) ?_
      refine W_block ?_
      refine W_k [1, 2, 3, 4, 10, 11] rfl ?_
      refine W_loop (fun r s => ∃ k, k ≤ N ∧ r = N - k ∧ s = ⟨[(1, boolsV D), (2, num n), (3, flag dir), (4, .pin (topoP T) 0), (10, .own 0), (11, num k)], [some (.row 3 1 N (intsP (initTo N k)))]⟩) N ⟨0, by omega, by omega, by have := zeros_ints N; unfold initTo; simp only [List.replicate_zero, List.nil_append, Nat.sub_zero]; rw [← this]; rfl⟩ ?_
      rintro r s ⟨k, hk, rfl, rfl⟩
      refine W_seq ?_
      refine W_cs (.a 4 rfl <| .k [1, 2, 3, 4, 10, 11, 35] rfl) ?_
      refine W_cond rfl (fun hc => ?_) (fun hc => ?_)
      · have hlt : k < N := by have := of_decide_eq_true hc; omega
        have hil : (initTo N k).length = N := by simp [initTo]; omega
        refine W_skip ?_
        refine W_seq ?_
        refine W_block ?_
        refine W_region ?_
        refine WR_a 2 rfl <| WR_v (y_ix (k) rfl) rfl <| WR_loud0 ((by first | exact l_storeInts rfl (fok.tk.get rfl) rfl rfl rfl (by first | omega | (simp; omega)) | exact l_storeBools rfl (fok.tk.get rfl) rfl rfl rfl (by first | omega | (simp; omega)))) rfl rfl <| WR_k [1, 2, 3, 4, 10, 11] rfl ?_
        refine W_sto (σ' := [some (.row 3 1 N (intsP (initTo N (k + 1))))]) (by rw [← initTo_succ N k hlt]; rfl) ?_
        refine W_chain (.a 1 rfl <| .v (y_ar rfl) rfl <| .a 1 rfl <| .k [1, 2, 3, 4, 10, 11] rfl) ?_
        exact ⟨N - (k + 1), by omega, k + 1, by omega, rfl, rfl⟩
      · have hke : k = N := by have := of_decide_eq_false hc; omega
        subst hke
        have hil : (initTo k k).length = k := by simp [initTo]
        refine W_exit ?_
        refine W_rs ?_
        refine WR_a 2 rfl <| WR_v (y_ix (n) rfl) rfl <| WR_loud0 ((by first | exact l_storeInts rfl (fok.tk.get rfl) rfl rfl rfl (by first | omega | (simp; omega)) | exact l_storeBools rfl (fok.tk.get rfl) rfl rfl rfl (by first | omega | (simp; omega)))) rfl rfl <| WR_k [1, 2, 3, 4, 10] rfl ?_
        refine W_sto (σ' := [some (.row 3 1 k (intsP (Net.start k n)))]) (by rw [← initTo_all k n]; rfl) ?_
        have hI0 := start_inv (T := T) (D := D) (N := k) (n := n) (dir := dir) hN.symm hnN
        generalize Net.start k n = out0 at hI0
        refine W_seq ?_
        refine W_cs (.a 1 rfl <| .k [1, 2, 3, 4, 10, 12] rfl) ?_
        refine W_block ?_
        refine W_k [1, 2, 3, 4, 10, 12] rfl ?_
        refine W_loop (fun r s => ∃ (out : List Int) (b : Bool), Inv T D n dir out ∧ (b = false → ∀ a, a < 2 * T.links.length → ¬ Gains T D n dir out a) ∧ r = 2 * mu out + b.toNat ∧ s = ⟨[(1, boolsV D), (2, num n), (3, flag dir), (4, .pin (topoP T) 0), (10, .own 0), (12, flag b)], [some (.row 3 1 k (intsP out))]⟩) (2 * mu out0 + 1) ⟨out0, true, hI0, (fun h => by cases h), rfl, rfl⟩ ?_
        clear hI0 out0
        rintro r s ⟨out, b, hI, hb, rfl, rfl⟩
        refine W_seq ?_
        refine W_cs (.a 1 rfl <| .k [1, 2, 3, 4, 10, 44] rfl) ?_
        refine W_cond rfl (fun hc => ?_) (fun hc => ?_)
        · subst hc
          refine W_skip ?_
          refine W_block ?_
          refine W_cs (.a 1 rfl <| .k [1, 2, 3, 4, 10, 12] rfl) ?_
          refine W_cs (.a 1 rfl <| .k [1, 2, 3, 4, 10, 12, 13] rfl) ?_
          refine W_block ?_
          refine W_k [1, 2, 3, 4, 10, 12, 13] rfl ?_
          refine W_loop (fun r s => ∃ (k' : Nat) (out' : List Int) (b' : Bool), k' ≤ 2 * T.links.length ∧ Inv T D n dir out' ∧ (b' = false → out' = out ∧ ∀ a, a < k' → ¬ Gains T D n dir out a) ∧ (b' = true → mu out' < mu out) ∧ r = 2 * T.links.length - k' ∧ s = ⟨[(1, boolsV D), (2, num n), (3, flag dir), (4, .pin (topoP T) 0), (10, .own 0), (12, flag b'), (13, num k')], [some (.row 3 1 k (intsP out'))]⟩) (2 * T.links.length) ⟨0, out, false, by omega, hI, (fun _ => ⟨rfl, fun a ha => by omega⟩), (fun h => by cases h), by omega, rfl⟩ ?_
          rintro r s ⟨a, out', b', ha, hI', hb', ht', rfl, rfl⟩
          refine W_seq ?_
          refine W_cs (.a 4 rfl <| .v (y_ar rfl (hc := rfl)) rfl <| .a 1 rfl <| .k [1, 2, 3, 4, 10, 12, 13, 50] rfl) ?_
          refine W_cond rfl (fun hc => ?_) (fun hc => ?_)
          · have ham : a < 2 * T.links.length := by have := of_decide_eq_true hc; omega
            obtain ⟨p, hp⟩ := Int.eq_ofNat_of_zero_le (hS.tail a ham).1
            obtain ⟨q, hq⟩ := Int.eq_ofNat_of_zero_le (hS.head a ham).1
            have hpN : p < k := by have := (hS.tail a ham).2; omega
            have hqN : q < k := by have := (hS.head a ham).2; omega
            have hcb := hS.cost a ham
            have hDl : D.length = 0 ∨ a < D.length := by simp only [fitsB, decide_eq_true_eq] at hf; omega
            have hol : out'.length = k := by have := hI'.len; omega
            refine W_skip ?_
            refine W_seq ?_
            refine W_block ?_
            refine W_drs mixed (by kernel_rfl) (.a 2 rfl <| .v [53, 54] (y_c rfl (hp ▸ rtailN_can T hv a ham)) rfl rfl <| .a 2 rfl <| .v [56, 57] (y_c rfl (hq ▸ rheadN_can T hv a ham)) rfl rfl <| .a 2 rfl <| .k [1, 2, 3, 4, 10, 12, 13, 14, 15] rfl) ?_
            refine W_seq ?_
            refine W_cs (.a 1 rfl <| .k [1, 2, 3, 4, 10, 12, 13, 14, 15, 59] rfl) ?_
            refine W_cond rfl (fun hdir => ?_) (fun hdir => ?_)
            · obtain ⟨x, y, hx, hy, ex, ey⟩ : ∃ x y : Nat, arcX T dir a = (x : Int) ∧ arcY T dir a = (y : Int) ∧ x = q ∧ y = p := ⟨q, p, by rw [hdir]; exact hq, by rw [hdir]; exact hp, rfl, rfl⟩
              subst ex
              subst ey
              refine W_chain (.a 4 rfl <| .k [1, 2, 3, 4, 10, 12, 13, 14, 15] rfl) ?_
              refine W_seq ?_
              have gx : out'.getD x 0 = at' out' (x : Int) := by simp [at', List.getD_eq_getElem?_getD, show x < out'.length by omega]
              have gy : out'.getD y 0 = at' out' (y : Int) := by simp [at', List.getD_eq_getElem?_getD, show y < out'.length by omega]
              have uy := hI'.ub y (by omega) (by omega)
              have ly := hI'.ge y (by omega)
              obtain ⟨p1, hp1⟩ : ∃ q, (!downN D a) = q := ⟨_, rfl⟩
              obtain ⟨p2, hp2⟩ : ∃ q, decide (out'.getD y 0 < 0) = q := ⟨_, rfl⟩
              obtain ⟨p3, hp3⟩ : ∃ q, (decide (y = n) || !overN T y) = q := ⟨_, rfl⟩
              refine W_csK 79 (.raw (.bool (((!p1) || p2) || (!p3)))) [1, 2, 3, 4, 10, 12, 13, 14, 15] rfl ?_ ?_
              · refine .a 2 rfl <| .c rfl (hp1 ▸ rup_can D a hDl) rfl <| .a 2 rfl <| ?_
                cases p1
                · exact .a 13 rfl <| .k [79, 1, 2, 3, 4, 10, 12, 13, 14, 15] rfl
                · refine .a 2 rfl <| .v (y_ix (y) rfl) rfl <| .v (y_ld rfl (ints_get out' y (by omega))) rfl <| .v (y_q rfl (hp2)) rfl <| .a 2 rfl <| ?_
                  cases p2
                  · exact .a 3 rfl <| .c rfl (hp3 ▸ rtransit_can T hv y n) rfl <| .a 2 rfl <| .k [79, 1, 2, 3, 4, 10, 12, 13, 14, 15] rfl
                  · exact .a 6 rfl <| .k [79, 1, 2, 3, 4, 10, 12, 13, 14, 15] rfl
              refine W_cond rfl (fun hc => ?_) (fun hc => ?_)
              · have hng : ¬ Gains T D n dir out' a := fun hg => by
                  obtain ⟨⟨w1, w2, w3⟩, _⟩ := hg
                  rw [hy] at w2 w3
                  have e1 : p1 = true := by rw [← hp1, w1]; rfl
                  have e2 : p2 = false := by rw [← hp2, gy]; simp; omega
                  have e3 : p3 = true := by
                    rw [← hp3]
                    rcases w3 with w3 | w3
                    · have : y = n := by omega
                      simp [this]
                    · rw [Int.toNat_natCast] at w3; simp [w3]
                  rw [e1, e2, e3] at hc
                  cases hc
                refine W_exit ?_
                refine W_chain (.a 1 rfl <| .v (y_ar rfl) rfl <| .a 1 rfl <| .k [1, 2, 3, 4, 10, 12, 13] rfl) ?_
                first
                  | exact ⟨2 * T.links.length - (a + 1), by omega, a + 1, _, true, by omega, hIg, fun h => (by cases h), fun _ => (by by_cases e : b' = true; (have := ht' e; omega); (have := (hb' (by cases b'; rfl; exact absurd rfl e)).1; rw [this] at hmg; rw [this]; exact hmg)), rfl, rfl⟩
                  | exact ⟨2 * T.links.length - (a + 1), by omega, a + 1, out', b', by omega, hI', fun h => ⟨(hb' h).1, fun c hc' => by by_cases e : c = a; (rw [e, ← (hb' h).1]; exact hng); exact (hb' h).2 c (by omega)⟩, ht', rfl, rfl⟩
              · have hway : Net.Way T D n dir out' a := by
                  obtain ⟨c1, c3⟩ := Bool.or_eq_false_iff.1 hc
                  obtain ⟨c1, c2⟩ := Bool.or_eq_false_iff.1 c1
                  have e1 : p1 = true := by cases p1; cases c1; rfl
                  have e3 : p3 = true := by cases p3; cases c3; rfl
                  rw [e1] at hp1
                  rw [c2] at hp2
                  rw [e3] at hp3
                  refine ⟨by revert hp1; cases downN D a <;> simp, ?_, ?_⟩
                  · rw [hy, ← gy]; have := of_decide_eq_false hp2; omega
                  · rw [hy, Int.toNat_natCast]
                    rcases Bool.or_eq_true_iff.1 hp3 with h | h
                    · exact .inl (by have := of_decide_eq_true h; omega)
                    · exact .inr (by revert h; cases overN T y <;> simp)
                have wy := hway.2.1
                rw [hy] at wy
                refine W_skip ?_
                refine W_drs mixed (by kernel_rfl) (.a 2 rfl <| .v [80, 81] (y_ix (y) rfl) rfl rfl <| .v [82] (y_ld rfl ((ints_get out' y (by omega)).trans (by rw [gy]))) rfl rfl <| .a 2 rfl <| .v [84, 85] (y_c rfl (rcostN_can T hv a ham)) rfl rfl <| .v [83, 86] (y_ar rfl) rfl rfl <| .a 1 rfl <| .k [1, 2, 3, 4, 10, 12, 13, 14, 16] rfl) ?_
                obtain ⟨p4, hp4⟩ : ∃ q, decide (at' out' (x : Int) < 0) = q := ⟨_, rfl⟩
                obtain ⟨p5, hp5⟩ : ∃ q, decide (at' out' (y : Int) + costN T a < at' out' (x : Int)) = q := ⟨_, rfl⟩
                refine W_csK 100 (.raw (.bool (p4 || p5))) [1, 2, 3, 4, 10, 12, 13, 14, 16] rfl ?_ ?_
                · refine .a 2 rfl <| .v (y_ix (x) rfl) rfl <| .v (y_ld rfl ((ints_get out' x (by omega)).trans (by rw [gx]))) rfl <| .v (y_q rfl (hp4)) rfl <| .a 1 rfl <| ?_
                  cases p4
                  · exact .a 3 rfl <| .v (y_ix (x) rfl) rfl <| .v (y_ld rfl ((ints_get out' x (by omega)).trans (by rw [gx]))) rfl <| .v (y_q rfl (hp5)) rfl <| .a 1 rfl <| .k [100, 1, 2, 3, 4, 10, 12, 13, 14, 16] rfl
                  · exact .a 7 rfl <| .k [100, 1, 2, 3, 4, 10, 12, 13, 14, 16] rfl
                refine W_cond rfl (fun hc => ?_) (fun hc => ?_)
                · have hg : Gains T D n dir out' a := ⟨hway, by
                    rw [hx, hy]
                    rcases Bool.or_eq_true_iff.1 hc with h | h
                    · rw [h] at hp4; exact .inl (of_decide_eq_true hp4)
                    · rw [h] at hp5; exact .inr (of_decide_eq_true hp5)⟩
                  obtain ⟨hIg, hmg⟩ := gain_inv hS hI' a ham hg
                  have hge : gain T dir out' a = out'.set x (at' out' (y : Int) + costN T a) := by unfold gain; rw [hx, hy, Int.toNat_natCast]
                  rw [hge] at hIg hmg
                  refine W_rs ?_
                  refine WR_a 3 rfl <| WR_v (y_ix (x) rfl) rfl <| WR_loud0 ((by first | exact l_storeInts rfl (fok.tk.get rfl) rfl rfl rfl (by first | omega | (simp; omega)) | exact l_storeBools rfl (fok.tk.get rfl) rfl rfl rfl (by first | omega | (simp; omega)))) rfl rfl <| WR_k [1, 2, 3, 4, 10, 13] rfl ?_
                  refine W_chain (.a 1 rfl <| .k [1, 2, 3, 4, 10, 12, 13] rfl) ?_
                  refine W_chain (.a 1 rfl <| .v (y_ar rfl) rfl <| .a 1 rfl <| .k [1, 2, 3, 4, 10, 12, 13] rfl) ?_
                  first
                    | exact ⟨2 * T.links.length - (a + 1), by omega, a + 1, _, true, by omega, hIg, fun h => (by cases h), fun _ => (by by_cases e : b' = true; (have := ht' e; omega); (have := (hb' (by cases b'; rfl; exact absurd rfl e)).1; rw [this] at hmg; rw [this]; exact hmg)), rfl, rfl⟩
                    | exact ⟨2 * T.links.length - (a + 1), by omega, a + 1, out', b', by omega, hI', fun h => ⟨(hb' h).1, fun c hc' => by by_cases e : c = a; (rw [e, ← (hb' h).1]; exact hng); exact (hb' h).2 c (by omega)⟩, ht', rfl, rfl⟩
                · have hng : ¬ Gains T D n dir out' a := fun hg => by
                    obtain ⟨_, hg⟩ := hg
                    rw [hx, hy] at hg
                    obtain ⟨c1, c2⟩ := Bool.or_eq_false_iff.1 hc
                    rw [c1] at hp4
                    rw [c2] at hp5
                    rcases hg with h | h
                    · exact of_decide_eq_false hp4 h
                    · exact of_decide_eq_false hp5 h
                  refine W_skip ?_
                  refine W_chain (.a 1 rfl <| .v (y_ar rfl) rfl <| .a 1 rfl <| .k [1, 2, 3, 4, 10, 12, 13] rfl) ?_
                  first
                    | exact ⟨2 * T.links.length - (a + 1), by omega, a + 1, _, true, by omega, hIg, fun h => (by cases h), fun _ => (by by_cases e : b' = true; (have := ht' e; omega); (have := (hb' (by cases b'; rfl; exact absurd rfl e)).1; rw [this] at hmg; rw [this]; exact hmg)), rfl, rfl⟩
                    | exact ⟨2 * T.links.length - (a + 1), by omega, a + 1, out', b', by omega, hI', fun h => ⟨(hb' h).1, fun c hc' => by by_cases e : c = a; (rw [e, ← (hb' h).1]; exact hng); exact (hb' h).2 c (by omega)⟩, ht', rfl, rfl⟩
            · obtain ⟨x, y, hx, hy, ex, ey⟩ : ∃ x y : Nat, arcX T dir a = (x : Int) ∧ arcY T dir a = (y : Int) ∧ x = p ∧ y = q := ⟨p, q, by rw [hdir]; exact hp, by rw [hdir]; exact hq, rfl, rfl⟩
              subst ex
              subst ey
              refine W_skip ?_
              refine W_seq ?_
              have gx : out'.getD x 0 = at' out' (x : Int) := by simp [at', List.getD_eq_getElem?_getD, show x < out'.length by omega]
              have gy : out'.getD y 0 = at' out' (y : Int) := by simp [at', List.getD_eq_getElem?_getD, show y < out'.length by omega]
              have uy := hI'.ub y (by omega) (by omega)
              have ly := hI'.ge y (by omega)
              obtain ⟨p1, hp1⟩ : ∃ q, (!downN D a) = q := ⟨_, rfl⟩
              obtain ⟨p2, hp2⟩ : ∃ q, decide (out'.getD y 0 < 0) = q := ⟨_, rfl⟩
              obtain ⟨p3, hp3⟩ : ∃ q, (decide (y = n) || !overN T y) = q := ⟨_, rfl⟩
              refine W_csK 79 (.raw (.bool (((!p1) || p2) || (!p3)))) [1, 2, 3, 4, 10, 12, 13, 14, 15] rfl ?_ ?_
              · refine .a 2 rfl <| .c rfl (hp1 ▸ rup_can D a hDl) rfl <| .a 2 rfl <| ?_
                cases p1
                · exact .a 13 rfl <| .k [79, 1, 2, 3, 4, 10, 12, 13, 14, 15] rfl
                · refine .a 2 rfl <| .v (y_ix (y) rfl) rfl <| .v (y_ld rfl (ints_get out' y (by omega))) rfl <| .v (y_q rfl (hp2)) rfl <| .a 2 rfl <| ?_
                  cases p2
                  · exact .a 3 rfl <| .c rfl (hp3 ▸ rtransit_can T hv y n) rfl <| .a 2 rfl <| .k [79, 1, 2, 3, 4, 10, 12, 13, 14, 15] rfl
                  · exact .a 6 rfl <| .k [79, 1, 2, 3, 4, 10, 12, 13, 14, 15] rfl
              refine W_cond rfl (fun hc => ?_) (fun hc => ?_)
              · have hng : ¬ Gains T D n dir out' a := fun hg => by
                  obtain ⟨⟨w1, w2, w3⟩, _⟩ := hg
                  rw [hy] at w2 w3
                  have e1 : p1 = true := by rw [← hp1, w1]; rfl
                  have e2 : p2 = false := by rw [← hp2, gy]; simp; omega
                  have e3 : p3 = true := by
                    rw [← hp3]
                    rcases w3 with w3 | w3
                    · have : y = n := by omega
                      simp [this]
                    · rw [Int.toNat_natCast] at w3; simp [w3]
                  rw [e1, e2, e3] at hc
                  cases hc
                refine W_exit ?_
                refine W_chain (.a 1 rfl <| .v (y_ar rfl) rfl <| .a 1 rfl <| .k [1, 2, 3, 4, 10, 12, 13] rfl) ?_
                first
                  | exact ⟨2 * T.links.length - (a + 1), by omega, a + 1, _, true, by omega, hIg, fun h => (by cases h), fun _ => (by by_cases e : b' = true; (have := ht' e; omega); (have := (hb' (by cases b'; rfl; exact absurd rfl e)).1; rw [this] at hmg; rw [this]; exact hmg)), rfl, rfl⟩
                  | exact ⟨2 * T.links.length - (a + 1), by omega, a + 1, out', b', by omega, hI', fun h => ⟨(hb' h).1, fun c hc' => by by_cases e : c = a; (rw [e, ← (hb' h).1]; exact hng); exact (hb' h).2 c (by omega)⟩, ht', rfl, rfl⟩
              · have hway : Net.Way T D n dir out' a := by
                  obtain ⟨c1, c3⟩ := Bool.or_eq_false_iff.1 hc
                  obtain ⟨c1, c2⟩ := Bool.or_eq_false_iff.1 c1
                  have e1 : p1 = true := by cases p1; cases c1; rfl
                  have e3 : p3 = true := by cases p3; cases c3; rfl
                  rw [e1] at hp1
                  rw [c2] at hp2
                  rw [e3] at hp3
                  refine ⟨by revert hp1; cases downN D a <;> simp, ?_, ?_⟩
                  · rw [hy, ← gy]; have := of_decide_eq_false hp2; omega
                  · rw [hy, Int.toNat_natCast]
                    rcases Bool.or_eq_true_iff.1 hp3 with h | h
                    · exact .inl (by have := of_decide_eq_true h; omega)
                    · exact .inr (by revert h; cases overN T y <;> simp)
                have wy := hway.2.1
                rw [hy] at wy
                refine W_skip ?_
                refine W_drs mixed (by kernel_rfl) (.a 2 rfl <| .v [80, 81] (y_ix (y) rfl) rfl rfl <| .v [82] (y_ld rfl ((ints_get out' y (by omega)).trans (by rw [gy]))) rfl rfl <| .a 2 rfl <| .v [84, 85] (y_c rfl (rcostN_can T hv a ham)) rfl rfl <| .v [83, 86] (y_ar rfl) rfl rfl <| .a 1 rfl <| .k [1, 2, 3, 4, 10, 12, 13, 14, 16] rfl) ?_
                obtain ⟨p4, hp4⟩ : ∃ q, decide (at' out' (x : Int) < 0) = q := ⟨_, rfl⟩
                obtain ⟨p5, hp5⟩ : ∃ q, decide (at' out' (y : Int) + costN T a < at' out' (x : Int)) = q := ⟨_, rfl⟩
                refine W_csK 100 (.raw (.bool (p4 || p5))) [1, 2, 3, 4, 10, 12, 13, 14, 16] rfl ?_ ?_
                · refine .a 2 rfl <| .v (y_ix (x) rfl) rfl <| .v (y_ld rfl ((ints_get out' x (by omega)).trans (by rw [gx]))) rfl <| .v (y_q rfl (hp4)) rfl <| .a 1 rfl <| ?_
                  cases p4
                  · exact .a 3 rfl <| .v (y_ix (x) rfl) rfl <| .v (y_ld rfl ((ints_get out' x (by omega)).trans (by rw [gx]))) rfl <| .v (y_q rfl (hp5)) rfl <| .a 1 rfl <| .k [100, 1, 2, 3, 4, 10, 12, 13, 14, 16] rfl
                  · exact .a 7 rfl <| .k [100, 1, 2, 3, 4, 10, 12, 13, 14, 16] rfl
                refine W_cond rfl (fun hc => ?_) (fun hc => ?_)
                · have hg : Gains T D n dir out' a := ⟨hway, by
                    rw [hx, hy]
                    rcases Bool.or_eq_true_iff.1 hc with h | h
                    · rw [h] at hp4; exact .inl (of_decide_eq_true hp4)
                    · rw [h] at hp5; exact .inr (of_decide_eq_true hp5)⟩
                  obtain ⟨hIg, hmg⟩ := gain_inv hS hI' a ham hg
                  have hge : gain T dir out' a = out'.set x (at' out' (y : Int) + costN T a) := by unfold gain; rw [hx, hy, Int.toNat_natCast]
                  rw [hge] at hIg hmg
                  refine W_rs ?_
                  refine WR_a 3 rfl <| WR_v (y_ix (x) rfl) rfl <| WR_loud0 ((by first | exact l_storeInts rfl (fok.tk.get rfl) rfl rfl rfl (by first | omega | (simp; omega)) | exact l_storeBools rfl (fok.tk.get rfl) rfl rfl rfl (by first | omega | (simp; omega)))) rfl rfl <| WR_k [1, 2, 3, 4, 10, 13] rfl ?_
                  refine W_chain (.a 1 rfl <| .k [1, 2, 3, 4, 10, 12, 13] rfl) ?_
                  refine W_chain (.a 1 rfl <| .v (y_ar rfl) rfl <| .a 1 rfl <| .k [1, 2, 3, 4, 10, 12, 13] rfl) ?_
                  first
                    | exact ⟨2 * T.links.length - (a + 1), by omega, a + 1, _, true, by omega, hIg, fun h => (by cases h), fun _ => (by by_cases e : b' = true; (have := ht' e; omega); (have := (hb' (by cases b'; rfl; exact absurd rfl e)).1; rw [this] at hmg; rw [this]; exact hmg)), rfl, rfl⟩
                    | exact ⟨2 * T.links.length - (a + 1), by omega, a + 1, out', b', by omega, hI', fun h => ⟨(hb' h).1, fun c hc' => by by_cases e : c = a; (rw [e, ← (hb' h).1]; exact hng); exact (hb' h).2 c (by omega)⟩, ht', rfl, rfl⟩
                · have hng : ¬ Gains T D n dir out' a := fun hg => by
                    obtain ⟨_, hg⟩ := hg
                    rw [hx, hy] at hg
                    obtain ⟨c1, c2⟩ := Bool.or_eq_false_iff.1 hc
                    rw [c1] at hp4
                    rw [c2] at hp5
                    rcases hg with h | h
                    · exact of_decide_eq_false hp4 h
                    · exact of_decide_eq_false hp5 h
                  refine W_skip ?_
                  refine W_chain (.a 1 rfl <| .v (y_ar rfl) rfl <| .a 1 rfl <| .k [1, 2, 3, 4, 10, 12, 13] rfl) ?_
                  first
                    | exact ⟨2 * T.links.length - (a + 1), by omega, a + 1, _, true, by omega, hIg, fun h => (by cases h), fun _ => (by by_cases e : b' = true; (have := ht' e; omega); (have := (hb' (by cases b'; rfl; exact absurd rfl e)).1; rw [this] at hmg; rw [this]; exact hmg)), rfl, rfl⟩
                    | exact ⟨2 * T.links.length - (a + 1), by omega, a + 1, out', b', by omega, hI', fun h => ⟨(hb' h).1, fun c hc' => by by_cases e : c = a; (rw [e, ← (hb' h).1]; exact hng); exact (hb' h).2 c (by omega)⟩, ht', rfl, rfl⟩
          · have hae : a = 2 * T.links.length := by have := of_decide_eq_false hc; omega
            refine W_sub (.cons (k := 1) rfl <| .cons (k := 2) rfl <| .cons (k := 3) rfl <| .cons (k := 4) rfl <| .cons (k := 10) rfl <| .cons (k := 12) rfl <| Sub.nil _) ?_
            refine W_exit ?_
            refine ⟨_, ?_, out', b', hI', fun h => ?_, rfl, rfl⟩
            · cases b'
              · rw [(hb' rfl).1]; simp
              · have := ht' rfl; simp; omega
            · rw [(hb' h).1]; intro c hc'; exact (hb' h).2 c (by omega)
        · have hdist : distL T D n dir = out := distL_eq hS (inv_dist hI (hb hc))
          refine W_exit ?_
          refine W_cs (.a 3 rfl <| .k [8, 9] rfl) ?_
          refine W_ret ?_
          refine ⟨_, _, ResL.of rfl, Pur.tupleL (PurL.cons (Pur.ownL rfl PurL.pure) (PurL.cons Pur.pure PurL.nil)), ?_⟩
          unfold intsE
          rw [hch, if_pos rfl, Int.toNat_natCast, hdist]
          unfold intsV
          rw [show out.length = k by have := hI.len; omega]

set_option maxRecDepth 10000 in
set_option maxHeartbeats 1000000 in
theorem rdist_can (T : Topo) (D : List Bool) (d : Int) : Can Try.prog 44 [topoV T, boolsV D, num d] (· = intsE (chkE T D [d]) (distL T D d.toNat false)) := by
  refine can_of Try.func44 rfl Try.ntmps44 rfl ?_
  refine W_cs (.a 3 rfl <| .k [1, 2, 3] rfl) ?_
  refine W_cs (.a 3 rfl <| .c rfl (rsearch_can T D d false) rfl <| .a 4 rfl <| .k [6, 7] rfl) ?_
  refine W_ret ?_
  exact ⟨_, _, ResL.of rfl, Pur.pure, rfl⟩
end PW
end Go.Proofs.Ytkgepjiebihodaa

/- The reference of layer 12: next arcs; Out of layer 9. -/
namespace Go.Proofs.Ytkgepjiebihodaa
set_option linter.unusedVariables false
set_option linter.unusedSimpArgs false
namespace PW
open Go.RowKit Reg Mem Net

def onB (T : Topo) (D : List Bool) (L : List Int) (a d : Nat) : Bool :=
  ((((!downN D a) && decide (tailN T a ≠ (d : Int))) && decide (0 ≤ L.getD (headN T a).toNat 0)) && (decide ((headN T a).toNat = d) || !overN T (headN T a).toNat)) && decide (L.getD (tailN T a).toNat 0 = L.getD (headN T a).toNat 0 + costN T a)

set_option maxRecDepth 10000 in
set_option maxHeartbeats 1000000 in
theorem on_can (T : Topo) (D : List Bool) (L : List Int) (a d : Nat) (hv : validB T = true) (hf : fitsB T D = true) (hL : (L.length : Int) = T.nodes) (hub : ∀ x ∈ L, -1 ≤ x ∧ x ≤ 4194240) (ha : a < 2 * T.links.length) :
    Can Try.prog 45 [topoV T, boolsV D, intsV L, num a, num d] (· = flag (onB T D L a d)) := by
  have hS := sound_of hv
  obtain ⟨x, hx⟩ := Int.eq_ofNat_of_zero_le (hS.tail a ha).1
  obtain ⟨y, hy⟩ := Int.eq_ofNat_of_zero_le (hS.head a ha).1
  have hxL : x < L.length := by have := (hS.tail a ha).2; omega
  have hyL : y < L.length := by have := (hS.head a ha).2; omega
  have hcb := hS.cost a ha
  have hDl : D.length = 0 ∨ a < D.length := by simp only [fitsB, decide_eq_true_eq] at hf; omega
  have uy := hub _ (getD_mem (d := 0) hyL)
  obtain ⟨p1, hp1⟩ : ∃ q, (!downN D a) = q := ⟨_, rfl⟩
  obtain ⟨p2, hp2⟩ : ∃ q, decide ((x : Int) ≠ (d : Int)) = q := ⟨_, rfl⟩
  obtain ⟨p3, hp3⟩ : ∃ q, decide (0 ≤ L.getD y 0) = q := ⟨_, rfl⟩
  obtain ⟨p4, hp4⟩ : ∃ q, (decide (y = d) || !overN T y) = q := ⟨_, rfl⟩
  obtain ⟨p5, hp5⟩ : ∃ q, decide (L.getD x 0 = L.getD y 0 + costN T a) = q := ⟨_, rfl⟩
  have hon : onB T D L a d = ((((p1 && p2) && p3) && p4) && p5) := by
    unfold onB
    rw [hx, hy, Int.toNat_natCast, Int.toNat_natCast, hp1, hp2, hp3, hp4, hp5]
  rw [hon]
  refine can_of Try.func45 rfl Try.ntmps45 rfl ?_
  refine W_cs (.a 2 rfl <| .k [1, 2, 3, 4, 5] rfl) ?_
  refine W_drs mixed (by kernel_rfl) (.a 2 rfl <| .v [13, 14] (y_c rfl (hx ▸ rtailN_can T hv a ha)) rfl rfl <| .a 2 rfl <| .v [16, 17] (y_c rfl (hy ▸ rheadN_can T hv a ha)) rfl rfl <| .a 2 rfl <| .k [1, 2, 3, 4, 5, 11, 12] rfl) ?_
  refine W_drsK mixed (by kernel_rfl) 10 (.raw (.bool ((((p1 && p2) && p3) && p4) && p5))) [] rfl ?_ ?_
  · refine .a 2 rfl <| .v [19, 20] (y_c rfl (hp1 ▸ rup_can D a hDl)) rfl rfl <| .a 1 rfl <| ?_
    cases p1
    · exact .a 33 rfl <| .k [10] rfl
    · refine .a 2 rfl <| .v [23, 24] (y_q rfl (hp2)) rfl rfl <| .a 2 rfl <| ?_
      cases p2
      · exact .a 28 rfl <| .k [10] rfl
      · refine .a 2 rfl <| .v [28, 29] (y_ix (y) rfl) rfl rfl <| .v [30] (y_ld rfl (ints_get L y hyL)) rfl rfl <| .v [31] (y_q rfl (hp3)) rfl rfl <| .a 2 rfl <| ?_
        cases p3
        · exact .a 21 rfl <| .k [10] rfl
        · refine .a 3 rfl <| .v [35, 36, 37] (y_c rfl (hp4 ▸ rtransit_can T hv y d)) rfl rfl <| .a 2 rfl <| ?_
          cases p4
          · exact .a 15 rfl <| .k [10] rfl
          · exact .a 2 rfl <| .v [41, 42] (y_ix (x) rfl) rfl rfl <| .v [43] (y_ld rfl (ints_get L x hxL)) rfl rfl <| .a 2 rfl <| .v [45, 46] (y_ix (y) rfl) rfl rfl <| .v [47] (y_ld rfl (ints_get L y hyL)) rfl rfl <| .a 2 rfl <| .v [49, 50] (y_c rfl (rcostN_can T hv a ha)) rfl rfl <| .v [48, 51] (y_ar rfl) rfl rfl <| .v [44, 52] (y_q rfl (hp5)) rfl rfl <| .a 2 rfl <| .k [10] rfl
  refine W_ret ?_
  exact ⟨_, _, ResL.of rfl, Pur.pure, rfl⟩

def rnextTo (T : Topo) (D : List Bool) (L : List Int) (n d k : Nat) : List Int := ((List.range k).filter fun a => decide (tailN T a = (n : Int)) && onB T D L a d).map Int.ofNat
theorem rnextTo_step (T : Topo) (D : List Bool) (L : List Int) (n d k : Nat) : rnextTo T D L n d (k + 1) = rnextTo T D L n d k ++ (if decide (tailN T k = (n : Int)) && onB T D L k d then [(k : Int)] else []) := by
  unfold rnextTo
  rw [List.range_succ, List.filter_append, List.map_append]
  congr 1
  simp only [List.filter_cons, List.filter_nil]
  split <;> simp
theorem rnextTo_len (T : Topo) (D : List Bool) (L : List Int) (n d k : Nat) : (rnextTo T D L n d k).length ≤ k := by
  unfold rnextTo
  rw [List.length_map]
  exact Nat.le_trans (List.length_filter_le _ _) (by simp)

set_option maxRecDepth 10000 in
set_option maxHeartbeats 1000000 in
theorem rnext1_can (T : Topo) (D : List Bool) (L : List Int) (n d : Nat) (hv : validB T = true) (hf : fitsB T D = true) (hL : (L.length : Int) = T.nodes) (hub : ∀ x ∈ L, -1 ≤ x ∧ x ≤ 4194240) :
    Can Try.prog 47 [topoV T, boolsV D, intsV L, num n, num d] (· = intsV (rnextTo T D L n d (2 * T.links.length))) := by
  have hll := links_le hv
  refine can_of Try.func47 rfl Try.ntmps47 rfl ?_
  refine W_cs (.a 2 rfl <| .k [1, 2, 3, 4, 5] rfl) ?_
  refine W_cs (.a 1 rfl <| .k [1, 2, 3, 4, 5, 11] rfl) ?_
  refine W_adopt 11 3 1 rfl ?_
  refine W_seq ?_
  refine W_cs (.a 1 rfl <| .k [1, 2, 3, 4, 5, 11, 12] rfl) ?_
  refine W_block ?_
  refine W_k [1, 2, 3, 4, 5, 11, 12] rfl ?_
  refine W_loop (fun r s => ∃ k, k ≤ 2 * T.links.length ∧ r = 2 * T.links.length - k ∧ s = ⟨[(1, boolsV D), (2, intsV L), (3, num n), (4, num d), (5, .pin (topoP T) 0), (11, .own 0), (12, num k)], [some (.row 3 1 (rnextTo T D L n d k).length (intsP (rnextTo T D L n d k)))]⟩) (2 * T.links.length) ⟨0, by omega, by omega, rfl⟩ ?_
  rintro r s ⟨k, hk, rfl, rfl⟩
  refine W_seq ?_
  refine W_cs (.a 4 rfl <| .v (y_ar rfl (hc := rfl)) rfl <| .a 1 rfl <| .k [1, 2, 3, 4, 5, 11, 12, 18] rfl) ?_
  refine W_cond rfl (fun hc => ?_) (fun hc => ?_)
  · have hlt : k < 2 * T.links.length := by have := of_decide_eq_true hc; omega
    have hlen := rnextTo_len T D L n d k
    have hst := rnextTo_step T D L n d k
    refine W_skip ?_
    refine W_seq ?_
    refine W_block ?_
    obtain ⟨p1, hp1⟩ : ∃ q, decide (tailN T k = (n : Int)) = q := ⟨_, rfl⟩
    obtain ⟨p2, hp2⟩ : ∃ q, onB T D L k d = q := ⟨_, rfl⟩
    refine W_csK 33 (.raw (.bool (p1 && p2))) [1, 2, 3, 4, 5, 11, 12] rfl ?_ ?_
    · refine .a 2 rfl <| .c rfl (rtailN_can T hv k hlt) rfl <| .a 1 rfl <| .v (y_q rfl (hp1)) rfl <| .a 1 rfl <| ?_
      cases p1
      · exact .a 7 rfl <| .k [33, 1, 2, 3, 4, 5, 11, 12] rfl
      · exact .a 5 rfl <| .c rfl (hp2 ▸ on_can T D L k d hv hf hL hub hlt) rfl <| .a 1 rfl <| .k [33, 1, 2, 3, 4, 5, 11, 12] rfl
    refine W_cond rfl (fun hc => ?_) (fun hc => ?_)
    · rw [hp1, hp2, hc, if_pos rfl] at hst
      refine W_region ?_
      refine WR_a 3 rfl <| WR_l (l_append rfl (fok.rk.get rfl) rfl rfl rfl rfl (by unfold maxLen; omega)) rfl <| WR_a 1 rfl ?_
      refine WR_ren [1] (.c 1 <| .c 2 <| .c 3 <| .c 4 <| .c 5 <| .c 11 <| .c 12 <| .nil) (.kept rfl (.rowP rfl (intsP_snoc _ _)) <| .nil) rfl rfl (WR_nil ?_)
      refine W_chain (.a 1 rfl <| .v (y_ar rfl) rfl <| .a 1 rfl <| .k [1, 2, 3, 4, 5, 11, 12] rfl) ?_
      refine ⟨2 * T.links.length - (k + 1), by omega, k + 1, by omega, rfl, ?_⟩
      rw [hst]
      first
        | rfl
        | (simp only [List.length_append, List.length_singleton]; rfl)
    · rw [hp1, hp2, hc, if_neg (by simp), List.append_nil] at hst
      refine W_skip ?_
      refine W_chain (.a 1 rfl <| .v (y_ar rfl) rfl <| .a 1 rfl <| .k [1, 2, 3, 4, 5, 11, 12] rfl) ?_
      refine ⟨2 * T.links.length - (k + 1), by omega, k + 1, by omega, rfl, ?_⟩
      rw [hst]
      first
        | rfl
        | (simp only [List.length_append, List.length_singleton]; rfl)
  · have hke : k = 2 * T.links.length := by have := of_decide_eq_false hc; omega
    subst hke
    refine W_exit ?_
    refine W_cs (.a 2 rfl <| .k [10] rfl) ?_
    refine W_ret ?_
    exact ⟨_, _, ResL.of rfl, Pur.ownL rfl PurL.pure, rfl⟩

theorem next_same (T : Topo) (D : List Bool) (n d : Nat) (hv : validB T = true) (hn : (n : Int) < T.nodes) : rnextTo T D (distL T D d false) n d (2 * T.links.length) = nextL T D n d := by
  have hS := sound_of hv
  unfold nextL
  generalize distL T D d false = L
  have hpass : ∀ k, k < 2 * T.links.length → (decide (tailN T k = (n : Int)) && onB T D L k d) = if n = d ∨ L.getD n 0 < 0 then false else (tailN T k == (n : Int)) && passB T D L (L.getD n 0) d k := fun k hk => by
    obtain ⟨y, hy⟩ := Int.eq_ofNat_of_zero_le (hS.head k hk).1
    have hc := hS.cost k hk
    by_cases ht : tailN T k = (n : Int)
    · simp only [ht, decide_true, Bool.true_and, beq_self_eq_true]
      unfold onB passB
      rw [ht, hy, Int.toNat_natCast, Int.toNat_natCast]
      generalize L.getD n 0 = u
      generalize L.getD y 0 = v
      by_cases h1 : n = d
      · simp [h1]
      · by_cases h2 : u < 0
        · rw [if_pos (.inr h2)]
          by_cases h3 : 0 ≤ v
          · have : ¬ u = v + costN T k := by omega
            simp [this]
          · simp [h3]
        · rw [if_neg (by omega)]
          have e1 : decide ((n : Int) ≠ (d : Int)) = true := by simp; omega
          have e2 : decide (v < 0) = !decide (0 ≤ v) := by
            by_cases h : 0 ≤ v
            · simp only [h, decide_true, Bool.not_true, decide_eq_false_iff_not]; omega
            · simp only [h, decide_false, Bool.not_false, decide_eq_true_eq]; omega
          have e3 : decide ((y : Int) ≠ (d : Int)) = !decide (y = d) := by
            by_cases h : y = d
            · simp [h]
            · simp only [h, decide_false, Bool.not_false, decide_eq_true_eq]; omega
          have e4 : decide (v + costN T k = u) = decide (u = v + costN T k) := by
            by_cases h : u = v + costN T k
            · simp [h]
            · simp only [h, decide_false, decide_eq_false_iff_not]; omega
          rw [e1, e2, e3, e4]
          generalize decide (0 ≤ v) = b1
          generalize decide (y = d) = b2
          generalize decide (u = v + costN T k) = b3
          cases downN D k <;> cases b1 <;> cases b2 <;> cases b3 <;> cases overN T y <;> rfl
    · simp [ht]
  unfold rnextTo
  rw [show (List.range (2 * T.links.length)).filter (fun a => decide (tailN T a = (n : Int)) && onB T D L a d) = (List.range (2 * T.links.length)).filter (fun k => if n = d ∨ L.getD n 0 < 0 then false else (tailN T k == (n : Int)) && passB T D L (L.getD n 0) d k) from List.filter_congr fun k hk => hpass k (List.mem_range.1 hk)]
  by_cases h : n = d ∨ L.getD n 0 < 0
  · simp only [if_pos h]; simp
  · simp only [if_neg h]
    unfold passL outL outTo
    rw [List.filter_map]
    congr 1
    rw [List.filter_filter]
    apply List.filter_congr
    intro k _
    simp [Function.comp, Bool.and_comm]

set_option maxRecDepth 10000 in
set_option maxHeartbeats 1000000 in
theorem rnext_can (T : Topo) (D : List Bool) (n d : Int) : Can Try.prog 24 [topoV T, boolsV D, num n, num d] (· = intsE (nodeE T D n d) (nextL T D n.toNat d.toNat)) := by
  refine can_of Try.func24 rfl Try.ntmps24 rfl ?_
  refine W_cs (.a 3 rfl <| .k [1, 2, 3, 4] rfl) ?_
  refine W_cs (.a 3 rfl <| .c rfl (rdist_can T D d) rfl <| .a 5 rfl <| .k [1, 2, 3, 4, 10, 11] rfl) ?_
  refine W_seq ?_
  refine W_cs (.a 2 rfl <| .k [1, 2, 3, 4, 10, 11, 20] rfl) ?_
  refine W_cond rfl (fun hc => ?_) (fun hc => ?_)
  · have he : chkE T D [d] ≠ 0 := of_decide_eq_true hc
    refine W_cs (.a 3 rfl <| .k [8, 9] rfl) ?_
    refine W_ret ?_
    exact ⟨_, _, ResL.of rfl, Pur.tupleL (PurL.cons Pur.nils (PurL.cons Pur.pure PurL.nil)), by unfold intsE nodeE; rw [if_neg he, if_neg he]; rfl⟩
  · have he : chkE T D [d] = 0 := by have := of_decide_eq_false hc; omega
    rw [he]
    obtain ⟨hv, hf, hd⟩ := chkE_zero he
    have hd := nodeB_iff.1 (hd d (by simp))
    obtain ⟨d, rfl⟩ := Int.eq_ofNat_of_zero_le hd.1
    obtain ⟨hb1, hb2⟩ := distL_bound (D := D) hv (dir := false) hd.2
    refine W_skip ?_
    refine W_seq ?_
    obtain ⟨q1, hq1⟩ : ∃ q, decide (n < 0) = q := ⟨_, rfl⟩
    obtain ⟨q2, hq2⟩ : ∃ q, decide (T.nodes ≤ n) = q := ⟨_, rfl⟩
    have hnb : nodeB T n = !(q1 || q2) := by rw [← hq1, ← hq2]; unfold nodeB; by_cases h1 : n < 0 <;> by_cases h2 : T.nodes ≤ n <;> simp [h1, h2] <;> omega
    refine W_csK 29 (.raw (.bool (q1 || q2))) [1, 2, 3, 4, 10] rfl ?_ ?_
    · refine .a 1 rfl <| .v (y_q rfl (hq1)) rfl <| .a 1 rfl <| ?_
      cases q1
      · exact .a 3 rfl <| .v (y_q rfl (hq2)) rfl <| .a 1 rfl <| .k [29, 1, 2, 3, 4, 10] rfl
      · exact .a 5 rfl <| .k [29, 1, 2, 3, 4, 10] rfl
    refine W_cond rfl (fun hc => ?_) (fun hc => ?_)
    · rw [hc] at hnb
      refine W_cs (.a 2 rfl <| .k [8, 9] rfl) ?_
      refine W_ret ?_
      exact ⟨_, _, ResL.of rfl, Pur.tupleL (PurL.cons Pur.nils (PurL.cons Pur.pure PurL.nil)), by unfold intsE nodeE; rw [if_pos he, hnb]; rfl⟩
    · rw [hc] at hnb
      have hn := nodeB_iff.1 hnb
      obtain ⟨n, rfl⟩ := Int.eq_ofNat_of_zero_le hn.1
      have hcon := rnext1_can T D (distL T D d false) n d hv hf hb1 hb2
      rw [next_same T D n d hv hn.2] at hcon
      refine W_skip ?_
      refine W_cs (.a 5 rfl <| .c rfl (hcon) rfl <| .a 2 rfl <| .k [8, 9] rfl) ?_
      refine W_ret ?_
      exact ⟨_, _, ResL.of rfl, Pur.pure, by unfold intsE nodeE; rw [if_pos he, hnb]; rfl⟩

end PW
end Go.Proofs.Ytkgepjiebihodaa

/- The reference of layer 22: Routes. -/
namespace Go.Proofs.Ytkgepjiebihodaa
set_option linter.unusedVariables false
set_option linter.unusedSimpArgs false
namespace PW
open Go.RowKit Reg Mem Net

end PW
end Go.Proofs.Ytkgepjiebihodaa

/- Segments are compared. -/
namespace Go.Proofs.Ytkgepjiebihodaa
set_option linter.unusedVariables false
set_option linter.unusedSimpArgs false
namespace PW
open Go.RowKit Reg Mem Net

theorem run_eqSeg (a b c d : Int) (w : World) : (Op.equalIn 10000 56 (.agg #[.int .i64 a, .int .i64 b]) (.agg #[.int .i64 c, .int .i64 d])).run Try.prog w = .ok (a == c && b == d) w := by
  have u3 := Try.underlying3
  have a3 := Try.isAgg3
  have z3 := Try.sizeOf3
  have hS : Try.prog.underlying 56 = some (.struct (Try.prog.fieldsOf 56)) := by kernel_rfl
  rw [show (10000 : Nat) = 9999 + 1 from rfl, run_equalIn_agg w 9999 56 _ _ hS (by kernel_rfl)]
  simp only [Program.fieldsOf, Try.underlying56]
  go_simp
  by_cases h1 : a = c <;> by_cases h2 : b = d <;> simp [h1, h2]
theorem rep_seg {E : Env} {w : World} {v : Value} {s : Seg} (h : Rep E w v (segV s)) : v = .agg #[.int .i64 s.kind, .int .i64 s.num] := by
  unfold segV segP at h
  cases h with
  | agg cs _ hl hr =>
    obtain ⟨l⟩ := cs
    match l, hl, hr with
    | [x, y], _, hr =>
      have h0 := rep_raw (hr 0 x _ rfl rfl)
      have h1 := rep_raw (hr 1 y _ rfl rfl)
      subst h0; subst h1; rfl
    | [], hl, _ => simp at hl
    | [_], hl, _ => simp at hl
    | _ :: _ :: _ :: _, hl, _ => simp at hl
theorem y_segNeq {σ : Sto} {t : Tms} {o : Oper} {x y : Operand} {tz : TypeId} {a b : Seg} {q : Bool} (ho : o.op = .binOp .neq 56 x y tz) (hx : evalO t x = some (segV a)) (hy : evalO t y = some (segV b)) (hq : decide (a ≠ b) = q) : Yield Try.prog σ t o (.raw (.bool q)) := by
  intro F base E ρ w hρ _ hT
  have h1 := rep_seg (evalO_rep hρ hT hx)
  have h2 := rep_seg (evalO_rep hρ hT hy)
  have hb : (!(a.kind == b.kind && a.num == b.num)) = q := by
    rw [← hq]
    obtain ⟨a1, a2⟩ := a
    obtain ⟨b1, b2⟩ := b
    by_cases e1 : a1 = b1 <;> by_cases e2 : a2 = b2 <;> simp [e1, e2]
  simp only [execOp, ho, h1, h2, Sem.run_bind, run_eqGuard_agg w _ _ _ _ _ _ (show Try.prog.eqGuardType Try.prog.depth 56 = false by kernel_rfl), Result.andThen_ok, run_neq_struct, run_eqSeg, Sem.run_pure, hb]
  exact upon_val (.raw _)
theorem y_segEql {σ : Sto} {t : Tms} {o : Oper} {x y : Operand} {tz : TypeId} {a b : Seg} {q : Bool} (ho : o.op = .binOp .eql 56 x y tz) (hx : evalO t x = some (segV a)) (hy : evalO t y = some (segV b)) (hq : decide (a = b) = q) : Yield Try.prog σ t o (.raw (.bool q)) := by
  intro F base E ρ w hρ _ hT
  have h1 := rep_seg (evalO_rep hρ hT hx)
  have h2 := rep_seg (evalO_rep hρ hT hy)
  have hb : (a.kind == b.kind && a.num == b.num) = q := by
    rw [← hq]
    obtain ⟨a1, a2⟩ := a
    obtain ⟨b1, b2⟩ := b
    by_cases e1 : a1 = b1 <;> by_cases e2 : a2 = b2 <;> simp [e1, e2]
  simp only [execOp, ho, h1, h2, Sem.run_bind, run_eqGuard_agg w _ _ _ _ _ _ (show Try.prog.eqGuardType Try.prog.depth 56 = false by kernel_rfl), Result.andThen_ok, run_eql_struct, run_eqSeg, Sem.run_pure, hb]
  exact upon_val (.raw _)
end PW
end Go.Proofs.Ytkgepjiebihodaa

/- The reference of the layers 18 and 22: Same. -/
namespace Go.Proofs.Ytkgepjiebihodaa
set_option linter.unusedVariables false
set_option linter.unusedSimpArgs false
namespace PW
open Go.RowKit Reg Mem Net

set_option maxRecDepth 10000 in
set_option maxHeartbeats 1000000 in
theorem rsegs_can (L M : List Seg) : Can Try.prog 14 [segsV L, segsV M] (· = flag (decide (L = M))) := by
  refine can_rep fun ⟨E, w, vs, hR⟩ => ?_
  obtain ⟨v, _, hv⟩ := hR.get (i := 0) rfl
  have hm := rep_len hv
  unfold maxLen at hm
  refine can_of Try.func14 rfl Try.ntmps14 rfl ?_
  refine W_cs (.a 1 rfl <| .k [0, 1] rfl) ?_
  refine W_seq ?_
  refine W_cs (.a 5 rfl <| .k [0, 1, 10] rfl) ?_
  refine W_cond rfl (fun hc => ?_) (fun hc => ?_)
  · have hne : L ≠ M := fun e => by have := of_decide_eq_true hc; rw [e] at this; exact this rfl
    refine W_cs (.a 1 rfl <| .k [4] rfl) ?_
    refine W_ret ?_
    exact ⟨_, _, ResL.of rfl, Pur.pure, by rw [decide_eq_false hne]; rfl⟩
  · have hlen : L.length = M.length := by have := of_decide_eq_false hc; omega
    refine W_skip ?_
    refine W_seq ?_
    refine W_cs (.a 1 rfl <| .k [0, 1, 5] rfl) ?_
    refine W_block ?_
    refine W_k [0, 1, 5] rfl ?_
    refine W_loop (fun r s => ∃ i, i ≤ L.length ∧ (∀ j, j < i → L[j]? = M[j]?) ∧ r = L.length - i ∧ s = ⟨[(0, segsV L), (1, segsV M), (5, num i)], []⟩) L.length ⟨0, by omega, fun j hj => by omega, by omega, rfl⟩ ?_
    rintro r s ⟨i, hi, hall, rfl, rfl⟩
    refine W_seq ?_
    refine W_cs (.a 4 rfl <| .k [0, 1, 5, 14] rfl) ?_
    refine W_cond rfl (fun hc => ?_) (fun hc => ?_)
    · have hlt : i < L.length := by have := of_decide_eq_true hc; omega
      obtain ⟨a, ha⟩ : ∃ a, L[i]? = some a := ⟨L[i], by simp [hlt]⟩
      obtain ⟨b, hb⟩ : ∃ b, M[i]? = some b := ⟨M[i]'(by omega), by simp [show i < M.length by omega]⟩
      refine W_skip ?_
      refine W_seq ?_
      refine W_block ?_
      refine W_drs mixed (by kernel_rfl) (.a 2 rfl <| .v [17, 18] (y_ix (i * 2) rfl) rfl rfl <| .v [19] (y_loadPinAgg rfl (fok.tk.get rfl) rfl (segs_drop L i a ha) rfl) rfl rfl <| .a 2 rfl <| .v [21, 22] (y_ix (i * 2) rfl) rfl rfl <| .v [23] (y_loadPinAgg rfl (fok.tk.get rfl) rfl (segs_drop M i b hb) rfl) rfl rfl <| .v [20, 24] (y_segNeq (a := a) (b := b) rfl rfl rfl rfl) rfl rfl <| .k [0, 1, 5, 25] rfl) ?_
      refine W_cond rfl (fun hc => ?_) (fun hc => ?_)
      · have hne : L ≠ M := fun e => by rw [e, hb] at ha; cases ha; exact of_decide_eq_true hc rfl
        refine W_cs (.a 1 rfl <| .k [4] rfl) ?_
        refine W_ret ?_
        exact ⟨_, _, ResL.of rfl, Pur.pure, by rw [decide_eq_false hne]; rfl⟩
      · have hab : a = b := Classical.byContradiction (of_decide_eq_false hc)
        refine W_skip ?_
        refine W_chain (.a 1 rfl <| .v (y_ar rfl) rfl <| .a 1 rfl <| .k [0, 1, 5] rfl) ?_
        exact ⟨L.length - (i + 1), by omega, i + 1, by omega, fun j hj => by by_cases e : j = i; (rw [e, ha, hb, hab]); exact hall j (by omega), rfl, rfl⟩
    · have hie : i = L.length := by have := of_decide_eq_false hc; omega
      have heq : L = M := List.ext_getElem? fun j => by
        by_cases hj : j < L.length
        · exact hall j (by omega)
        · rw [List.getElem?_eq_none (by omega), List.getElem?_eq_none (by omega)]
      refine W_exit ?_
      refine W_cs (.a 1 rfl <| .k [4] rfl) ?_
      refine W_ret ?_
      exact ⟨_, _, ResL.of rfl, Pur.pure, by rw [decide_eq_true heq]; rfl⟩

def entB (a b : Ent) : Bool := (a.rep == b.rep) && sameB a.arcs b.arcs && decide (a.push = b.push)
deriving instance DecidableEq for Ent
deriving instance DecidableEq for Tab
theorem entB_eq (a b : Ent) : entB a b = decide (a = b) := by
  obtain ⟨a1, a2, a3⟩ := a
  obtain ⟨b1, b2, b3⟩ := b
  unfold entB sameB
  by_cases e1 : a1 = b1 <;> by_cases e2 : a2 = b2 <;> by_cases e3 : a3 = b3 <;> simp [e1, e2, e3]
theorem rep_tab {E : Env} {w : World} {v : Value} {x : Tab} (h : Rep E w v (tabV x)) : x.ents.length ≤ maxLen ∧ x.down.length ≤ maxLen := by
  unfold tabV tabP at h
  cases h with
  | agg cs _ hl hr =>
    have hr : RepL E w cs.toList _ := ⟨by simpa using hl, fun i x u h1 h2 => hr i x u (by simpa using h1) h2⟩
    obtain ⟨v1, _, h1⟩ := hr.get (i := 1) rfl
    obtain ⟨v2, _, h2⟩ := hr.get (i := 2) rfl
    exact ⟨rep_len h1, rep_len h2⟩
end PW
end Go.Proofs.Ytkgepjiebihodaa

/- Valid segments and tables: graph.Segment, package table's leaving, proper, Valid; the reference's of layers 18 and 22. -/
namespace Go.Proofs.Ytkgepjiebihodaa
set_option linter.unusedVariables false
set_option linter.unusedSimpArgs false
namespace PW
open Go.RowKit Reg Mem Net

def segB (T : Topo) (s : Seg) : Bool := if s.kind = 1 then nodeB T s.num else if s.kind = 2 then arcB T s.num else if s.kind = 3 then withinB s.num 1 64 else if s.kind = 4 then withinB s.num 0 65535 else false
def leaveB (T : Topo) (n : Int) (L : List Int) : Bool := decide (∀ i, i < L.length → arcB T (L.getD i 0) = true ∧ tailN T (L.getD i 0).toNat = n ∧ (0 < i → L.getD (i - 1) 0 < L.getD i 0))
def entOK (T : Topo) (n d : Int) (e : Ent) : Bool := leaveB T n e.arcs && (!(decide (d = n) && decide (0 < (e.arcs.length : Int)))) && (if e.rep then decide ((e.arcs.length : Int) = 1) && decide ((e.push.length : Int) ≤ 32) && e.push.all (segB T) else decide ((e.push.length : Int) = 0))
def entD : Ent := ⟨[], false, []⟩
def entsOK (T : Topo) (n : Int) (l : List Ent) : Bool := decide (∀ d, d < l.length → entOK T n d (l.getD d entD) = true)
def tabOK (T : Topo) (x : Tab) : Bool := validB T && nodeB T x.node && decide ((x.ents.length : Int) = T.nodes) && leaveB T x.node x.down && entsOK T x.node x.ents
theorem arcB_iff {T : Topo} {a : Int} : arcB T a = true ↔ 0 ≤ a ∧ a < 2 * (T.links.length : Int) := by simp [arcB]
theorem tailI_can (T : Topo) (a : Int) (h : arcB T a = true) : Can Try.prog 73 [topoV T, num a] (· = num (tailN T a.toNat)) := by
  obtain ⟨h0, h1⟩ := arcB_iff.1 h
  obtain ⟨a, rfl⟩ := Int.eq_ofNat_of_zero_le h0
  exact tail_can T a (by omega)

set_option maxRecDepth 10000 in
set_option maxHeartbeats 1000000 in
theorem segm_can (T : Topo) (hl : T.links.length ≤ 4611686018427387903) (s : Seg) : Can Try.prog 96 [topoV T, segV s] (· = flag (segB T s)) := by
  unfold segB
  refine can_of Try.func96 rfl Try.ntmps96 rfl ?_
  refine W_cs (.a 3 rfl <| .k [2, 3] rfl) ?_
  refine W_seq ?_
  refine W_cs (.a 2 rfl <| .k [2, 3, 6] rfl) ?_
  refine W_block ?_
  refine W_cs (.a 2 rfl <| .k [2, 3, 6, 7] rfl) ?_
  refine W_cond rfl (fun hc => ?_) (fun hc => ?_)
  · rw [if_pos (tt hc)]
    refine W_cs (.a 3 rfl <| .c rfl (node_can T s.num) rfl <| .a 1 rfl <| .k [4] rfl) ?_
    refine W_ret ?_
    exact ⟨_, _, ResL.of rfl, Pur.pure, rfl⟩
  · rw [if_neg (ff hc)]
    refine W_cs (.a 2 rfl <| .k [2, 3, 6, 13] rfl) ?_
    refine W_cond rfl (fun hc => ?_) (fun hc => ?_)
    · rw [if_pos (tt hc)]
      refine W_cs (.a 3 rfl <| .c rfl (arc_can T hl s.num) rfl <| .a 1 rfl <| .k [4] rfl) ?_
      refine W_ret ?_
      exact ⟨_, _, ResL.of rfl, Pur.pure, rfl⟩
    · rw [if_neg (ff hc)]
      refine W_cs (.a 2 rfl <| .k [3, 6, 19] rfl) ?_
      refine W_cond rfl (fun hc => ?_) (fun hc => ?_)
      · rw [if_pos (tt hc)]
        obtain ⟨p1, hp1⟩ : ∃ q, decide (1 ≤ s.num) = q := ⟨_, rfl⟩
        obtain ⟨p2, hp2⟩ : ∃ q, decide (s.num ≤ 64) = q := ⟨_, rfl⟩
        have he : withinB s.num 1 64 = (p1 && p2) := by rw [← hp1, ← hp2]; unfold withinB; exact Bool.decide_and _ _
        rw [he]
        refine W_csK 4 (.raw (.bool (p1 && p2))) [] rfl ?_ ?_
        · refine .a 2 rfl <| .v (y_q rfl (hp1)) rfl <| .a 1 rfl <| ?_
          cases p1
          · exact .a 5 rfl <| .k [4] rfl
          · exact .a 2 rfl <| .v (y_q rfl (hp2)) rfl <| .a 2 rfl <| .k [4] rfl
        refine W_ret ?_
        exact ⟨_, _, ResL.of rfl, Pur.pure, rfl⟩
      · rw [if_neg (ff hc)]
        refine W_cs (.a 2 rfl <| .k [3, 29] rfl) ?_
        refine W_cond rfl (fun hc => ?_) (fun hc => ?_)
        · rw [if_pos (tt hc)]
          obtain ⟨p1, hp1⟩ : ∃ q, decide (0 ≤ s.num) = q := ⟨_, rfl⟩
          obtain ⟨p2, hp2⟩ : ∃ q, decide (s.num ≤ 65535) = q := ⟨_, rfl⟩
          have he : withinB s.num 0 65535 = (p1 && p2) := by rw [← hp1, ← hp2]; unfold withinB; exact Bool.decide_and _ _
          rw [he]
          refine W_csK 4 (.raw (.bool (p1 && p2))) [] rfl ?_ ?_
          · refine .a 2 rfl <| .v (y_q rfl (hp1)) rfl <| .a 1 rfl <| ?_
            cases p1
            · exact .a 5 rfl <| .k [4] rfl
            · exact .a 2 rfl <| .v (y_q rfl (hp2)) rfl <| .a 2 rfl <| .k [4] rfl
          refine W_ret ?_
          exact ⟨_, _, ResL.of rfl, Pur.pure, rfl⟩
        · rw [if_neg (ff hc)]
          refine W_skip ?_
          refine W_cs (.a 1 rfl <| .k [4] rfl) ?_
          refine W_ret ?_
          exact ⟨_, _, ResL.of rfl, Pur.pure, rfl⟩
theorem segB_neg {T : Topo} {s : Seg} (h : s.num < 0) : segB T s = false := by
  unfold segB
  have h1 : nodeB T s.num = false := by unfold nodeB; exact decide_eq_false (by omega)
  have h2 : arcB T s.num = false := by unfold arcB; exact decide_eq_false (by omega)
  have h3 : withinB s.num 1 64 = false := by unfold withinB; exact decide_eq_false (by omega)
  have h4 : withinB s.num 0 65535 = false := by unfold withinB; exact decide_eq_false (by omega)
  rw [h1, h2, h3, h4]
  simp
/-- One step of the check of a list of arcs. -/
def stepB (T : Topo) (n : Int) (L : List Int) (i : Nat) : Bool := decide (arcB T (L.getD i 0) = true ∧ tailN T (L.getD i 0).toNat = n ∧ (0 < i → L.getD (i - 1) 0 < L.getD i 0))
theorem leave_all {T : Topo} {n : Int} {L : List Int} (h : ∀ i, i < L.length → stepB T n L i = true) : leaveB T n L = true := decide_eq_true fun i hi => tt (h i hi)
theorem leave_fail {T : Topo} {n : Int} {L : List Int} {i : Nat} (hi : i < L.length) (h : stepB T n L i = false) : leaveB T n L = false := decide_eq_false fun ha => ff h (ha i hi)
theorem rtail_step {T : Topo} (a n : Int) (hn : 0 ≤ n) : (rtail T a = n) ↔ (arcB T a = true ∧ tailN T a.toNat = n) := by
  unfold rtail
  rw [arcB_iff]
  split
  · rename_i h; exact ⟨fun e => ⟨h, e⟩, fun e => e.2⟩
  · rename_i h; exact ⟨fun e => by omega, fun e => absurd e.1 h⟩
theorem allT {α : Type} (p : α → Bool) (L : List α) (k : Nat) (a : α) (h : L[k]? = some a) : (L.take (k + 1)).all p = ((L.take k).all p && p a) := by
  rw [List.take_add_one, h, List.all_append]; simp
theorem allF {α : Type} (p : α → Bool) (L : List α) (k : Nat) (a : α) (h : L[k]? = some a) (hp : p a = false) : L.all p = false := by
  rw [Bool.eq_false_iff]
  intro ha
  have := List.all_eq_true.1 ha a (List.mem_of_getElem? h)
  rw [hp] at this
  cases this
theorem ents_getD (l : List Ent) (k : Nat) (e : Ent) (h : l[k]? = some e) : l.getD k entD = e := by rw [List.getD_eq_getElem?_getD, h]; rfl
theorem entsOK_fail {T : Topo} {n : Int} {l : List Ent} {k : Nat} {e : Ent} (h : l[k]? = some e) (hf : entOK T n k e = false) : entsOK T n l = false := decide_eq_false fun ha => by
  have := ha k (List.getElem?_eq_some_iff.1 h).1
  rw [ents_getD l k e h, hf] at this
  cases this
theorem entsOK_all {T : Topo} {n : Int} {l : List Ent} (h : ∀ (k : Nat) e, l[k]? = some e → entOK T n k e = true) : entsOK T n l = true := decide_eq_true fun d hd => by
  have he : l[d]? = some l[d] := by simp [hd]
  rw [ents_getD l d _ he]
  exact h d _ he
end PW
end Go.Proofs.Ytkgepjiebihodaa

/- The next arcs of a node, as plain mathematics: they lead to nodes that are nearer; a node that reaches has one; tables of routes are valid. -/
namespace Go.Proofs.Ytkgepjiebihodaa
set_option linter.unusedVariables false
set_option linter.unusedSimpArgs false
namespace PW
open Go.RowKit Reg Mem Net

theorem outL_sorted (T : Topo) (n : Int) : (outL T n).Pairwise (· < ·) := by
  unfold outL outTo
  refine List.Pairwise.map _ (fun a b h => ?_) ((List.pairwise_lt_range (n := 2 * T.links.length)).filter _)
  show (a : Int) < (b : Int)
  omega
theorem outL_iff {T : Topo} {n : Int} {a : Int} : a ∈ outL T n ↔ arcB T a = true ∧ tailN T a.toNat = n := by
  unfold outL outTo
  rw [List.mem_map, arcB_iff]
  constructor
  · rintro ⟨b, hb, rfl⟩
    obtain ⟨h1, h2⟩ := List.mem_filter.1 hb
    have := List.mem_range.1 h1
    refine ⟨⟨by simp, by simp; omega⟩, by simpa using h2⟩
  · rintro ⟨⟨h0, h1⟩, h2⟩
    refine ⟨a.toNat, List.mem_filter.2 ⟨List.mem_range.2 (by omega), by simpa using h2⟩, by simp; omega⟩
theorem leave_of {T : Topo} {n : Int} {L : List Int} (hs : L.Pairwise (· < ·)) (hm : ∀ a ∈ L, arcB T a = true ∧ tailN T a.toNat = n) : leaveB T n L = true := decide_eq_true fun i hi => by
  have h1 := hm _ (getD_mem (d := 0) hi)
  refine ⟨h1.1, h1.2, fun h0 => ?_⟩
  have := List.pairwise_iff_getElem.1 hs (i - 1) i (by omega) hi (by omega)
  rw [List.getD_eq_getElem?_getD, List.getD_eq_getElem?_getD, List.getElem?_eq_getElem hi, List.getElem?_eq_getElem (by omega : i - 1 < L.length)]
  exact this
theorem leave_out (T : Topo) (n : Int) (p : Int → Bool) : leaveB T n ((outL T n).filter p) = true := leave_of ((outL_sorted T n).filter p) fun _ ha => outL_iff.1 (List.mem_filter.1 ha).1
theorem leave_next (T : Topo) (D : List Bool) (n d : Nat) : leaveB T n (nextL T D n d) = true := by
  unfold nextL
  split
  · exact decide_eq_true fun i hi => by simp at hi
  · exact leave_out T n _
theorem next_self (T : Topo) (D : List Bool) (n : Nat) : nextL T D n n = [] := by unfold nextL; rw [if_pos (.inl rfl)]
/-- Tables of routes are valid. -/
theorem routes_valid {T : Topo} {D : List Bool} (hv : validB T = true) {n : Nat} (hn : (n : Int) < T.nodes) : tabOK T (routesT T D n) = true := by
  unfold tabOK routesT
  have h1 : nodeB T (n : Int) = true := nodeB_iff.2 ⟨by omega, hn⟩
  have hN := (sound_of hv).nodes
  have h2 : decide (((toL T D n T.nodes.toNat).length : Int) = T.nodes) = true := decide_eq_true (by rw [toL_len]; omega)
  have h3 : leaveB T n (downL D (outL T n)) = true := leave_out T n _
  have h4 : entsOK T n (toL T D n T.nodes.toNat) = true := entsOK_all fun d e he => by
    unfold toL at he
    rw [List.getElem?_map, Option.map_eq_some_iff] at he
    obtain ⟨d', hd', rfl⟩ := he
    have hd : d' = d := by
      have := List.getElem?_eq_some_iff.1 hd'
      obtain ⟨h, h'⟩ := this
      simpa using h'.symm
    subst hd
    unfold entOK
    simp only [leave_next, Bool.true_and]
    by_cases hdn : d' = n
    · subst hdn; rw [next_self]; simp
    · rw [decide_eq_false (by omega)]; simp
  rw [hv, h1, h2, h3, h4]
  rfl
theorem dist_at {T : Topo} {D : List Bool} (hv : validB T = true) {d x : Nat} (hd : (d : Int) < T.nodes) (hx : (x : Int) < T.nodes) : (distL T D d false).getD x 0 = at' (distL T D d false) (x : Int) := by
  have hl := (distL_bound (D := D) hv (dir := false) hd).1
  unfold at'
  rw [Int.toNat_natCast, List.getD_eq_getElem?_getD, List.getD_eq_getElem?_getD, List.getElem?_eq_getElem (by omega)]
  rfl
/-- What is known of a next arc. -/
structure Nearer (T : Topo) (D : List Bool) (n d a : Nat) : Prop where
  arc : a < 2 * T.links.length
  tail : tailN T a = (n : Int)
  up : downN D a = false
  ne : n ≠ d
  reach : 0 ≤ (distL T D d false).getD (headN T a).toNat 0
  pass : headN T a = (d : Int) ∨ overN T (headN T a).toNat = false
  sum : (distL T D d false).getD n 0 = (distL T D d false).getD (headN T a).toNat 0 + costN T a
theorem next_mem {T : Topo} {D : List Bool} {n d : Nat} {a : Int} (h : a ∈ nextL T D n d) : ∃ k : Nat, a = k ∧ Nearer T D n d k := by
  unfold nextL at h
  split at h
  · simp at h
  · rename_i hne
    obtain ⟨h1, h2⟩ := List.mem_filter.1 h
    obtain ⟨h3, h4⟩ := outL_iff.1 h1
    obtain ⟨h5, h6⟩ := arcB_iff.1 h3
    obtain ⟨k, rfl⟩ := Int.eq_ofNat_of_zero_le h5
    rw [Int.toNat_natCast] at h2 h4
    unfold passB at h2
    simp only [Bool.and_eq_true, Bool.not_eq_true', Bool.or_eq_false_iff, decide_eq_true_eq, decide_eq_false_iff_not] at h2
    obtain ⟨⟨⟨g1, g2⟩, g3⟩, g4⟩ := h2
    refine ⟨k, rfl, by omega, h4, g1, fun e => hne (.inl e), by omega, ?_, by omega⟩
    rcases Bool.and_eq_false_iff.1 g3 with g | g
    · exact .inl (Classical.byContradiction (ff g))
    · exact .inr g
theorem next_of {T : Topo} {D : List Bool} {n d k : Nat} (h : Nearer T D n d k) (hc : 1 ≤ costN T k) : (k : Int) ∈ nextL T D n d := by
  have hs := h.sum
  have hr := h.reach
  unfold nextL
  rw [if_neg (by rintro (e | e); exact h.ne e; omega)]
  refine List.mem_filter.2 ⟨outL_iff.2 ⟨arcB_iff.2 ⟨by omega, by have := h.arc; omega⟩, h.tail⟩, ?_⟩
  unfold passB
  rw [Int.toNat_natCast]
  simp only [Bool.and_eq_true, Bool.not_eq_true', Bool.or_eq_false_iff, decide_eq_true_eq, decide_eq_false_iff_not]
  refine ⟨⟨⟨h.up, by omega⟩, ?_⟩, by omega⟩
  rcases h.pass with g | g
  · rw [decide_eq_false (by simpa using g)]; rfl
  · rw [g, Bool.and_false]
theorem next_ex {T : Topo} {D : List Bool} (hv : validB T = true) {n d : Nat} (hn : (n : Int) < T.nodes) (hd : (d : Int) < T.nodes) (hne : n ≠ d) (h0 : 0 ≤ (distL T D d false).getD n 0) : ∃ k, Nearer T D n d k := by
  have hS := sound_of hv
  have hI := distL_is hS D false hd
  have e1 := dist_at (D := D) hv hd hn
  rcases hI.supp n hn (by rw [← e1]; exact h0) with h | ⟨a, ha, hx, ⟨w1, w2, w3⟩, hs⟩
  · exact absurd h hne
  · have hh := hS.head a ha
    obtain ⟨y, hy⟩ := Int.eq_ofNat_of_zero_le hh.1
    have e2 := dist_at (D := D) hv hd (x := y) (by omega)
    simp only [arcX, arcY, Bool.false_eq_true, if_false] at hx w2 w3 hs
    rw [hy] at w2 w3 hs
    refine ⟨a, ha, hx, w1, hne, ?_, ?_, ?_⟩
    · rw [hy, Int.toNat_natCast, e2]; exact w2
    · rw [hy]; exact w3
    · rw [hy, Int.toNat_natCast, e1, e2]; exact hs
theorem dist_self {T : Topo} {D : List Bool} (hv : validB T = true) {d : Nat} (hd : (d : Int) < T.nodes) : (distL T D d false).getD d 0 = 0 := by
  rw [dist_at hv hd hd]
  exact (distL_is (sound_of hv) D false hd).root
theorem next_pos {T : Topo} {D : List Bool} (hv : validB T = true) {n d : Nat} (hn : (n : Int) < T.nodes) (hd : (d : Int) < T.nodes) : decide (0 < ((nextL T D n d).length : Int)) = decide (0 < (distL T D d false).getD n 0) := by
  refine decide_eq_decide.2 ⟨fun h => ?_, fun h => ?_⟩
  · obtain ⟨a, l, hl⟩ : ∃ a l, nextL T D n d = a :: l := by
      cases hx : nextL T D n d with
      | nil => rw [hx] at h; simp at h
      | cons a l => exact ⟨a, l, rfl⟩
    obtain ⟨k, _, hk⟩ := next_mem (T := T) (D := D) (n := n) (d := d) (a := a) (by rw [hl]; simp)
    have := hk.sum
    have := hk.reach
    have := ((sound_of hv).cost k hk.arc).1
    omega
  · have hne : n ≠ d := fun e => by subst e; rw [dist_self hv hd] at h; omega
    obtain ⟨k, hk⟩ := next_ex (D := D) hv hn hd hne (by omega)
    have := next_of hk ((sound_of hv).cost k hk.arc).1
    have := List.length_pos_of_mem this
    omega
end PW
end Go.Proofs.Ytkgepjiebihodaa
