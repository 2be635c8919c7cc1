/- Texts of the proof, part 11. -/
import Derived.WideShapes
import Derived.Test.YtkgepjiebihodaaCardSPB10
/- Stable segments: Segment of both, the reference's stands, List, Least. -/
namespace Go.Proofs.Ytkgepjiebihodaa
set_option linter.unusedVariables false
set_option linter.unusedSimpArgs false
namespace PW
open Go.RowKit Reg Mem Net

noncomputable def sgB (T : Topo) (D : List Bool) (x y : Int) : Bool := (((validB T && fitsB T D) && !decide (x = y)) && uniqB T [] x y) && clearB D (spathL T [] x.toNat y.toNat)
theorem uniq_sp {T : Topo} {D : List Bool} {x y : Int} (h : uniqB T D x y = true) : spE T D x y = 0 := by
  unfold uniqB at h
  rw [Bool.and_eq_true, decide_eq_true_eq, decide_eq_true_eq] at h
  obtain ⟨h1, h2⟩ := h
  obtain ⟨hv, hf, hn, hd⟩ := nodeE_zero h1
  rw [nodeB_iff] at hn hd
  obtain ⟨a, rfl⟩ := Int.eq_ofNat_of_zero_le hn.1
  obtain ⟨b, rfl⟩ := Int.eq_ofNat_of_zero_le hd.1
  simp only [Int.toNat_natCast] at h2
  unfold spE
  rw [if_pos h1, if_neg]
  simp only [Int.toNat_natCast]
  intro h0
  rw [cnt_unr hv hd.2 hn.2 h0] at h2
  omega
set_option maxRecDepth 10000 in
set_option maxHeartbeats 1000000 in
theorem sseg_can (T : Topo) (D : List Bool) (x y : Int) (h12 : T.nodes ≤ 12) (hlk : T.links.length ≤ 256) : Can Try.prog 19 [topoV T, boolsV D, num x, num y] (· = flag (sgB T D x y)) := by
  obtain ⟨q1, hq1⟩ : ∃ q, validB T = q := ⟨_, rfl⟩
  obtain ⟨q2, hq2⟩ : ∃ q, fitsB T D = q := ⟨_, rfl⟩
  obtain ⟨q3, hq3⟩ : ∃ q, decide (x = y) = q := ⟨_, rfl⟩
  obtain ⟨q4, hq4⟩ : ∃ q, uniqB T [] x y = q := ⟨_, rfl⟩
  have hS : sgB T D x y = ((((q1 && q2) && !q3) && q4) && clearB D (spathL T [] x.toNat y.toNat)) := by unfold sgB; rw [hq1, hq2, hq3, hq4]
  rw [hS]
  refine can_of Try.func19 rfl Try.ntmps19 rfl ?_
  refine W_cs (.a 2 rfl <| .k [1, 2, 3, 4] rfl) ?_
  refine W_seq ?_
  refine W_csK 31 (.raw (.bool ((((!q1) || !q2) || q3) || !q4))) [1, 2, 3, 4] rfl ?_ ?_
  · refine .a 1 rfl <| .c rfl (hq1 ▸ valid_can T) rfl <| .a 2 rfl <| ?_
    cases q1
    · exact .a 17 rfl <| .k [31, 1, 2, 3, 4] rfl
    · refine .a 2 rfl <| .c rfl (hq2 ▸ fits_can T D (by omega)) rfl <| .a 3 rfl <| ?_
      cases q2
      · exact .a 11 rfl <| .k [31, 1, 2, 3, 4] rfl
      · refine .a 2 rfl <| .v (y_q rfl (hq3)) rfl <| .a 2 rfl <| ?_
        cases q3
        · exact .a 3 rfl <| .v (y_cP rfl (PurL.cons Pur.pure <| PurL.cons Pur.nils <| PurL.cons Pur.pure <| PurL.cons Pur.pure PurL.nil) (hq4 ▸ unique_can T [] x y h12)) rfl <| .a 2 rfl <| .k [31, 1, 2, 3, 4] rfl
        · exact .a 6 rfl <| .k [31, 1, 2, 3, 4] rfl
  refine W_cond rfl (fun hc => ?_) (fun hc => ?_)
  · skip
    refine W_cs (.a 1 rfl <| .k [8] rfl) ?_
    refine W_ret ?_
    exact ⟨_, _, ResL.of rfl, Pur.pure, by cases q1 <;> cases q2 <;> cases q3 <;> cases q4 <;> first | rfl | cases hc⟩
  · have h4 : q1 = true ∧ q2 = true ∧ q3 = false ∧ q4 = true := by cases q1 <;> cases q2 <;> cases q3 <;> cases q4 <;> first | exact ⟨rfl, rfl, rfl, rfl⟩ | cases hc
    obtain ⟨rfl, rfl, rfl, rfl⟩ := h4
    have hsp := spath_can T [] x y
    have hs0 := uniq_sp hq4
    rw [hs0] at hsp
    obtain ⟨xa, yb, hxa, hyb, hxN, hyN, _, hpath⟩ := spE_facts hs0
    have hlt := hpath.len_lt hq1 hyN
    have hu := up_can T D (spathL T [] x.toNat y.toNat) hq2 hpath.ch.arcs (by omega)
    refine W_skip ?_
    refine W_cs (.a 3 rfl <| .v (y_cP rfl (PurL.cons Pur.pure <| PurL.cons Pur.nils <| PurL.cons Pur.pure <| PurL.cons Pur.pure PurL.nil) (hsp)) rfl <| .a 5 rfl <| .k [1, 9] rfl) ?_
    refine W_cs (.a 2 rfl <| .c rfl (hu) rfl <| .a 1 rfl <| .k [8] rfl) ?_
    refine W_ret ?_
    exact ⟨_, _, ResL.of rfl, Pur.pure, rfl⟩
set_option maxRecDepth 10000 in
set_option maxHeartbeats 1000000 in
theorem rsseg_can (T : Topo) (D : List Bool) (x y : Int) (h12 : T.nodes ≤ 12) : Can Try.prog 20 [topoV T, boolsV D, num x, num y] (· = flag (sgB T D x y)) := by
  obtain ⟨q1, hq1⟩ : ∃ q, (validB T && fitsB T D) = q := ⟨_, rfl⟩
  obtain ⟨q3, hq3⟩ : ∃ q, decide (x = y) = q := ⟨_, rfl⟩
  obtain ⟨q4, hq4⟩ : ∃ q, uniqB T [] x y = q := ⟨_, rfl⟩
  have hS : sgB T D x y = (((q1 && !q3) && q4) && clearB D (spathL T [] x.toNat y.toNat)) := by unfold sgB; rw [hq1, hq3, hq4]
  rw [hS]
  refine can_of Try.func20 rfl Try.ntmps20 rfl ?_
  refine W_cs (.a 2 rfl <| .k [1, 2, 3, 4] rfl) ?_
  refine W_seq ?_
  refine W_csK 26 (.raw (.bool (((!q1) || q3) || !q4))) [1, 2, 3, 4] rfl ?_ ?_
  · refine .a 2 rfl <| .c rfl (hq1 ▸ rfits_can T D) rfl <| .a 2 rfl <| ?_
    cases q1
    · exact .a 11 rfl <| .k [26, 1, 2, 3, 4] rfl
    · refine .a 2 rfl <| .v (y_q rfl (hq3)) rfl <| .a 2 rfl <| ?_
      cases q3
      · exact .a 3 rfl <| .v (y_cP rfl (PurL.cons Pur.pure <| PurL.cons Pur.nils <| PurL.cons Pur.pure <| PurL.cons Pur.pure PurL.nil) (hq4 ▸ runique_can T [] x y h12)) rfl <| .a 2 rfl <| .k [26, 1, 2, 3, 4] rfl
      · exact .a 6 rfl <| .k [26, 1, 2, 3, 4] rfl
  refine W_cond rfl (fun hc => ?_) (fun hc => ?_)
  · skip
    refine W_cs (.a 1 rfl <| .k [8] rfl) ?_
    refine W_ret ?_
    exact ⟨_, _, ResL.of rfl, Pur.pure, by cases q1 <;> cases q3 <;> cases q4 <;> first | rfl | cases hc⟩
  · have h4 : q1 = true ∧ q3 = false ∧ q4 = true := by cases q1 <;> cases q3 <;> cases q4 <;> first | exact ⟨rfl, rfl, rfl⟩ | cases hc
    obtain ⟨rfl, rfl, rfl⟩ := h4
    obtain ⟨hv, hf⟩ := Bool.and_eq_true_iff.1 hq1
    have hsp := rspath_can T [] x y
    have hs0 := uniq_sp hq4
    rw [hs0] at hsp
    obtain ⟨xa, yb, hxa, hyb, hxN, hyN, _, hpath⟩ := spE_facts hs0
    have hlt := hpath.len_lt hv hyN
    have hu := rclear_can T D (spathL T [] x.toNat y.toNat) hf hpath.ch.arcs (by omega)
    obtain ⟨p1, hp1⟩ : ∃ q, decide ((0 : Int) = 0) = q := ⟨_, rfl⟩
    have hpt : p1 = true := by rw [← hp1]; rfl
    obtain ⟨p2, hp2⟩ : ∃ q, clearB D (spathL T [] x.toNat y.toNat) = q := ⟨_, rfl⟩
    rw [hp2] at hu ⊢
    refine W_skip ?_
    refine W_cs (.a 3 rfl <| .v (y_cP rfl (PurL.cons Pur.pure <| PurL.cons Pur.nils <| PurL.cons Pur.pure <| PurL.cons Pur.pure PurL.nil) (hsp)) rfl <| .a 5 rfl <| .k [1, 9, 10] rfl) ?_
    refine W_csK 8 (.raw (.bool (p1 && p2))) [] rfl ?_ ?_
    · refine .a 1 rfl <| .v (y_q rfl (hp1)) rfl <| .a 1 rfl <| ?_
      cases p1
      · exact .a 5 rfl <| .k [8] rfl
      · exact .a 2 rfl <| .c rfl (hu) rfl <| .a 2 rfl <| .k [8] rfl
    refine W_ret ?_
    exact ⟨_, _, ResL.of rfl, Pur.pure, by rw [hpt]; rfl⟩
section
variable {T : Topo} {D : List Bool} {n : Int} {p : List Int}
theorem stands_cov (h : Fol T D n p) {i k x y : Nat} (hik : i < k) (hk : k ≤ p.length) (hx : endL T n (p.take i) = (x : Int)) (hy : endL T n (p.take k) = (y : Int)) : (sgB T D x y && sameB (spathL T [] x y) (partL p i k)) = covB T [] n p i k := by
  have hb := h.bare
  have ha := h.arcs
  have hv := h.valid
  obtain ⟨x', hx', hxN⟩ := end_node hv h.node ha i (by omega)
  obtain ⟨y', hy', hyN⟩ := end_node hv h.node ha k hk
  have e1 : x' = x := by omega
  have e2 : y' = y := by omega
  subst e1
  subst e2
  rw [Bool.eq_iff_iff, cov_sp hb (by omega) hk hx hy]
  unfold sgB sameB
  simp only [Int.toNat_natCast, Bool.and_eq_true, Bool.not_eq_true', decide_eq_true_eq, decide_eq_false_iff_not]
  constructor
  · rintro ⟨⟨⟨_, h3⟩, h4⟩, h5⟩
    exact ⟨uniq_sp h3, h3, h5⟩
  · rintro ⟨h1, h2, h3⟩
    refine ⟨⟨⟨⟨⟨hv, h.fits⟩, fun e => ?_⟩, h2⟩, ?_⟩, h3⟩
    · have e2 : x' = y' := by omega
      subst e2
      rw [spE_zero hv (fits_nil T) hxN hxN] at h1
      have hsp := spath_sp (D := []) hv hxN hxN (by split at h1 <;> omega)
      have h6 := hsp.self
      rw [h6] at h3
      have := part_len p (show i ≤ k by omega) hk
      rw [← h3] at this
      simp at this
      omega
    · rw [h3, clear_iff]
      exact fun a ha => h.up a (part_mem ha)
end
set_option maxRecDepth 10000 in
set_option maxHeartbeats 1000000 in
theorem stands_can (T : Topo) (D : List Bool) (n : Int) (p : List Int) (h : Fol T D n p) (h12 : T.nodes ≤ 12) (hp : p.length ≤ 1000) {i k : Nat} (hik : i < k) (hk : k ≤ p.length) : Can Try.prog 32 [topoV T, boolsV D, intsV (partL p i k)] (· = flag (covB T [] n p i k)) := by
  have ha := h.arcs
  have hv := h.valid
  obtain ⟨x, hx, hxN⟩ := end_node hv h.node ha i (by omega)
  obtain ⟨y, hy, hyN⟩ := end_node hv h.node ha k hk
  rw [← stands_cov h hik hk hx hy]
  have hpl := part_len p (show i ≤ k by omega) hk
  obtain ⟨q, hq⟩ : ∃ q, partL p i k = q := ⟨_, rfl⟩
  have htl := part_tail h (show i < p.length by omega) hx
  have hed := endL_step T n p (k - 1) (by omega)
  rw [show k - 1 + 1 = k by omega, hy] at hed
  have h1 : q.getD 0 0 = p.getD i 0 := by rw [← hq, part_first p hik hk]
  have h2 : q.getD (q.length - 1) 0 = p.getD (k - 1) 0 := by rw [← hq, hpl, part_get p (by omega)]; congr 1; omega
  have hqa : ∀ a ∈ q, arcB T a = true := fun a h => ha a (part_mem (by rw [hq]; exact h))
  rw [hq] at hpl ⊢
  have ht := rtailI_can T hv _ (hqa _ (getD_mem (d := 0) (show 0 < q.length by omega)))
  have hh := rheadI_can T hv _ (hqa _ (getD_mem (d := 0) (show q.length - 1 < q.length by omega)))
  rw [h1, htl] at ht
  rw [h2, ← hed] at hh
  obtain ⟨s, hs⟩ : ∃ s, sgB T D x y = s := ⟨_, rfl⟩
  rw [hs]
  refine can_of Try.func32 rfl Try.ntmps32 rfl ?_
  refine W_cs (.a 2 rfl <| .k [1, 2, 3] rfl) ?_
  refine W_drs mixed (by kernel_rfl) (.a 2 rfl <| .v [12] (y_ix (0) rfl) rfl rfl <| .v [13] (y_ld rfl ((ints_get q 0 (by omega)).trans (by rw [h1]))) rfl rfl <| .v [11, 14] (y_c rfl (ht)) rfl rfl <| .a 4 rfl <| .v [19] (y_ar rfl) rfl rfl <| .v [17, 20] (y_ix ((q.length - 1)) rfl) rfl rfl <| .v [21] (y_ld rfl ((ints_get q (q.length - 1) (by omega)).trans (by rw [h2]))) rfl rfl <| .v [16, 22] (y_c rfl (hh)) rfl rfl <| .a 2 rfl <| .k [1, 2, 3, 7, 8] rfl) ?_
  refine W_seq ?_
  refine W_cs (.a 4 rfl <| .c rfl (hs ▸ rsseg_can T D x y h12) rfl <| .a 1 rfl <| .k [2, 3, 7, 8, 29] rfl) ?_
  refine W_cond rfl (fun hc => ?_) (fun hc => ?_)
  · have h3 : s = false := by simpa using hc
    subst h3
    refine W_cs (.a 1 rfl <| .k [6] rfl) ?_
    refine W_ret ?_
    exact ⟨_, _, ResL.of rfl, Pur.pure, rfl⟩
  · have h3 : s = true := by simpa using hc
    subst h3
    have hu : uniqB T [] x y = true := by
      unfold sgB at hs
      simp only [Bool.and_eq_true] at hs
      exact hs.1.2
    have hsp := rspath_can T [] (x : Int) (y : Int)
    rw [uniq_sp hu] at hsp
    simp only [Int.toNat_natCast] at hsp
    refine W_skip ?_
    refine W_cs (.a 3 rfl <| .v (y_cP rfl (PurL.cons Pur.pure <| PurL.cons Pur.nils <| PurL.cons Pur.pure <| PurL.cons Pur.pure PurL.nil) (hsp)) rfl <| .a 5 rfl <| .k [2, 9] rfl) ?_
    refine W_cs (.a 2 rfl <| .c rfl (rsame_can (spathL T [] x y) q) rfl <| .a 1 rfl <| .k [6] rfl) ?_
    refine W_ret ?_
    exact ⟨_, _, ResL.of rfl, Pur.pure, rfl⟩
section
variable {P : Program} {σ : Sto} {t : Tms} {o : Oper}
theorem y_pHi {ty e i j : Nat} {z : Int} {x hi' : Operand} {L : List Int} (ho : o.op = .slice ty x none (some hi') none) (he : elK P ty = some (e, 1)) (hx : evalO t x = some (intsV (L.drop i))) (hhi : evalO t hi' = some (num z)) (hz : z = (j : Int) - i) (hij : i ≤ j) (hj : j ≤ L.length) : Yield P σ t o (intsV (partL L i j)) := by
  have hl : (L.drop i).length = L.length - i := by simp
  have := y_sliceHi (σ := σ) (h := j - i) ho he hx hhi (by rw [intsP_len]; omega) (by omega) (by omega)
  have e1 : intsV (partL L i j) = .slice (j - i) ((intsP (L.drop i)).take ((j - i) * 1)) := by
    unfold intsV
    rw [part_len L hij hj, Nat.mul_one]
    unfold intsP partL
    rw [List.map_take]
  rw [e1]
  exact this
theorem y_pLo {ty e i j : Nat} {z : Int} {x lo : Operand} {L : List Int} (ho : o.op = .slice ty x (some lo) none none) (he : elK P ty = some (e, 1)) (hx : evalO t x = some (intsV (L.drop i))) (hlo : evalO t lo = some (num z)) (hz : z = (j : Int) - i) (hij : i ≤ j) (hj : j ≤ L.length) : Yield P σ t o (intsV (L.drop j)) := by
  have hl : (L.drop i).length = L.length - i := by simp
  have := y_sliceLo (σ := σ) (l := j - i) ho he hx hlo (by rw [intsP_len]; omega) (by omega) (by omega)
  have e1 : intsV (L.drop j) = .slice ((L.drop i).length - (j - i)) (((intsP (L.drop i)).drop ((j - i) * 1)).take (((L.drop i).length - (j - i)) * 1)) := by
    have h2 : L.drop j = (L.drop i).drop (j - i) := by rw [List.drop_drop]; congr 1; omega
    rw [h2]
    unfold intsV
    rw [List.length_drop, Nat.mul_one, Nat.mul_one]
    unfold intsP
    rw [← List.map_drop, List.take_of_length_le (by simp; omega)]
  rw [e1]
  exact this
end
theorem drop_get (p : List Int) (i k : Nat) : (p.drop i).getD k 0 = p.getD (i + k) 0 := by rw [List.getD_eq_getElem?_getD, List.getElem?_drop, List.getD_eq_getElem?_getD]
set_option maxRecDepth 10000 in
set_option maxHeartbeats 2000000 in
theorem rslist_can (T : Topo) (D : List Bool) (p : List Int) (n : Int) (hp : p.length ≤ 1000) (h12 : T.nodes ≤ 12) : Can Try.prog 13 [topoV T, boolsV D, intsV p, num n] (· = segsE (folE T D n p) (lstL T [] n p)) := by
  refine can_of Try.func13 rfl Try.ntmps13 rfl ?_
  refine W_cs (.a 3 rfl <| .k [1, 2, 3, 4] rfl) ?_
  refine W_cs (.a 4 rfl <| .c rfl (rscheck_can T D p n hp) rfl <| .a 1 rfl <| .k [1, 2, 4, 10] rfl) ?_
  refine W_seq ?_
  refine W_cs (.a 2 rfl <| .k [1, 2, 4, 10, 21] rfl) ?_
  refine W_cond rfl (fun hc => ?_) (fun hc => ?_)
  · have he : folE T D n p ≠ 0 := tt hc
    refine W_cs (.a 3 rfl <| .k [8, 9] rfl) ?_
    refine W_ret ?_
    exact ⟨_, _, ResL.of rfl, Pur.tupleL (PurL.cons Pur.nils (PurL.cons Pur.pure PurL.nil)), by unfold segsE; rw [if_neg he]; rfl⟩
  · have he : folE T D n p = 0 := Classical.byContradiction (ff hc)
    have hF := fol_of he
    have hv := hF.valid
    have ha := hF.arcs
    rw [he]
    clear hc
    refine W_skip ?_
    refine W_cs (.a 1 rfl <| .k [1, 2, 4, 11] rfl) ?_
    refine W_adopt 11 56 2 rfl ?_
    refine W_seq ?_
    refine W_block ?_
    refine W_k [1, 2, 4, 11] rfl ?_
    refine W_loop (fun r st => ∃ (l : List Seg) (i f : Nat), i ≤ p.length ∧ p.length - i ≤ f ∧ l.length ≤ i ∧ r = p.length - i ∧ lstL T [] n p = l ++ lstF T [] n p f i ∧ st = ⟨[(1, boolsV D), (2, intsV (p.drop i)), (4, .pin (topoP T) 0), (11, .own 0)], [srow l]⟩) p.length ⟨[], 0, p.length, by omega, by omega, by simp, by omega, rfl, rfl⟩ ?_
    rintro r st ⟨l, i, f, hi, hif, hli, rfl, hl, rfl⟩
    have hdl : (p.drop i).length = p.length - i := by simp
    refine W_seq ?_
    refine W_cs (.a 3 rfl <| .k [1, 2, 4, 11, 25] rfl) ?_
    refine W_cond rfl (fun h1 => ?_) (fun h1 => ?_)
    · have hlt : i < p.length := by have := tt h1; omega
      obtain ⟨hn1, hn2⟩ := best_next (T := T) (D := []) (n := n) i hlt
      refine W_skip ?_
      refine W_block ?_
      refine W_rs ?_
      refine WR_a 1 rfl <| WR_v (y_ix (0) rfl) rfl <| WR_v (y_ld rfl ((ints_get (p.drop i) 0 (by omega)).trans (by rw [drop_get, Nat.add_zero]))) rfl <| WR_a 4 rfl <| WR_k [1, 2, 4, 11, 12, 13] rfl ?_
      refine W_seq ?_
      refine W_cs (.a 1 rfl <| .k [1, 2, 4, 11, 12, 13, 14] rfl) ?_
      refine W_block ?_
      refine W_k [1, 2, 4, 11, 12, 13, 14] rfl ?_
      refine W_loop (fun r st => ∃ m : Nat, i ≤ m ∧ m ≤ p.length ∧ r = p.length - m ∧ st = ⟨[(1, boolsV D), (2, intsV (p.drop i)), (4, .pin (topoP T) 0), (11, .own 0), (12, .ptr 1 0), (13, num (((bestS T [] n p i m).2 : Int) - i)), (14, num ((m : Int) + 1 - i))], [srow l, some (.cells 56 (segP (bestS T [] n p i m).1))]⟩) (p.length - i) ⟨i, by omega, by omega, rfl, by simp only [best_start]; rw [show (((i + 1 : Nat) : Int) - (i : Int)) = 1 by omega, show (i : Int) + 1 - i = 1 by omega]; rfl⟩ ?_
      rintro r st ⟨m, him, hm, rfl, rfl⟩
      refine W_seq ?_
      refine W_cs (.a 4 rfl <| .k [1, 2, 4, 11, 12, 13, 14, 33] rfl) ?_
      refine W_cond rfl (fun h2 => ?_) (fun h2 => ?_)
      · have hlt2 : m + 1 ≤ p.length := by have := tt h2; omega
        have hed := endL_step T n p m (by omega)
        have hco := stands_can T D n p hF h12 hp (i := i) (k := m + 1) (by omega) hlt2
        have hhd := rheadI_can T hv (p.getD m 0) (ha _ (getD_mem (by omega)))
        rw [← hed] at hhd
        have hgd : (p.drop i).getD (m - i) 0 = p.getD m 0 := by rw [drop_get]; congr 1; omega
        refine W_skip ?_
        refine W_seq ?_
        refine W_block ?_
        refine W_drs mixed (by kernel_rfl) (.a 4 rfl <| .v [38, 39] (y_pHi (j := m + 1) rfl (fok.el.get rfl) rfl rfl (by omega) (by omega) hlt2) rfl rfl <| .v [36, 37, 40] (y_c rfl (hco)) rfl rfl <| .k [1, 2, 4, 11, 12, 13, 14, 41] rfl) ?_
        refine W_cond rfl (fun h3 => ?_) (fun h3 => ?_)
        · have hb := best_yes him h3
          refine W_drawFlt 9 8 mixed (
            .val [4] rfl (y_a rfl) rfl rfl <|
            .val [2] rfl (y_a rfl) rfl rfl <|
            .val [14] rfl (y_a rfl) rfl rfl <|
            .val [44] rfl (y_ar rfl (hc := (show (m : Int) + 1 - i - 1 = ((m - i : Nat) : Int) by omega))) rfl rfl <|
            .val [43, 45] rfl (y_ix ((m - i)) rfl) rfl rfl <|
            .val [46] rfl (y_ld rfl ((ints_get (p.drop i) (m - i) (by omega)).trans (by rw [hgd]))) rfl rfl <|
            .val [42, 47] rfl (y_c rfl (hhd)) rfl rfl <|
            .val [48] rfl (y_a rfl) rfl rfl <|
            .late [14] rfl (r_move rfl rfl) inferInstance rfl rfl <|
            .nil) (by kernel_rfl) rfl rfl (keepT_sub (ks := [1, 2, 4, 11, 12, 14, 49, 50]) rfl) ?_
          refine WR_a 2 rfl <| WR_k [1, 2, 4, 11, 12, 13, 14] rfl ?_
          refine W_chain (.a 1 rfl <| .v (y_ar rfl) rfl <| .a 1 rfl <| .k [1, 2, 4, 11, 12, 13, 14] rfl) ?_
          refine ⟨p.length - (m + 1), by omega, m + 1, by omega, hlt2, rfl, ?_⟩
          rw [hb, show ((m + 1 : Nat) : Int) + 1 - i = (m : Int) + 1 - i + 1 by omega]
          all_goals first
            | rfl
            | (simp only; rw [show ((m + 1 : Nat) : Int) - i = (m : Int) + 1 - i by omega])
        · have hb := best_no him h3
          refine W_skip ?_
          refine W_chain (.a 1 rfl <| .v (y_ar rfl) rfl <| .a 1 rfl <| .k [1, 2, 4, 11, 12, 13, 14] rfl) ?_
          refine ⟨p.length - (m + 1), by omega, m + 1, by omega, hlt2, rfl, ?_⟩
          rw [hb, show ((m + 1 : Nat) : Int) + 1 - i = (m : Int) + 1 - i + 1 by omega]
          all_goals first
            | rfl
            | (simp only; rw [show ((m + 1 : Nat) : Int) - i = (m : Int) + 1 - i by omega])
      · have hme : m = p.length := by have := ff h2; omega
        subst hme
        refine W_exit ?_
        refine W_rs ?_
        refine WR_a 3 rfl <| WR_l (l_append rfl (fok.rk.get rfl) rfl rfl rfl rfl (by unfold maxLen; omega)) rfl <| WR_a 1 rfl ?_
        refine WR_ren [2] (.c 1 <| .c 2 <| .c 4 <| .c 11 <| .c 13 <| .nil) (.kept rfl (.rowP rfl (segsP_snoc _ (bestS T [] n p i p.length).1)) <| .nil) rfl rfl (WR_nil ?_)
        refine W_chain (.a 2 rfl <| .v (y_pLo (j := (bestS T [] n p i p.length).2) rfl (fok.el.get rfl) rfl rfl rfl (by omega) hn2) rfl <| .a 1 rfl <| .k [1, 2, 4, 11] rfl) ?_
        cases f with
        | zero => omega
        | succ f =>
          refine ⟨p.length - (bestS T [] n p i p.length).2, by omega, l ++ [(bestS T [] n p i p.length).1], (bestS T [] n p i p.length).2, f, hn2, by omega, by simp; omega, rfl, ?_, ?_⟩
          · rw [hl, best_end hlt, List.append_assoc]; rfl
          · unfold srow; simp only [List.length_append, List.length_singleton]
    · have hie : i = p.length := by have := ff h1; omega
      rw [lst_end f i (by omega), List.append_nil] at hl
      refine W_exit ?_
      refine W_cs (.a 3 rfl <| .k [8, 9] rfl) ?_
      refine W_ret ?_
      exact ⟨_, _, ResL.of rfl, Pur.tupleL (PurL.cons (Pur.ownL rfl PurL.pure) (PurL.cons Pur.pure PurL.nil)), by unfold segsE; rw [if_pos rfl, hl]; rfl⟩
set_option maxRecDepth 10000 in
set_option maxHeartbeats 2000000 in
theorem rsleast_can (T : Topo) (D : List Bool) (p : List Int) (n : Int) (hF : Fol T D n p) (hp : p.length ≤ 1000) (h12 : T.nodes ≤ 12) : Can Try.prog 15 [topoV T, boolsV D, intsV p] (· = num (gN T [] n p 0)) := by
  have hB := hF.bare
  have hgl : ∀ i, gN T [] n p i ≤ p.length := fun i => by
    have h1 := gN_mono hB p.length 0 i (by omega) (by omega)
    have := lst_len (T := T) (D := []) (n := n) (p := p) (p.length - 0) 0
    unfold gN at h1 ⊢
    omega
  refine can_of Try.func15 rfl Try.ntmps15 rfl ?_
  refine W_cs (.a 2 rfl <| .k [1, 2, 3] rfl) ?_
  refine W_rs ?_
  refine WR_a 2 rfl <| WR_v (y_ar rfl) rfl <| WR_l (l_make rfl (fok.rk.get rfl) rfl rfl (show (p.length : Int) + 1 = ((p.length + 1 : Nat) : Int) by omega) (show (p.length : Int) + 1 = ((p.length + 1 : Nat) : Int) by omega) ⟨by unfold maxLen; omega, by omega⟩) rfl <| WR_a 1 rfl <| WR_k [1, 2, 3, 7] rfl ?_
  refine W_sto (σ' := [irow (List.replicate (p.length + 1) 0)]) (by unfold irow; rw [List.length_replicate, ← zeros_ints]; rfl) ?_
  refine W_seq ?_
  refine W_cs (.a 2 rfl <| .v (y_ar rfl) rfl <| .a 1 rfl <| .k [1, 2, 3, 7, 8] rfl) ?_
  refine W_block ?_
  refine W_k [1, 2, 3, 7, 8] rfl ?_
  refine W_loop (fun r st => ∃ (ls : List Int) (m : Nat), m ≤ p.length ∧ ls.length = p.length + 1 ∧ (∀ k, m ≤ k → k ≤ p.length → ls.getD k 0 = gN T [] n p k) ∧ r = m ∧ st = ⟨[(1, boolsV D), (2, intsV p), (3, .pin (topoP T) 0), (7, .own 0), (8, num ((m : Int) - 1))], [irow ls]⟩) p.length ⟨List.replicate (p.length + 1) 0, p.length, by omega, by simp, fun k h1 h2 => by rw [gN_end h1, List.getD_eq_getElem?_getD, List.getElem?_replicate]; split <;> rfl, rfl, rfl⟩ ?_
  rintro r st ⟨ls, m, hm, hll, hval, rfl, rfl⟩
  refine W_seq ?_
  refine W_cs (.a 2 rfl <| .k [1, 2, 3, 7, 8, 18] rfl) ?_
  refine W_cond rfl (fun h1 => ?_) (fun h1 => ?_)
  · obtain ⟨i, rfl⟩ : ∃ i, r = i + 1 := ⟨r - 1, by have := tt h1; omega⟩
    have hi : i < p.length := by omega
    have hs1 := hval (i + 1) (Nat.le_refl _) (by omega)
    have hb1 := hgl (i + 1)
    rw [show ((i + 1 : Nat) : Int) - 1 = (i : Int) by omega]
    refine W_skip ?_
    refine W_seq ?_
    refine W_block ?_
    refine W_rs ?_
    refine WR_a 4 rfl <| WR_v (y_ar rfl) rfl <| WR_v (y_ix ((i + 1)) rfl) rfl <| WR_v (y_ld rfl ((ints_get ls (i + 1) (by omega)).trans (by rw [hs1]))) rfl <| WR_v (y_ar rfl) rfl <| WR_v (y_ix (i) rfl) rfl <| WR_loud0 ((by first | exact l_storeInts rfl (fok.tk.get rfl) rfl rfl rfl (by first | omega | (simp; omega)) | exact l_storeBools rfl (fok.tk.get rfl) rfl rfl rfl (by first | omega | (simp; omega)))) rfl rfl <| WR_k [1, 2, 3, 7, 8] rfl ?_
    refine W_cs (.a 1 rfl <| .v (y_ar rfl) rfl <| .a 1 rfl <| .k [1, 2, 3, 7, 8, 9] rfl) ?_
    refine W_block ?_
    refine W_k [1, 2, 3, 7, 8, 9] rfl ?_
    refine W_loop (fun r st => ∃ (m : Nat) (v : Nat), i ≤ m ∧ m ≤ p.length ∧ v ≤ p.length + 1 ∧ r = p.length - m ∧ gN T [] n p i ≤ v ∧ v ≤ 1 + gN T [] n p (i + 1) ∧ (∀ k, i < k → k ≤ m → covB T [] n p i k = true → v ≤ 1 + gN T [] n p k) ∧ st = ⟨[(1, boolsV D), (2, intsV p), (3, .pin (topoP T) 0), (7, .own 0), (8, num i), (9, num ((m + 1 : Nat) : Int))], [irow (ls.set i v)]⟩) (p.length - i) ⟨i, 1 + gN T [] n p (i + 1), by omega, by omega, by omega, rfl, gN_le hB hi (.inl rfl), Nat.le_refl _, fun k h2 h3 => by omega, ?_⟩ ?_
    · unfold irow
      simp only [List.length_set, Int.natCast_add]
      rfl
    rintro r st ⟨m, v, him, hm2, hvb, rfl, hv1, hv2, hv3, rfl⟩
    refine W_seq ?_
    refine W_cs (.a 4 rfl <| .k [1, 2, 3, 7, 8, 9, 35] rfl) ?_
    refine W_cond rfl (fun h2 => ?_) (fun h2 => ?_)
    · have hlt2 : m + 1 ≤ p.length := by have := tt h2; omega
      have hco := stands_can T D n p hF h12 hp (i := i) (k := m + 1) (by omega) hlt2
      have hsm := hval (m + 1) (by omega) hlt2
      have hbm := hgl (m + 1)
      have hg1 : (ls.set i (v : Int)).getD (m + 1) 0 = gN T [] n p (m + 1) := by rw [← hsm, List.getD_eq_getElem?_getD, List.getElem?_set, if_neg (by omega), ← List.getD_eq_getElem?_getD]
      have hg2 : (ls.set i (v : Int)).getD i 0 = v := by rw [List.getD_eq_getElem?_getD, List.getElem?_set, if_pos rfl, if_pos (by omega)]; rfl
      refine W_skip ?_
      refine W_seq ?_
      refine W_block ?_
      refine W_drs mixed (by kernel_rfl) (.a 5 rfl <| .v [40, 41, 42] (y_part rfl (fok.el.get rfl) rfl rfl rfl (by omega) hlt2) rfl rfl <| .v [38, 39, 43] (y_c rfl (hco)) rfl rfl <| .k [1, 2, 3, 7, 8, 9, 44] rfl) ?_
      refine W_cond rfl (fun h3 => ?_) (fun h3 => ?_)
      · have hle := gN_le hB hi (.inr ⟨by omega, hlt2, h3⟩)
        refine W_drawFlt 13 8 mixed (
          .val [7] rfl (y_a rfl) rfl rfl <|
          .val [8] rfl (y_a rfl) rfl rfl <|
          .val [7] rfl (y_a rfl) rfl rfl <|
          .val [8] rfl (y_a rfl) rfl rfl <|
          .val [47, 48] rfl (y_ix (i) rfl (by omega) (by simp only [List.length_set]; omega)) rfl rfl <|
          .val [49] rfl (y_ld rfl ((ints_get _ i (by simp only [List.length_set]; omega)).trans (by rw [hg2]))) rfl rfl <|
          .val [7] rfl (y_a rfl) rfl rfl <|
          .val [9] rfl (y_a rfl) rfl rfl <|
          .val [51, 52] rfl (y_ix ((m + 1)) rfl (by omega) (by simp only [List.length_set]; omega)) rfl rfl <|
          .val [53] rfl (y_ld rfl ((ints_get _ (m + 1) (by simp only [List.length_set]; omega)).trans (by rw [hg1]))) rfl rfl <|
          .val [54] rfl (y_ar rfl) rfl rfl <|
          .val [50, 55] rfl (y_min (c := ((min v (1 + gN T [] n p (m + 1)) : Nat) : Int)) rfl rfl rfl (by omega)) rfl rfl <|
          .val [45, 46] rfl (y_ix (i) rfl (by omega) (by simp only [List.length_set]; omega)) rfl rfl <|
          .nil) (by kernel_rfl) rfl rfl (keepT_sub (ks := [1, 2, 3, 7, 8, 9, 56, 57]) rfl) ?_
        refine WR_loud0 ((by first | exact l_storeInts rfl (fok.tk.get rfl) rfl rfl rfl (by first | omega | (simp; omega)) | exact l_storeBools rfl (fok.tk.get rfl) rfl rfl rfl (by first | omega | (simp; omega)))) rfl rfl <| WR_k [1, 2, 3, 7, 8, 9] rfl ?_
        refine W_chain (.a 1 rfl <| .v (y_ar rfl) rfl <| .a 1 rfl <| .k [1, 2, 3, 7, 8, 9] rfl) ?_
        first
          | (refine ⟨p.length - (m + 1), by omega, m + 1, min v (1 + gN T [] n p (m + 1)), by omega, hlt2, by omega, rfl, by omega, by omega, fun k h4 h5 h6 => ?_, ?_⟩
             · by_cases e : k = m + 1
               · subst e; omega
               · have := hv3 k h4 (by omega) h6; omega
             · unfold irow
               simp only [List.length_set, List.set_set]
               rfl)
          | (refine ⟨p.length - (m + 1), by omega, m + 1, v, by omega, hlt2, hvb, rfl, hv1, hv2, fun k h4 h5 h6 => ?_, rfl⟩
             by_cases e : k = m + 1
             · subst e; rw [h3] at h6; cases h6
             · exact hv3 k h4 (by omega) h6)
      · skip
        refine W_skip ?_
        refine W_chain (.a 1 rfl <| .v (y_ar rfl) rfl <| .a 1 rfl <| .k [1, 2, 3, 7, 8, 9] rfl) ?_
        first
          | (refine ⟨p.length - (m + 1), by omega, m + 1, min v (1 + gN T [] n p (m + 1)), by omega, hlt2, by omega, rfl, by omega, by omega, fun k h4 h5 h6 => ?_, ?_⟩
             · by_cases e : k = m + 1
               · subst e; omega
               · have := hv3 k h4 (by omega) h6; omega
             · unfold irow
               simp only [List.length_set, List.set_set]
               rfl)
          | (refine ⟨p.length - (m + 1), by omega, m + 1, v, by omega, hlt2, hvb, rfl, hv1, hv2, fun k h4 h5 h6 => ?_, rfl⟩
             by_cases e : k = m + 1
             · subst e; rw [h3] at h6; cases h6
             · exact hv3 k h4 (by omega) h6)
    · have hme : m = p.length := by have := ff h2; omega
      have hve : v = gN T [] n p i := by
        rcases gN_get (T := T) (D := []) (n := n) hi with h | ⟨k, h3, h4, h5, h6⟩
        · omega
        · have := hv3 k h3 (by omega) h5
          omega
      refine W_exit ?_
      refine W_chain (.a 1 rfl <| .v (y_ar rfl) rfl <| .a 1 rfl <| .k [1, 2, 3, 7, 8] rfl) ?_
      refine ⟨i, by omega, ls.set i v, i, by omega, by simpa using hll, fun k h4 h5 => ?_, rfl, rfl⟩
      rw [List.getD_eq_getElem?_getD, List.getElem?_set]
      by_cases e : i = k
      · subst e; rw [if_pos rfl, if_pos (by omega), hve]; rfl
      · rw [if_neg e, ← List.getD_eq_getElem?_getD]; exact hval k (by omega) h5
  · have hr0 : r = 0 := by have := ff h1; omega
    subst hr0
    have hs0 := hval 0 (by omega) (by omega)
    refine W_exit ?_
    refine W_cs (.a 1 rfl <| .v (y_ix (0) rfl) rfl <| .v (y_ld rfl ((ints_get ls 0 (by omega)).trans (by rw [hs0]))) rfl <| .a 1 rfl <| .k [6] rfl) ?_
    refine W_ret ?_
    exact ⟨_, _, ResL.of rfl, Pur.pure, rfl⟩
end PW
end Go.Proofs.Ytkgepjiebihodaa

/- Stable lists: the reference's part and Check, package stable's Check. -/
namespace Go.Proofs.Ytkgepjiebihodaa
set_option linter.unusedVariables false
set_option linter.unusedSimpArgs false
namespace PW
open Go.RowKit Reg Mem Net

/-- The first index from j on whose node is x and up to which the path from i is covered. -/
noncomputable def fstP (T : Topo) (n : Int) (p : List Int) (x : Int) (i : Nat) : Nat → Nat → Option Nat
  | 0, _ => none
  | f + 1, j => if endL T n (p.take j) = x ∧ covB T [] n p i j = true then some j else fstP T n p x i f (j + 1)
/-- Where a stable segment leads from i. -/
noncomputable def stepP (T : Topo) (n : Int) (p : List Int) (i : Nat) (s : Seg) : Option Nat :=
  if s.kind = 2 ∧ i < p.length ∧ p.getD i 0 = s.num then some (i + 1)
  else if s.kind = 1 then fstP T n p s.num i (p.length - i) (i + 1)
  else none
noncomputable def ckB (T : Topo) (n : Int) (p : List Int) : Nat → List Seg → Bool
  | i, [] => decide (i = p.length)
  | i, s :: l => match stepP T n p i s with
    | some j => ckB T n p j l
    | none => false
def lenP (o : Option Nat) (i : Nat) : Int := match o with
  | some j => (j : Int) - i
  | none => 0
/-- No node segment leads from a node to itself. -/
def noDeg (T : Topo) : Int → List Seg → Bool
  | _, [] => true
  | x, s :: l => if s.kind = 1 ∧ s.num = x then false else noDeg T (endS T s x).1 l
section
variable {T : Topo} {n : Int} {p : List Int}
theorem fstP_some {x : Int} {i : Nat} : ∀ (f j k : Nat), fstP T n p x i f j = some k → j ≤ k ∧ k < j + f ∧ endL T n (p.take k) = x ∧ covB T [] n p i k = true ∧ ∀ m, j ≤ m → m < k → ¬ (endL T n (p.take m) = x ∧ covB T [] n p i m = true)
  | 0, j, k, h => by simp [fstP] at h
  | f + 1, j, k, h => by
    simp only [fstP] at h
    split at h
    · rename_i h1; cases h; exact ⟨Nat.le_refl _, by omega, h1.1, h1.2, fun m h2 h3 => by omega⟩
    · rename_i h1
      obtain ⟨a, b, c, d, e⟩ := fstP_some f (j + 1) k h
      refine ⟨by omega, by omega, c, d, fun m h2 h3 => ?_⟩
      by_cases hm : m = j
      · subst hm; exact h1
      · exact e m (by omega) h3
theorem fstP_is {x : Int} {i : Nat} : ∀ (f j k : Nat), j ≤ k → k < j + f → endL T n (p.take k) = x → covB T [] n p i k = true → (∀ m, j ≤ m → m < k → ¬ (endL T n (p.take m) = x ∧ covB T [] n p i m = true)) → fstP T n p x i f j = some k
  | 0, j, k, h1, h2, _, _, _ => by omega
  | f + 1, j, k, h1, h2, h3, h4, h5 => by
    simp only [fstP]
    by_cases e : j = k
    · subst e; rw [if_pos ⟨h3, h4⟩]
    · rw [if_neg (h5 j (Nat.le_refl _) (by omega))]
      exact fstP_is f (j + 1) k (by omega) (by omega) h3 h4 (fun m h6 h7 => h5 m (by omega) h7)
theorem fstP_none {x : Int} {i : Nat} : ∀ (f j : Nat), (∀ m, j ≤ m → m < j + f → ¬ (endL T n (p.take m) = x ∧ covB T [] n p i m = true)) → fstP T n p x i f j = none
  | 0, j, _ => rfl
  | f + 1, j, h => by
    simp only [fstP]
    rw [if_neg (h j (Nat.le_refl _) (by omega))]
    exact fstP_none f (j + 1) (fun m h1 h2 => h m (by omega) (by omega))
/-- A stable step is a step that moves. -/
theorem step_iff (h : Fol T [] n p) {i : Nat} (hi : i ≤ p.length) (s : Seg) (j : Nat) : stepP T n p i s = some j ↔ stepX T [] n p i s = some j ∧ ¬ (s.kind = 1 ∧ s.num = endL T n (p.take i)) := by
  unfold stepP stepX
  by_cases h1 : s.kind = 2 ∧ i < p.length ∧ p.getD i 0 = s.num
  · rw [if_pos h1, if_pos h1]
    constructor
    · intro e; exact ⟨e, fun e2 => by omega⟩
    · intro e; exact e.1
  · rw [if_neg h1, if_neg h1]
    by_cases h2 : s.kind = 1
    · rw [if_pos h2, if_pos h2]
      constructor
      · intro e
        obtain ⟨a, b, c, d, _⟩ := fstP_some _ _ _ e
        have hf := cov_first h (show i ≤ j by omega) (by omega) d
        rw [c] at hf
        rw [hf, if_pos ⟨c, d⟩]
        refine ⟨rfl, fun e2 => ?_⟩
        have := fst_is (T := T) (n := n) (p := p) s.num (p.length - i) i i (Nat.le_refl _) (by omega) e2.2.symm (fun k h3 h4 => by omega)
        omega
      · rintro ⟨e1, e2⟩
        split at e1
        · rename_i h3
          simp only [Option.some.injEq] at e1
          have hge := fst_ge (T := T) (n := n) (p := p) s.num (p.length - i) i
          have hno := fst_no (T := T) (n := n) (p := p) s.num (p.length - i) i
          rw [e1] at h3 hge hno
          have hne : i ≠ j := fun e => e2 ⟨h2, by rw [e]; exact h3.1.symm⟩
          exact fstP_is _ _ _ (by omega) (by omega) h3.1 h3.2 (fun m h4 h5 h6 => hno m (by omega) h5 h6.1)
        · cases e1
    · rw [if_neg h2, if_neg h2]
      simp
theorem step_end (h : Fol T [] n p) {i j : Nat} (hi : i ≤ p.length) {s : Seg} (hst : stepX T [] n p i s = some j) : (endS T s (endL T n (p.take i))).1 = endL T n (p.take j) ∧ (endS T s (endL T n (p.take i))).2 = 0 ∧ j ≤ p.length := by
  have ha := h.arcs
  have hv := h.valid
  obtain ⟨x, hx, hxN⟩ := end_node hv h.node ha i hi
  have hnb : nodeB T (x : Int) = true := nodeB_iff.2 ⟨by omega, hxN⟩
  rw [hx]
  have hss := hst
  unfold stepX at hst
  split at hst
  · rename_i h1
    cases hst
    have hab := ha _ (getD_mem (d := 0) h1.2.1)
    have htl := part_tail h h1.2.1 hx
    have hed := endL_step T n p i h1.2.1
    rw [h1.2.2] at hab htl hed
    have hsg : segB T s = true := by unfold segB; rw [if_neg (by omega), if_pos h1.1]; exact hab
    have hes : endS T s x = (endL T n (p.take (i + 1)), 0) := by
      unfold endS
      rw [if_neg (by rw [hsg]; simp), if_neg (by rw [hnb]; simp), if_neg (by omega), if_pos h1.1, if_neg (by rw [htl]; simp), hed]
    rw [hes]
    exact ⟨rfl, rfl, h1.2.1⟩
  · split at hst
    · rename_i h2
      split at hst
      · rename_i h3
        simp only [Option.some.injEq] at hst
        have hge := fst_ge (T := T) (n := n) (p := p) s.num (p.length - i) i
        rw [hst] at h3 hge
        obtain ⟨y, hy, hyN⟩ := end_node hv h.node ha j (by omega)
        have hsy : s.num = (y : Int) := by rw [← h3.1]; exact hy
        have hsg : segB T s = true := by unfold segB; rw [if_pos h2, hsy]; exact nodeB_iff.2 ⟨by omega, hyN⟩
        have hes : endS T s x = (s.num, 0) := by
          unfold endS
          rw [if_neg (by rw [hsg]; simp), if_neg (by rw [hnb]; simp), if_pos h2]
        rw [hes]
        exact ⟨h3.1.symm, rfl, by omega⟩
      · cases hst
    · cases hst
/-- A list is stable if and only if it is exact without the mask, and moves. -/
theorem ck_iff (h : Fol T [] n p) : ∀ (l : List Seg) (i : Nat), i ≤ p.length → ckB T n p i l = (exB T [] n p i l && noDeg T (endL T n (p.take i)) l)
  | [], i, hi => by simp [ckB, exB, noDeg]
  | s :: l, i, hi => by
    simp only [ckB, exB, noDeg]
    cases hX : stepX T [] n p i s with
    | none =>
      have hP : stepP T n p i s = none := by
        cases hP : stepP T n p i s with
        | none => rfl
        | some j => have := ((step_iff h hi s j).1 hP).1; rw [hX] at this; cases this
      rw [hP]
      rfl
    | some j =>
      obtain ⟨e1, e2, e3⟩ := step_end h hi hX
      by_cases hd : s.kind = 1 ∧ s.num = endL T n (p.take i)
      · have hP : stepP T n p i s = none := by
          cases hP : stepP T n p i s with
          | none => rfl
          | some j => exact absurd hd ((step_iff h hi s j).1 hP).2
        rw [hP, if_pos hd]
        simp
      · rw [(step_iff h hi s j).2 ⟨hX, hd⟩, if_neg hd, e1]
        simp only
        exact ck_iff h l j e3
theorem deg_lst (h : Fol T [] n p) : ∀ (f i : Nat), i ≤ p.length → noDeg T (endL T n (p.take i)) (lstF T [] n p f i) = true
  | f, i, hi => by
    by_cases hlt : i < p.length
    · cases f with
      | zero => rfl
      | succ f =>
        cases ht : topD (covB T [] n p i) i p.length with
        | none =>
          rw [lst_none hlt (fun k h1 h2 => topD_isNone _ ht k h1 h2)]
          have hst : stepX T [] n p i ⟨2, p.getD i 0⟩ = some (i + 1) := by unfold stepX; rw [if_pos ⟨rfl, hlt, rfl⟩]
          simp only [noDeg]
          rw [if_neg (by rintro ⟨h1, _⟩; omega), (step_end h hi hst).1]
          exact deg_lst h f (i + 1) (by omega)
        | some j =>
          obtain ⟨t1, t2, t3, t4⟩ := topD_is _ _ ht
          rw [lst_some hlt t1 t2 t3 t4]
          have hf := cov_first h (show i ≤ j by omega) t2 t3
          have hst : stepX T [] n p i ⟨1, endL T n (p.take j)⟩ = some j := by
            unfold stepX
            simp only
            rw [if_neg (by omega), if_pos trivial, hf, if_pos ⟨rfl, t3⟩]
          simp only [noDeg]
          rw [if_neg, (step_end h hi hst).1]
          · exact deg_lst h f j t2
          · rintro ⟨_, h2⟩
            have := fst_is (T := T) (n := n) (p := p) (endL T n (p.take j)) (p.length - i) i i (Nat.le_refl _) (by omega) h2.symm (fun k h3 h4 => by omega)
            omega
    · rw [lst_end f i (by omega)]
      rfl
end
set_option maxRecDepth 10000 in
set_option maxHeartbeats 2000000 in
theorem rpart_can (T : Topo) (D : List Bool) (n : Int) (p : List Int) (hF : Fol T D n p) (h12 : T.nodes ≤ 12) (hp : p.length ≤ 1000) (s : Seg) {i : Nat} (hi : i ≤ p.length) : Can Try.prog 33 [topoV T, boolsV D, segV s, intsV (p.drop i)] (· = num (lenP (stepP T n p i s) i)) := by
  have hv := hF.valid
  have ha := hF.arcs
  have hdl : (p.drop i).length = p.length - i := by simp
  obtain ⟨q1, hq1⟩ : ∃ q, decide (s.kind = 2) = q := ⟨_, rfl⟩
  obtain ⟨q2, hq2⟩ : ∃ q, decide ((0 : Int) < (p.drop i).length) = q := ⟨_, rfl⟩
  obtain ⟨q3, hq3⟩ : ∃ q, decide (p.getD i 0 = s.num) = q := ⟨_, rfl⟩
  refine can_of Try.func33 rfl Try.ntmps33 rfl ?_
  refine W_cs (.a 3 rfl <| .k [1, 3, 4, 6] rfl) ?_
  refine W_seq ?_
  refine W_drsK mixed (by kernel_rfl) 25 (.raw (.bool ((q1 && q2) && q3))) [1, 3, 4, 6] rfl ?_ ?_
  · refine .a 2 rfl <| .v [11] (y_q rfl (hq1)) rfl rfl <| .a 1 rfl <| ?_
    cases q1
    · exact .a 12 rfl <| .k [25, 1, 3, 4, 6] rfl
    · refine .a 2 rfl <| .v [15] (y_q rfl (hq2)) rfl rfl <| .a 2 rfl <| ?_
      cases q2
      · exact .a 7 rfl <| .k [25, 1, 3, 4, 6] rfl
      · exact .a 1 rfl <| .v [19] (y_ix (0) rfl (by omega) (by have := tt hq2; omega)) rfl rfl <| .v [20] (y_ld rfl ((ints_get (p.drop i) 0 (by have := tt hq2; omega)).trans (by rw [drop_get, Nat.add_zero]))) rfl rfl <| .a 2 rfl <| .v [21, 23] (y_q rfl (hq3)) rfl rfl <| .a 1 rfl <| .k [25, 1, 3, 4, 6] rfl
  refine W_cond rfl (fun h2 => ?_) (fun h2 => ?_)
  · have hst : stepP T n p i s = some (i + 1) := by
      simp only [Bool.and_eq_true] at h2
      obtain ⟨⟨rfl, rfl⟩, rfl⟩ := h2
      unfold stepP
      rw [if_pos ⟨tt hq1, by have := tt hq2; omega, tt hq3⟩]
    refine W_cs (.a 1 rfl <| .k [8] rfl) ?_
    refine W_ret ?_
    exact ⟨_, _, ResL.of rfl, Pur.pure, by rw [hst]; simp only [lenP]; rw [show ((i + 1 : Nat) : Int) - i = 1 by omega]; rfl⟩
  · have hn2 : ¬ (s.kind = 2 ∧ i < p.length ∧ p.getD i 0 = s.num) := by
      rintro ⟨e1, e2, e3⟩
      rw [decide_eq_true e1] at hq1
      rw [decide_eq_true (by omega)] at hq2
      rw [decide_eq_true e3] at hq3
      subst hq1
      subst hq2
      subst hq3
      cases h2
    clear hq1 hq2 hq3
    obtain ⟨g1, hg1⟩ : ∃ q, decide (s.kind = 1) = q := ⟨_, rfl⟩
    refine W_skip ?_
    refine W_seq ?_
    refine W_cs (.a 1 rfl <| .k [1, 3, 4, 6, 9] rfl) ?_
    refine W_block ?_
    refine W_k [1, 3, 4, 6, 9] rfl ?_
    refine W_loop (fun r st => ∃ m : Nat, i ≤ m ∧ m ≤ p.length ∧ r = p.length - m ∧ (∀ k, i + 1 ≤ k → k ≤ m → ¬ (endL T n (p.take k) = s.num ∧ covB T [] n p i k = true)) ∧ st = ⟨[(1, boolsV D), (3, intsV (p.drop i)), (4, .pin (topoP T) 0), (6, .pin (segP s) 0), (9, num ((m : Int) + 1 - i))], []⟩) (p.length - i) ⟨i, by omega, hi, rfl, fun k h3 h4 => by omega, by rw [show (i : Int) + 1 - i = 1 by omega]⟩ ?_
    rintro r st ⟨m, him, hm, rfl, hno, rfl⟩
    obtain ⟨g2, hg2⟩ : ∃ q, decide ((m : Int) + 1 - i ≤ ((p.drop i).length : Int)) = q := ⟨_, rfl⟩
    refine W_seq ?_
    refine W_csK 34 (.raw (.bool (g1 && g2))) [1, 3, 4, 6, 9] rfl ?_ ?_
    · refine .a 2 rfl <| .v (y_q rfl (hg1)) rfl <| .a 1 rfl <| ?_
      cases g1
      · exact .a 5 rfl <| .k [34, 1, 3, 4, 6, 9] rfl
      · exact .a 3 rfl <| .v (y_q rfl (hg2)) rfl <| .a 1 rfl <| .k [34, 1, 3, 4, 6, 9] rfl
    refine W_cond rfl (fun h3 => ?_) (fun h3 => ?_)
    · simp only [Bool.and_eq_true] at h3
      obtain ⟨rfl, rfl⟩ := h3
      have hk1 : s.kind = 1 := tt hg1
      have hlt2 : m + 1 ≤ p.length := by have := tt hg2; omega
      have hed := endL_step T n p m (by omega)
      have hhd := rheadI_can T hv (p.getD m 0) (ha _ (getD_mem (by omega)))
      rw [← hed] at hhd
      have hgd : (p.drop i).getD (m - i) 0 = p.getD m 0 := by rw [drop_get]; congr 1; omega
      obtain ⟨c1, hc1⟩ : ∃ q, decide (endL T n (p.take (m + 1)) = s.num) = q := ⟨_, rfl⟩
      obtain ⟨c2, hc2⟩ : ∃ q, covB T [] n p i (m + 1) = q := ⟨_, rfl⟩
      have hco := stands_can T D n p hF h12 hp (i := i) (k := m + 1) (by omega) hlt2
      rw [hc2] at hco
      refine W_skip ?_
      refine W_seq ?_
      refine W_block ?_
      refine W_drsK mixed (by kernel_rfl) 54 (.raw (.bool (c1 && c2))) [1, 3, 4, 6, 9] rfl ?_ ?_
      · refine .a 3 rfl <| .v [39] (y_ar rfl (hc := (show (m : Int) + 1 - i - 1 = ((m - i : Nat) : Int) by omega))) rfl rfl <| .v [38, 40] (y_ix ((m - i)) rfl) rfl rfl <| .v [41] (y_ld rfl ((ints_get (p.drop i) (m - i) (by omega)).trans (by rw [hgd]))) rfl rfl <| .v [37, 42] (y_c rfl (hhd)) rfl rfl <| .a 2 rfl <| .v [43, 45] (y_q rfl (hc1)) rfl rfl <| .a 1 rfl <| ?_
        cases c1
        · exact .a 7 rfl <| .k [54, 1, 3, 4, 6, 9] rfl
        · exact .a 4 rfl <| .v [50, 51] (y_pHi (j := m + 1) rfl (fok.el.get rfl) rfl rfl (by omega) (by omega) hlt2) rfl rfl <| .v [48, 49, 52] (y_c rfl (hco)) rfl rfl <| .a 1 rfl <| .k [54, 1, 3, 4, 6, 9] rfl
      refine W_cond rfl (fun h4 => ?_) (fun h4 => ?_)
      · simp only [Bool.and_eq_true] at h4
        obtain ⟨rfl, rfl⟩ := h4
        have hst : stepP T n p i s = some (m + 1) := by
          unfold stepP
          rw [if_neg hn2, if_pos hk1]
          exact fstP_is _ _ _ (by omega) (by omega) (tt hc1) hc2 (fun k h5 h6 => hno k h5 (by omega))
        refine W_cs (.a 2 rfl <| .k [8] rfl) ?_
        refine W_ret ?_
        exact ⟨_, _, ResL.of rfl, Pur.pure, by rw [hst]; simp only [lenP]; rw [show ((m + 1 : Nat) : Int) - i = (m : Int) + 1 - i by omega]; rfl⟩
      · have hno2 : ¬ (endL T n (p.take (m + 1)) = s.num ∧ covB T [] n p i (m + 1) = true) := by
          rintro ⟨e1, e2⟩
          rw [decide_eq_true e1] at hc1
          rw [e2] at hc2
          subst hc1
          subst hc2
          cases h4
        refine W_skip ?_
        refine W_chain (.a 1 rfl <| .v (y_ar rfl) rfl <| .a 1 rfl <| .k [1, 3, 4, 6, 9] rfl) ?_
        refine ⟨p.length - (m + 1), by omega, m + 1, by omega, hlt2, rfl, fun k h5 h6 => ?_, ?_⟩
        · by_cases e : k = m + 1
          · subst e; exact hno2
          · exact hno k h5 (by omega)
        · rw [show ((m + 1 : Nat) : Int) + 1 - i = (m : Int) + 1 - i + 1 by omega]
    · have hst : stepP T n p i s = none := by
        unfold stepP
        rw [if_neg hn2]
        by_cases hk : s.kind = 1
        · rw [if_pos hk]
          rw [decide_eq_true hk] at hg1
          subst hg1
          rw [Bool.true_and] at h3
          subst h3
          have := ff hg2
          exact fstP_none _ _ (fun k h4 h5 => hno k h4 (by omega))
        · rw [if_neg hk]
      refine W_exit ?_
      refine W_cs (.a 1 rfl <| .k [8] rfl) ?_
      refine W_ret ?_
      exact ⟨_, _, ResL.of rfl, Pur.pure, by rw [hst]; rfl⟩
noncomputable def ckE (T : Topo) (D : List Bool) (l : List Seg) (n : Int) (p : List Int) : Bool := if folE T D n p = 0 then ckB T n p 0 l else false
set_option maxRecDepth 10000 in
set_option maxHeartbeats 2000000 in
theorem rck_can (T : Topo) (D : List Bool) (l : List Seg) (n : Int) (p : List Int) (hp : p.length ≤ 1000) (h12 : T.nodes ≤ 12) (hl : l.length ≤ 1000) : Can Try.prog 16 [topoV T, boolsV D, segsV l, num n, intsV p] (· = flag (ckE T D l n p)) := by
  refine can_of Try.func16 rfl Try.ntmps16 rfl ?_
  refine W_cs (.a 2 rfl <| .k [1, 2, 3, 4, 5] rfl) ?_
  refine W_seq ?_
  refine W_cs (.a 4 rfl <| .c rfl (rscheck_can T D p n hp) rfl <| .a 1 rfl <| .k [1, 2, 4, 5, 18] rfl) ?_
  refine W_cond rfl (fun hc => ?_) (fun hc => ?_)
  · have he : folE T D n p ≠ 0 := tt hc
    refine W_cs (.a 1 rfl <| .k [10] rfl) ?_
    refine W_ret ?_
    exact ⟨_, _, ResL.of rfl, Pur.pure, by unfold ckE; rw [if_neg he]; rfl⟩
  · have he : folE T D n p = 0 := Classical.byContradiction (ff hc)
    have hF := fol_of he
    have hX : ckE T D l n p = ckB T n p 0 l := by unfold ckE; rw [if_pos he]
    rw [hX]
    clear hc
    refine W_skip ?_
    refine W_seq ?_
    refine W_cs (.a 1 rfl <| .k [1, 2, 4, 5, 11] rfl) ?_
    refine W_block ?_
    refine W_k [1, 2, 4, 5, 11] rfl ?_
    refine W_loop (fun r st => ∃ (k i : Nat), k ≤ l.length ∧ i ≤ p.length ∧ r = l.length - k ∧ ckB T n p 0 l = ckB T n p i (l.drop k) ∧ st = ⟨[(1, boolsV D), (2, segsV l), (4, intsV (p.drop i)), (5, .pin (topoP T) 0), (11, num k)], []⟩) l.length ⟨0, 0, by omega, by omega, by omega, rfl, rfl⟩ ?_
    rintro r st ⟨k, i, hk, hi, rfl, hex, rfl⟩
    have hdl : (p.drop i).length = p.length - i := by simp
    refine W_seq ?_
    refine W_cs (.a 4 rfl <| .k [1, 2, 4, 5, 11, 22] rfl) ?_
    refine W_cond rfl (fun h1 => ?_) (fun h1 => ?_)
    · have hlt : k < l.length := by have := tt h1; omega
      obtain ⟨s, hs, hdr⟩ := segs_cons l k hlt
      rw [hdr] at hex
      simp only [ckB] at hex
      have hpa := rpart_can T D n p hF h12 hp s hi
      obtain ⟨o, ho⟩ : ∃ o, stepP T n p i s = o := ⟨_, rfl⟩
      obtain ⟨z, hz⟩ : ∃ z : Int, lenP o i = z := ⟨_, rfl⟩
      rw [ho] at hpa hex
      rw [hz] at hpa
      have hzo : z = 0 ↔ o = none := by
        cases o with
        | none => simp only [lenP] at hz; simp [hz]
        | some j =>
          have h2 := (step_iff hF.bare hi s j).1 ho
          have h3 := step_some hi h2.1
          have hne : j ≠ i := fun e => by
            rcases h3 with h3 | h3
            · omega
            · have h4 := ((step_iff hF.bare hi s j).1 ho)
              have h5 := step_end hF.bare hi h4.1
              unfold stepP at ho
              split at ho
              · cases ho; omega
              · split at ho
                · have := fstP_some _ _ _ ho; omega
                · cases ho
          simp only [lenP] at hz
          constructor
          · intro e; omega
          · intro e; cases e
      refine W_skip ?_
      refine W_seq ?_
      refine W_block ?_
      refine W_drs mixed (by kernel_rfl) (.a 4 rfl <| .v [27, 28] (y_ix ((k * 2)) rfl) rfl rfl <| .v [29] (y_la rfl (segs_drop l k s hs) rfl) rfl rfl <| .a 1 rfl <| .v [25, 26, 30, 31] (y_c rfl (hpa)) rfl rfl <| .a 1 rfl <| .k [1, 2, 4, 5, 11, 12] rfl) ?_
      refine W_seq ?_
      refine W_cs (.a 2 rfl <| .k [1, 2, 4, 5, 11, 12, 34] rfl) ?_
      refine W_cond rfl (fun h2 => ?_) (fun h2 => ?_)
      · have hon := hzo.1 (tt h2)
        subst hon
        simp only at hex
        refine W_cs (.a 1 rfl <| .k [10] rfl) ?_
        refine W_ret ?_
        exact ⟨_, _, ResL.of rfl, Pur.pure, by rw [hex]; rfl⟩
      · obtain ⟨j, rfl⟩ : ∃ j, o = some j := by
          cases o with
          | none => exact absurd (hzo.2 rfl) (ff h2)
          | some j => exact ⟨j, rfl⟩
        simp only at hex
        simp only [lenP] at hz
        have hjj := step_some hi ((step_iff hF.bare hi s j).1 ho).1
        have hij : i ≤ j ∧ j ≤ p.length := by omega
        refine W_skip ?_
        refine W_chain (.a 2 rfl <| .v (y_pLo (j := j) rfl (fok.el.get rfl) rfl rfl hz.symm hij.1 hij.2) rfl <| .a 1 rfl <| .k [1, 2, 4, 5, 11] rfl) ?_
        refine W_chain (.a 1 rfl <| .v (y_ar rfl) rfl <| .a 1 rfl <| .k [1, 2, 4, 5, 11] rfl) ?_
        exact ⟨l.length - (k + 1), by omega, k + 1, j, by omega, hij.2, rfl, hex, rfl⟩
    · have hke : k = l.length := by have := ff h1; omega
      subst hke
      rw [List.drop_length] at hex
      simp only [ckB] at hex
      refine W_exit ?_
      refine W_cs (.a 4 rfl <| .k [10] rfl) ?_
      refine W_ret ?_
      refine ⟨_, _, ResL.of rfl, Pur.pure, ?_⟩
      rw [hex]
      exact congrArg (fun b => flag b) (decide_eq_decide.2 (by omega))
end PW
end Go.Proofs.Ytkgepjiebihodaa

/- Stable node segments: parts, fewer failures, next arcs. Plain mathematics. -/
namespace Go.Proofs.Ytkgepjiebihodaa
set_option linter.unusedVariables false
set_option linter.unusedSimpArgs false
namespace PW
open Go.RowKit Reg Mem Net

section
variable {T : Topo} {D : List Bool}
theorem ch_walkF {d : Nat} : ∀ {m : Nat} {q : List Int}, Ch T D d m q → (q = [] ∨ overN T m = false) → walkE T false m q = 0
  | m, [], _, _ => rfl
  | m, a :: q, h, ho => by
    cases h with
    | @cons _ b k _ ha ht hu hm hov hp =>
      rw [walk_step (arcB_iff.2 ⟨by omega, by omega⟩) (by rw [Int.toNat_natCast]; exact ht) (.inr (by rcases ho with h | h; cases h; rw [Int.toNat_natCast]; exact h)), Int.toNat_natCast, hm]
      exact ch_walkF hp hov
theorem ch_walk {d m : Nat} {q : List Int} (h : Ch T D d m q) : walkE T true m q = 0 := by
  cases h with
  | nil => rfl
  | @cons _ b k q ha ht hu hm hov hp =>
    rw [walk_step (arcB_iff.2 ⟨by omega, by omega⟩) (by rw [Int.toNat_natCast]; exact ht) (.inl rfl), Int.toNat_natCast, hm]
    exact ch_walkF hp hov
theorem Ch.bare {d m : Nat} {q : List Int} (h : Ch T D d m q) : Ch T [] d m q := by
  induction h with
  | nil => exact .nil
  | cons ha ht hu hm ho hp ih => exact .cons ha ht (by simp [downN]) hm ho ih
theorem Ch.mask {d m : Nat} {q : List Int} (h : Ch T [] d m q) (hc : ∀ a ∈ q, downN D a.toNat = false) : Ch T D d m q := by
  induction h with
  | nil => exact .nil
  | @cons n a m p ha ht hu hm ho hp ih => exact .cons ha ht (by have := hc a (by simp); rw [Int.toNat_natCast] at this; exact this) hm ho (ih fun b hb => hc b (by simp [hb]))
/-- What a stable node segment is. -/
structure Stab (T : Topo) (D : List Bool) (x y : Nat) (p : List Int) : Prop where
  valid : validB T = true
  fits : fitsB T D = true
  ne : x ≠ y
  hx : (x : Int) < T.nodes
  hy : (y : Int) < T.nodes
  uniq : uniqB T [] x y = true
  sp : SP T [] y x p
  up : ∀ a ∈ p, downN D a.toNat = false
theorem stab_of {x y : Int} (h : sgB T D x y = true) : ∃ a b : Nat, x = (a : Int) ∧ y = (b : Int) ∧ Stab T D a b (spathL T [] a b) ∧ spE T [] x y = 0 := by
  unfold sgB at h
  simp only [Bool.and_eq_true, Bool.not_eq_true', decide_eq_false_iff_not] at h
  obtain ⟨⟨⟨⟨hv, hf⟩, hne⟩, hu⟩, hc⟩ := h
  obtain ⟨a, b, rfl, rfl, ha, hb, _, hsp⟩ := spE_facts (uniq_sp hu)
  simp only [Int.toNat_natCast] at hsp hc
  exact ⟨a, b, rfl, rfl, ⟨hv, hf, fun e => hne (by rw [e]), ha, hb, hu, hsp, clear_iff.1 hc⟩, uniq_sp hu⟩
variable {x y : Nat} {p : List Int}
theorem Stab.pos (h : Stab T D x y p) : 0 < p.length := by
  have hsp := h.sp
  cases hsp with
  | nil => exact absurd rfl h.ne
  | cons _ _ _ => simp
theorem Stab.fol (h : Stab T D x y p) : Fol T D x p := ⟨h.valid, h.fits, nodeB_iff.2 ⟨by omega, h.hx⟩, ch_walk h.sp.ch, h.up⟩
theorem Stab.cnt (h : Stab T D x y p) : cntS T [] y x = 1 := (uniq_iff h.valid (fits_nil T) h.hx h.hy).1 h.uniq
theorem Stab.cov (h : Stab T D x y p) : covB T [] x p 0 p.length = true := by
  have he : endL T (x : Int) (p.take p.length) = (y : Int) := by rw [List.take_length]; exact h.sp.ch.fin
  rw [cov_iff h.fol.bare (Nat.zero_le _) (Nat.le_refl _) (u := x) rfl he]
  have : partL p 0 p.length = p := by unfold partL; simp
  rw [this]
  exact ⟨h.sp, h.cnt⟩
/-- The node segment between two nodes of the path. -/
theorem Stab.part (h : Stab T D x y p) {i k : Nat} (hik : i ≤ k) (hk : k < p.length) : sgB T D (tailN T (p.getD i 0).toNat) (headN T (p.getD k 0).toNat) = true := by
  have hF := h.fol
  have ha := hF.arcs
  have hc := cov_sub hF.bare (i := 0) (j := p.length) (i' := i) (j' := k + 1) (Nat.zero_le _) (by omega) (by omega) (Nat.le_refl _) h.cov
  obtain ⟨u, hu, huN⟩ := end_node h.valid hF.node ha i (by omega)
  obtain ⟨v, hv, hvN⟩ := end_node h.valid hF.node ha (k + 1) (by omega)
  rw [part_tail hF (by omega) hu, ← endL_step T x p k hk, hv]
  rw [← stands_cov hF (by omega) (by omega) hu hv, Bool.and_eq_true] at hc
  exact hc.1
theorem down_set (D : List Bool) (k a : Nat) (h : downN D a = false) : downN (D.set k false) a = false := by
  unfold downN at *
  rw [List.getD_eq_getElem?_getD, List.getElem?_set] at *
  split
  · split <;> rfl
  · exact h
theorem sg_fewer {x y : Int} (h : sgB T D x y = true) (k : Nat) : sgB T (D.set k false) x y = true := by
  unfold sgB at *
  simp only [Bool.and_eq_true] at *
  obtain ⟨⟨⟨⟨hv, hf⟩, hne⟩, hu⟩, hc⟩ := h
  refine ⟨⟨⟨⟨hv, ?_⟩, hne⟩, hu⟩, ?_⟩
  · unfold fitsB at *
    simpa using hf
  · rw [clear_iff] at *
    exact fun a ha => down_set D k _ (hc a ha)
/-- The only next arc, with and without the mask. -/
theorem Stab.next (h : Stab T D x y p) {i u : Nat} (hi : i < p.length) (hu : endL T x (p.take i) = (u : Int)) : nextL T [] u y = [p.getD i 0] ∧ nextL T D u y = [p.getD i 0] ∧ (u : Int) < T.nodes := by
  have hF := h.fol
  have hv := h.valid
  have ha := hF.arcs
  obtain ⟨u', hu', huN⟩ := end_node hv hF.node ha i (by omega)
  have : u' = u := by omega
  subst this
  have hfin : endL T (x : Int) (p.take p.length) = (y : Int) := by rw [List.take_length]; exact h.sp.ch.fin
  have hch := hF.bare.ch (i := 0) (j := i) (Nat.zero_le _) (by omega) (u := x) rfl hu
  have hpp : partL p 0 i ++ partL p i p.length = p := by rw [← part_split p (Nat.zero_le _) (by omega)]; unfold partL; simp
  have hsp := h.sp
  rw [← hpp] at hsp
  obtain ⟨s1, s2⟩ := hsp.suffix hv h.hy h.cnt hch
  have hdr : partL p i p.length = p.getD i 0 :: p.drop (i + 1) := by
    unfold partL
    rw [List.take_of_length_le (by simp), drop_cons p i hi]
  rw [hdr] at s1
  have hup : ∀ c ∈ p.getD i 0 :: p.drop (i + 1), downN D c.toNat = false := fun c hc => by
    rw [← drop_cons p i hi] at hc
    exact h.up c (List.mem_of_mem_drop hc)
  have hchD := s1.ch.mask hup
  have hd0 := s1.cost hv h.hy
  generalize p.getD i 0 = a0 at *
  generalize p.drop (i + 1) = q at *
  cases s1 with
  | @cons _ a m _ hn hm hq =>
    obtain ⟨b, hb, _, _⟩ := cnt_one hv h.hy huN hn.ne s2
    have hab := next_of hn ((sound_of hv).cost a hn.arc).1
    rw [hb] at hab
    simp only [List.mem_singleton] at hab
    rw [← hab] at hb
    refine ⟨hb, ?_, huN⟩
    have hDle := hchD.le hv h.hy
    have mono : ∀ k : Nat, (k : Int) < T.nodes → 0 ≤ dN T D y k → 0 ≤ dN T [] y k ∧ dN T [] y k ≤ dN T D y k := fun k hk h0 => by
      have hs := spath_sp hv h.hy hk h0
      have := hs.ch.bare.le hv h.hy
      rw [← (hs.cost hv h.hy).1] at this
      exact this
    have hmu := mono u' huN hDle.1
    have heq : dN T D y u' = dN T [] y u' := by omega
    have hall : ∀ c ∈ nextL T D u' y, c = (a : Int) := fun c hc => by
      obtain ⟨k, rfl, hk⟩ := next_mem hc
      obtain ⟨z, hz, hzN⟩ := head_nat hv hk.arc
      have g := hk.dN hz
      have g2 := mono z hzN g.1
      have hs := spath_sp (D := []) hv h.hy hzN g2.1
      have hch2 : Ch T [] y u' ((k : Int) :: spathL T [] z y) := .cons hk.arc hk.tail (by simp [downN]) hz (by
        rcases hk.pass with e | e
        · left
          have : z = y := by omega
          subst this
          exact hs.self
        · right
          rw [hz, Int.toNat_natCast] at e
          exact e) hs.ch
      have g3 := hch2.le hv h.hy
      rw [costL_cons, ← (hs.cost hv h.hy).1, Int.toNat_natCast] at g3
      have hnr : Nearer T [] u' y k := ⟨hk.arc, hk.tail, by simp [downN], hk.ne, by rw [hz, Int.toNat_natCast]; exact g2.1, hk.pass, by
        rw [hz, Int.toNat_natCast]
        show dN T [] y u' = dN T [] y z + costN T k
        omega⟩
      have := next_of hnr ((sound_of hv).cost k hk.arc).1
      rw [hb] at this
      simpa using this
    obtain ⟨k, hk⟩ := next_ex (D := D) hv huN h.hy hn.ne hDle.1
    have hmem := next_of hk ((sound_of hv).cost k hk.arc).1
    have hso := next_sorted T D u' y
    cases hx : nextL T D u' y with
    | nil => rw [hx] at hmem; cases hmem
    | cons c l =>
      rw [hx] at hall hso
      have hc := hall c (by simp)
      subst hc
      cases l with
      | nil => rfl
      | cons c2 l =>
        have := hall c2 (by simp)
        have h3 := (List.pairwise_cons.1 hso).1 c2 (by simp)
        omega
end
end PW
end Go.Proofs.Ytkgepjiebihodaa

/- The example of the laws: a ring of four nodes, its distances. -/
namespace Go.Proofs.Ytkgepjiebihodaa
set_option linter.unusedVariables false
set_option linter.unusedSimpArgs false
namespace PW
open Go.RowKit Reg Mem Net

def ringL (k : Nat) : List Lnk := (List.range k).map fun (i : Nat) => ⟨(i : Int), (((i + 1) % 4 : Nat) : Int), 1, 1, 0, 1, 0⟩
def ringT : Topo := ⟨4, [], ringL 4⟩
def ringD (d : Nat) : List Int := match d with
  | 0 => [0, 1, 2, 1]
  | 1 => [1, 0, 1, 2]
  | 2 => [2, 1, 0, 1]
  | _ => [1, 2, 1, 0]
theorem ring_valid : validB ringT = true := by kernel_rfl
theorem ring_fits : fitsB ringT [] = true := by kernel_rfl
def wayB (T : Topo) (n : Nat) (out : List Int) (a : Nat) : Bool := decide (0 ≤ at' out (arcY T false a)) && (decide (arcY T false a = (n : Int)) || !overN T (arcY T false a).toNat)
def distB (n : Nat) (out : List Int) : Bool :=
  decide (out.length = 4) && decide (at' out (n : Int) = 0) && (List.range 4).all (fun x => decide (0 ≤ at' out (x : Int))) &&
  (List.range 8).all (fun a => !wayB ringT n out a || (decide (0 ≤ at' out (arcX ringT false a)) && decide (at' out (arcX ringT false a) ≤ at' out (arcY ringT false a) + costN ringT a))) &&
  (List.range 4).all (fun x => decide (x = n) || (List.range 8).any fun a => decide (arcX ringT false a = (x : Int)) && wayB ringT n out a && decide (at' out (x : Int) = at' out (arcY ringT false a) + costN ringT a))
theorem way_iff (n : Nat) (out : List Int) (a : Nat) : Net.Way ringT [] n false out a ↔ wayB ringT n out a = true := by
  unfold Net.Way wayB
  have : downN [] a = false := by simp [downN]
  simp [this]
theorem dist_of {n : Nat} {out : List Int} (h : distB n out = true) : IsDist ringT [] n false out := by
  simp only [distB, Bool.and_eq_true, decide_eq_true_eq, List.all_eq_true, List.mem_range, Bool.or_eq_true, Bool.not_eq_true', List.any_eq_true] at h
  obtain ⟨⟨⟨⟨h1, h2⟩, h3⟩, h4⟩, h5⟩ := h
  refine ⟨by rw [h1]; rfl, h2, fun x hx => ?_, fun a ha hw => ?_, fun x hx _ => ?_⟩
  · have := h3 x (by have : ringT.nodes = 4 := rfl; omega); omega
  · rcases h4 a (by have : ringT.links.length = 4 := rfl; omega) with h | h
    · rw [(way_iff n out a).1 hw] at h; cases h
    · exact h
  · rcases h5 x (by have : ringT.nodes = 4 := rfl; omega) with h | ⟨a, ha, ⟨h6, h7⟩, h8⟩
    · exact .inl h
    · exact .inr ⟨a, by have : ringT.links.length = 4 := rfl; omega, h6, (way_iff n out a).2 h7, h8⟩
theorem ring_dist (d : Nat) (hd : d < 4) : distL ringT [] d false = ringD d := by
  refine distL_eq (sound_of ring_valid) (dist_of ?_)
  match d, hd with
  | 0, _ => exact (show distB 0 (ringD 0) = true by kernel_rfl)
  | 1, _ => exact (show distB 1 (ringD 1) = true by kernel_rfl)
  | 2, _ => exact (show distB 2 (ringD 2) = true by kernel_rfl)
  | 3, _ => exact (show distB 3 (ringD 3) = true by kernel_rfl)
theorem lnksP_snoc (l : List Lnk) (e : Lnk) : lnksP l ++ lnkP e = lnksP (l ++ [e]) := by simp [lnksP]
theorem ringL_step (k : Nat) : ringL (k + 1) = ringL k ++ [⟨(k : Int), (((k + 1) % 4 : Nat) : Int), 1, 1, 0, 1, 0⟩] := by simp [ringL, List.range_succ]
/-- A pair of constants. -/
theorem y_build2 {P : Program} {σ : Sto} {t : Tms} {o : Oper} {ty : TypeId} {v0 v1 c0 c1 : Value} (ho : o.op = .build ty #[(0, .const v0), (1, .const v1)]) (hb : P.built ty [(0, v0), (1, v1)] = some #[c0, c1]) : Yield P σ t o (.agg [.raw c0, .raw c1]) := by
  intro F base E ρ w hρ hS hT
  have hrun := run_build (P := P) w ty #[(0, v0), (1, v1)] #[c0, c1] hb
  have h0 : ρ (.const v0) = v0 := hρ.const v0
  have h1 : ρ (.const v1) = v1 := hρ.const v1
  have hr : (execOp ρ o).run P w = .ok (.value (.agg #[c0, c1])) w := by
    simp only [execOp, ho, Sem.run_bind, List.map_toArray, List.map_cons, List.map_nil, h0, h1, hrun, Result.andThen_ok, Sem.run_pure]
  rw [hr]
  refine upon_val (.agg #[c0, c1] _ rfl (fun i x u k1 k2 => ?_))
  match i, k1, k2 with
  | 0, k1, k2 => simp at k1 k2; subst k1; subst k2; exact .raw _
  | 1, k1, k2 => simp at k1 k2; subst k1; subst k2; exact .raw _
  | _ + 2, k1, k2 => simp at k2
end PW
end Go.Proofs.Ytkgepjiebihodaa

/- Texts of segments with small numbers: the reference of layers 9 and 18. -/
namespace Go.Proofs.Ytkgepjiebihodaa
set_option linter.unusedVariables false
set_option linter.unusedSimpArgs false
namespace PW
open Go.RowKit Reg Mem Net

abbrev strB (l : List UInt8) : PV := .raw (.string ⟨l.toArray⟩)
theorem bytes_no (a b : UInt8) : ((⟨#[a, b]⟩ : ByteArray).toList == (⟨#[]⟩ : ByteArray).toList) = false := by
  have h : ∀ (ba : ByteArray) i r, ByteArray.toList.loop ba i r = if i < ba.size then ByteArray.toList.loop ba (i + 1) (ba.get! i :: r) else r.reverse := fun ba i r => by rw [ByteArray.toList.loop]
  have h2 : (⟨#[]⟩ : ByteArray).toList = [] := by
    unfold ByteArray.toList
    rw [h, if_neg (by show ¬ 0 < 0; omega)]
    rfl
  have h3 : (⟨#[a, b]⟩ : ByteArray).toList = [a, b] := by
    unfold ByteArray.toList
    rw [h, if_pos (by show 0 < 2; omega), h, if_pos (by show 1 < 2; omega), h, if_neg (by show ¬ 2 < 2; omega)]
    rfl
  rw [h2, h3]
  rfl
theorem cat_bytes (a b : List UInt8) : (⟨a.toArray⟩ : ByteArray) ++ ⟨b.toArray⟩ = ⟨(a ++ b).toArray⟩ := by
  apply ByteArray.ext
  simp
theorem y_catB {P : Program} {σ : Sto} {t : Tms} {o : Oper} {x y : Operand} {ty tz : TypeId} {a b : List UInt8} (ho : o.op = .binOp .add ty x y tz) (hx : evalO t x = some (strB a)) (hy : evalO t y = some (strB b)) (hn : a.length + b.length ≤ 1000000) : Yield P σ t o (strB (a ++ b)) :=
  y_cat ho hx hy (cat_bytes a b) (by show a.toArray.size + b.toArray.size ≤ _; simp; omega)
theorem y_oneByte {P : Program} {σ : Sto} {t : Tms} {o : Oper} {src dst e : TypeId} {x : Operand} {c : UInt8} (ho : o.op = .convert src dst x) (hs : P.underlying src = some (.slice e)) (hd : P.underlying dst = some .string) (he : P.underlying e = some (.int .u8)) (hx : evalO t x = some (.slice 1 [.raw (.int .u8 c.toNat)])) : Yield P σ t o (strB [c]) := by
  intro F base E ρ w hρ _ hT
  have h1 := evalO_rep hρ hT hx
  generalize hz : ρ x = z at h1
  cases h1 with
  | slice b off _ cap cs _ h0 h1 h2 hb hM hc hl hr =>
    match cs, hl, hc, hr with
    | [v], _, hc, hr =>
      have hv := rep_raw (hr 0 v _ rfl rfl)
      subst hv
      have hlc := run_loadCellsFrom (P := P) ⟨b, off, none⟩ rfl [.int .u8 c.toNat] 0 #[] w (fun j x hx => by rw [Nat.zero_add]; exact hc j x hx)
      have hrun : (convert src dst (.slice (some ⟨b, off, none⟩) 1 cap)).run P w = .ok (.string ⟨[c].toArray⟩) w := by
        simp only [convert, Sem.run_bind, run_underlying hs, run_underlying hd, run_underlying he, Result.andThen_ok, Conv.bytesToString, loadCells]
        rw [show (1 : Nat) = [Value.int .u8 c.toNat].length from rfl, hlc]
        simp
        rfl
      simp only [execOp, ho, hz, Sem.run_bind, hrun]
      exact upon_val (.raw _)
theorem y_addU {P : Program} {σ : Sto} {t : Tms} {o : Oper} {x y : Operand} {ty tz : TypeId} {a b c : Int} (ho : o.op = .binOp .add ty x y tz) (hx : evalO t x = some (.raw (.int .u64 a))) (hy : evalO t y = some (.raw (.int .u64 b))) (hc : IntKind.u64.wrap (a + b) = c) : Yield P σ t o (.raw (.int .u64 c)) :=
  y_int ho hx hy fun w => by simp [binOp, Op.intArith, hc]
def dig (n : Nat) : UInt8 := UInt8.ofNat (48 + n)
theorem dig_nat {n : Nat} (h : n < 10) : (dig n).toNat = 48 + n := by unfold dig; rw [UInt8.toNat_ofNat']; omega
set_option maxRecDepth 10000 in
set_option maxHeartbeats 1000000 in
theorem digits_can (n : Nat) (hn : n < 10) : Can Try.prog 86 [.raw (.int .u64 n)] (· = strB [dig n]) := by
  refine can_of Try.func86 rfl Try.ntmps86 rfl ?_
  refine W_cs (.a 1 rfl <| .k [0] rfl) ?_
  refine W_seq ?_
  refine W_cs (.a 1 rfl <| .v (y_lss rfl rfl rfl rfl) rfl <| .k [0, 4] rfl) ?_
  refine W_cond rfl (fun hc => ?_) (fun hc => ?_)
  · refine W_cs (.a 1 rfl <| .v (y_addU (c := ((dig n).toNat : Int)) rfl rfl rfl (by rw [IntKind.wrap_u64, dig_nat hn]; omega)) rfl <| .v (y_conv rfl Try.underlying103 Try.underlying5 rfl (u8_wrap _ (by rw [dig_nat hn]; omega))) rfl <| .a 1 rfl <| .v (y_oneByte rfl Try.underlying116 Try.underlying9 Try.underlying5 rfl) rfl <| .a 1 rfl <| .k [2] rfl) ?_
    refine W_ret ?_
    exact ⟨_, _, ResL.of rfl, Pur.pure, rfl⟩
  · exact absurd (ff hc) (by omega)
set_option maxRecDepth 10000 in
set_option maxHeartbeats 1000000 in
theorem number_can (n : Nat) (hn : n < 10) : Can Try.prog 71 [num n] (· = strB [dig n]) := by
  refine can_of Try.func71 rfl Try.ntmps71 rfl ?_
  refine W_cs (.a 1 rfl <| .k [0] rfl) ?_
  refine W_seq ?_
  refine W_cs (.a 2 rfl <| .k [0, 4] rfl) ?_
  refine W_cond rfl (fun hc => ?_) (fun hc => ?_)
  · exact absurd (tt hc) (by omega)
  · refine W_skip ?_
    refine W_cs (.a 1 rfl <| .v (y_conv (c := (n : Int)) rfl Try.underlying3 Try.underlying103 rfl (by rw [IntKind.wrap_u64]; omega)) rfl <| .c rfl (digits_can n hn) rfl <| .a 1 rfl <| .k [2] rfl) ?_
    refine W_ret ?_
    exact ⟨_, _, ResL.of rfl, Pur.pure, rfl⟩
theorem y_build5 {P : Program} {σ : Sto} {t : Tms} {o : Oper} {ty : TypeId} {v0 v1 v2 v3 v4 : Value} (ho : o.op = .build ty #[(0, .const v0), (1, .const v1), (2, .const v2), (3, .const v3), (4, .const v4)]) (hb : P.built ty [(0, v0), (1, v1), (2, v2), (3, v3), (4, v4)] = some #[v0, v1, v2, v3, v4]) : Yield P σ t o (.agg [.raw v0, .raw v1, .raw v2, .raw v3, .raw v4]) := by
  intro F base E ρ w hρ hS hT
  have hrun := run_build (P := P) w ty #[(0, v0), (1, v1), (2, v2), (3, v3), (4, v4)] #[v0, v1, v2, v3, v4] hb
  have hr : (execOp ρ o).run P w = .ok (.value (.agg #[v0, v1, v2, v3, v4])) w := by
    simp only [execOp, ho, Sem.run_bind, List.map_toArray, List.map_cons, List.map_nil, hρ.const, hrun, Result.andThen_ok, Sem.run_pure]
  rw [hr]
  refine upon_val (.agg #[v0, v1, v2, v3, v4] _ rfl (fun i x u k1 k2 => ?_))
  match i, k1, k2 with
  | 0, k1, k2 => simp at k1 k2; subst k1; subst k2; exact .raw _
  | 1, k1, k2 => simp at k1 k2; subst k1; subst k2; exact .raw _
  | 2, k1, k2 => simp at k1 k2; subst k1; subst k2; exact .raw _
  | 3, k1, k2 => simp at k1 k2; subst k1; subst k2; exact .raw _
  | 4, k1, k2 => simp at k1 k2; subst k1; subst k2; exact .raw _
  | _ + 5, k1, k2 => simp at k2
abbrev kindP : List PV := [strB [], strB [110], strB [97], strB [103], strB [98]]
set_option maxRecDepth 10000 in
set_option maxHeartbeats 1000000 in
theorem stext_can (n : Nat) (hn : n < 10) : Can Try.prog 50 [segV ⟨1, n⟩] (· = strB [110, dig n]) := by
  obtain ⟨q1, hq1⟩ : ∃ q, decide ((n : Int) < 0) = q := ⟨_, rfl⟩
  obtain ⟨q2, hq2⟩ : ∃ q, decide ((999999999 : Int) < (n : Int)) = q := ⟨_, rfl⟩
  refine can_of Try.func50 rfl Try.ntmps50 rfl ?_
  refine W_cs (.a 2 rfl <| .k [1] rfl) ?_
  refine W_seq ?_
  refine W_csK 21 (.raw (.bool (q1 || q2))) [1] rfl ?_ ?_
  · refine .a 11 rfl <| .v (y_q rfl (hq1)) rfl <| .a 2 rfl <| ?_
    cases q1
    · exact .a 2 rfl <| .v (y_q rfl (hq2)) rfl <| .a 1 rfl <| .k [21, 1] rfl
    · exact .a 4 rfl <| .k [21, 1] rfl
  refine W_cond rfl (fun hc => ?_) (fun hc => ?_)
  · have e1 : q1 = false := by rw [← hq1]; exact decide_eq_false (by omega)
    have e2 : q2 = false := by rw [← hq2]; exact decide_eq_false (by omega)
    rw [e1, e2] at hc
    cases hc
  · refine W_skip ?_
    refine W_rs ?_
    refine WR_v (y_build5 rfl (by kernel_rfl)) rfl <| WR_a 2 rfl <| WR_k [1, 3] rfl ?_
    refine W_sto (σ' := [some (.cells 91 kindP)]) rfl ?_
    refine W_sealPtr 3 0 0 rfl rfl ?_
    refine W_ren [] (.cons 1 rfl Ren.pure <| .cons 3 rfl (Ren.pure (p := .pin kindP 0)) .nil) .nil rfl rfl ?_
    refine W_drs mixed (by kernel_rfl) (.a 2 rfl <| .v [3, 24] (y_ix (1) rfl (show (0 : Int) ≤ 1 by decide) (show (1 : Int) < 5 by decide) rfl) rfl rfl <| .v [25] (y_ld rfl ((show kindP[1]? = some (strB [110]) from rfl))) rfl rfl <| .a 2 rfl <| .v [28] (y_c rfl (number_can n hn)) rfl rfl <| .v [26, 29] (y_catB rfl rfl rfl (by simp)) rfl rfl <| .a 1 rfl <| .k [2] rfl) ?_
    refine W_ret ?_
    exact ⟨_, _, ResL.of rfl, Pur.pure, rfl⟩
/-- The text of a list of node segments. -/
def txtL : List Nat → List UInt8
  | [] => []
  | n :: l => [110, dig n] ++ (if l = [] then [] else 32 :: txtL l)
def txtK (l : List Nat) (k : Nat) : List UInt8 := ((List.range k).flatMap fun i => (if 0 < i then [32] else []) ++ [110, dig (l.getD i 0)])
theorem txtK_step (l : List Nat) (k : Nat) : txtK l (k + 1) = txtK l k ++ ((if 0 < k then [32] else []) ++ [110, dig (l.getD k 0)]) := by
  unfold txtK
  rw [List.range_succ, List.flatMap_append]
  simp
theorem txtK_len (l : List Nat) (k : Nat) : (txtK l k).length ≤ 3 * k := by
  induction k with
  | zero => simp [txtK]
  | succ k ih => rw [txtK_step]; simp only [List.length_append]; split <;> simp <;> omega
def nodeS (l : List Nat) : List Seg := l.map fun (n : Nat) => (⟨1, (n : Int)⟩ : Seg)
set_option maxRecDepth 10000 in
set_option maxHeartbeats 1000000 in
theorem tlist_can (l : List Nat) (hl : ∀ n ∈ l, n < 10) (hll : l.length ≤ 1000) : Can Try.prog 29 [segsV (nodeS l)] (· = strB (txtK l l.length)) := by
  have hsl : (nodeS l).length = l.length := by simp [nodeS]
  refine can_of Try.func29 rfl Try.ntmps29 rfl ?_
  refine W_cs (.a 1 rfl <| .k [0] rfl) ?_
  refine W_cs (.a 1 rfl <| .k [0, 3] rfl) ?_
  refine W_seq ?_
  refine W_cs (.a 1 rfl <| .k [0, 3, 4] rfl) ?_
  refine W_block ?_
  refine W_k [0, 3, 4] rfl ?_
  refine W_loop (fun r st => ∃ k : Nat, k ≤ l.length ∧ r = l.length - k ∧ st = ⟨[(0, segsV (nodeS l)), (3, strB (txtK l k)), (4, num k)], []⟩) l.length ⟨0, by omega, by omega, rfl⟩ ?_
  rintro r st ⟨k, hk, rfl, rfl⟩
  have htl := txtK_len l k
  refine W_seq ?_
  refine W_cs (.a 4 rfl <| .k [0, 3, 4, 8] rfl) ?_
  refine W_cond rfl (fun h1 => ?_) (fun h1 => ?_)
  · have hlt : k < l.length := by have := tt h1; omega
    have hg : (nodeS l)[k]? = some ⟨1, ((l.getD k 0 : Nat) : Int)⟩ := by simp [nodeS, hlt]
    have h10 := hl _ (getD_mem (d := 0) hlt)
    have hst := txtK_step l k
    refine W_skip ?_
    refine W_seq ?_
    refine W_block ?_
    refine W_seq ?_
    refine W_cs (.a 2 rfl <| .v (y_ix ((k * 2)) rfl) rfl <| .v (y_la rfl (segs_drop _ k _ hg) rfl) rfl <| .c rfl (stext_can _ h10) rfl <| .v (y_strEql (q := false) rfl rfl rfl (bytes_no _ _)) rfl <| .k [0, 3, 4, 16] rfl) ?_
    refine W_cond rfl (fun hc => ?_) (fun hc => ?_)
    · cases hc
    · refine W_skip ?_
      refine W_seq ?_
      refine W_cs (.a 2 rfl <| .k [0, 3, 4, 18] rfl) ?_
      refine W_cond rfl (fun h2 => ?_) (fun h2 => ?_)
      · have h3 : 0 < k := by have := tt h2; omega
        rw [if_pos h3] at hst
        refine W_chain (.a 1 rfl <| .v (y_catB (b := [32]) rfl rfl rfl (by simp; omega)) rfl <| .a 1 rfl <| .k [0, 3, 4] rfl) ?_
        refine W_chain (.a 3 rfl <| .v (y_ix ((k * 2)) rfl) rfl <| .v (y_la rfl (segs_drop _ k _ hg) rfl) rfl <| .c rfl (stext_can _ h10) rfl <| .v (y_catB rfl rfl rfl (by simp; omega)) rfl <| .a 1 rfl <| .k [0, 3, 4] rfl) ?_
        refine W_chain (.a 1 rfl <| .v (y_ar rfl) rfl <| .a 1 rfl <| .k [0, 3, 4] rfl) ?_
        refine ⟨l.length - (k + 1), by omega, k + 1, by omega, rfl, ?_⟩
        rw [hst]
        first
          | rfl
          | (rw [← List.append_assoc]; rfl)
          | (rw [List.nil_append]; rfl)
      · have h3 : ¬ 0 < k := by have := ff h2; omega
        rw [if_neg h3] at hst
        refine W_skip ?_
        refine W_chain (.a 3 rfl <| .v (y_ix ((k * 2)) rfl) rfl <| .v (y_la rfl (segs_drop _ k _ hg) rfl) rfl <| .c rfl (stext_can _ h10) rfl <| .v (y_catB rfl rfl rfl (by simp; omega)) rfl <| .a 1 rfl <| .k [0, 3, 4] rfl) ?_
        refine W_chain (.a 1 rfl <| .v (y_ar rfl) rfl <| .a 1 rfl <| .k [0, 3, 4] rfl) ?_
        refine ⟨l.length - (k + 1), by omega, k + 1, by omega, rfl, ?_⟩
        rw [hst]
        first
          | rfl
          | (rw [← List.append_assoc]; rfl)
          | (rw [List.nil_append]; rfl)
  · have hke : k = l.length := by have := ff h1; omega
    subst hke
    refine W_exit ?_
    refine W_cs (.a 2 rfl <| .k [2] rfl) ?_
    refine W_ret ?_
    exact ⟨_, _, ResL.of rfl, Pur.pure, rfl⟩
end PW
end Go.Proofs.Ytkgepjiebihodaa

/- New results of calls that read rows of their caller's; the examples of layer 28. -/
namespace Go.Proofs.Ytkgepjiebihodaa
set_option linter.unusedVariables false
set_option linter.unusedSimpArgs false
namespace PW
open Go.RowKit Reg Mem Net

section
variable {P : Program} {σ : Sto} {t : Tms} {o : Oper}
theorem own_new {base : Nat} {σ1 : Sto} {E1 E : Env} {w : World} (hS : Sat (fun _ => False) base σ1 E1 w) {i e s n : Nat} {xs : List PV} (hi : σ1[i]? = some (some (.row e s n xs))) {v : Value} (hv : Rep E1 w v (.own i)) [hx : IsFlatL xs] (hE : ∀ b, E.M b → b < base) : Rep E w v (.slice n xs) := by
  cases hv with
  | own _ hiL _ h _ =>
    obtain ⟨cs, k1, k2⟩ := hS.blk i _ hi
    rw [h] at k1
    have k3 := k1
    rcases k1.2 with ⟨rfl, h0⟩ | ⟨b, cap, cur, rfl, hb, hg, hn, hc, hs', ht⟩
    · subst h0
      have : xs = [] := by
        have := k3.1; simp at this; subst this
        exact List.eq_nil_of_length_eq_zero k2.1.symm
      subst this
      exact .nils
    · by_cases h0 : n = 0
      · subst h0
        have : xs = [] := by
          have := k3.1; simp at this; subst this
          exact List.eq_nil_of_length_eq_zero k2.1.symm
        subst this
        exact .empty _ _ hc
      · refine .slice b 0 n cap cs xs (by omega) hn hc (Array.getElem?_eq_some_iff.1 hg).1 (fun hM => by have := hE b hM; omega) (fun j x hx => ?_) k2.1 (fun j x u h1 h2 => (hx.out j u h2).out _ _ _ _ _ (k2.2 j x u h1 h2))
        have := k3.cells (g := b) rfl j x hx
        rw [Addr.add_lit] at this
        exact this
/-- A call that only reads local blocks; its result is a row of its own making. -/
theorem y_cF {Φ : Fac} [hP : Has P Φ] {f n : Nat} {ps qs xs : List PV} {z : Value} (h : callK Φ t o.op = some (f, ps)) (hq : PurL σ ps qs) (hc : CanS P f qs [] (fun r σ1 => ∃ i e s, r = .tuple [.own i, .raw z] ∧ σ1[i]? = some (some (.row e s n xs)))) [hx : IsFlatL xs] : Yield P σ t o (.tuple [.slice n xs, .raw z]) := by
  obtain ⟨x, args, ats, cap, ps', ho, hf, hx', ha, rfl⟩ := callK_spec hP.ok h
  intro F base E ρ w hρ hS hT
  have h1 := evalO_rep hρ hT hx'
  have h2 := evalL_rep hρ hT ha
  generalize hz : ρ x = z at h1
  cases h1 with
  | func _ cs _ hl hr =>
    rw [run_callValue hf ho hz w]
    refine ⟨Ext.refl _, ?_⟩
    have h3 : RepL E w (args.map ρ ++ cs).toList (ps' ++ cap) := by
      rw [Array.toList_append, Array.toList_map]
      exact h2.append ⟨by simpa using hl, fun i x u k1 k2 => hr i x u (by simpa using k1) k2⟩
    refine (hc (fun _ => False) w.heap.size (EF fun _ => False) w _ (Sat.start _ w (fun _ h => h.elim) (hS.gl.sub fun _ h => h.elim)) (hq.rep hS (fun _ h => h.elim) (fun _ h => h.elim) h3)).mono ?_
    rintro e w' ⟨v, r, σ1, E1, rfl, ⟨i, e, s, rfl, hi⟩, hS1, _, hb, hv⟩
    refine ⟨_, rfl, hb, ?_⟩
    cases hv with
    | tuple vs _ hl hr =>
      refine .tuple vs _ hl (fun j c u k1 k2 => ?_)
      match j, k2 with
      | 0, k2 =>
        simp at k2
        subst k2
        exact own_new hS1 hi (hr 0 c _ k1 rfl) (fun b hb => hS.lt hb)
      | 1, k2 =>
        simp at k2
        subst k2
        have := hr 1 c _ k1 rfl
        cases this
        exact .raw _
      | _ + 2, k2 => simp at k2
theorem CanS.nils {f : FuncId} {a : PV} {l : List PV} {R : PV → Sto → Prop} (h : CanS P f (a :: boolsV [] :: l) σ R) : CanS P f (a :: .raw (.slice none 0 0) :: l) σ R := fun F base E w vs hS hR => by
  refine h F base E w vs hS ⟨hR.1, fun i c u h1 h2 => ?_⟩
  match i, h2 with
  | 0, h2 => exact hR.2 0 c u h1 h2
  | 1, h2 =>
    simp at h2
    subst h2
    have := hR.2 1 c _ h1 rfl
    cases this
    exact .nils
  | i + 2, h2 => exact hR.2 (i + 2) c u h1 h2
end
set_option maxRecDepth 10000 in
set_option maxHeartbeats 2000000 in
theorem elistS_can (T : Topo) (D : List Bool) (p : List Int) (n : Int) (he : folE T D n p = 0) (hp : p.length ≤ 1000) (hlk : T.links.length ≤ 256) (h12 : T.nodes ≤ 12) : CanS Try.prog 17 [topoV T, boolsV D, intsV p, num n] [] (fun r σ1 => r = .tuple [.own 5, num 0] ∧ σ1[5]? = some (srow (lstL T D n p))) := by
  refine canS_of Try.func17 rfl Try.ntmps17 rfl ?_
  refine W_cs (.a 3 rfl <| .k [1, 2, 3, 4] rfl) ?_
  refine W_scope ?_
  refine W_rs ?_
  refine WR_a 4 rfl <| WR_cS rfl rfl (CanS.mono (follow_one T D p n hp hlk) (fun r σ' h => ?_))
  obtain ⟨x, rfl, hx⟩ := h
  refine WR_a 5 rfl <| WR_k [2, 4, 10, 11] rfl ?_
  refine W_seq ?_
  refine W_cs (.a 2 rfl <| .k [2, 4, 10, 11, 24] rfl) ?_
  refine W_cond rfl (fun hc => ?_) (fun hc => ?_)
  · exact absurd he (tt hc)
  · obtain ⟨rfl, rfl⟩ := hx he
    have hF := fol_of he
    have hv := hF.valid
    have hS := sound_of hv
    have hN := hS.nodes
    have ha := hF.arcs
    obtain ⟨N, hNN⟩ : ∃ N : Nat, T.nodes = (N : Int) := ⟨T.nodes.toNat, by omega⟩
    rw [he]
    clear hc
    refine W_skip ?_
    refine W_cs (.a 1 rfl <| .k [2, 4, 10, 12] rfl) ?_
    refine W_adopt 12 56 2 rfl ?_
    refine W_cs (.a 1 rfl <| .k [2, 4, 10, 12, 13] rfl) ?_
    refine W_seq ?_
    refine W_label ?_
    refine W_seq ?_
    refine W_block ?_
    refine W_k [2, 4, 10, 12, 13] rfl ?_
    refine W_loop (fun r st => ∃ (l : List Seg) (i f : Nat) (dm : List (Int × PV)) (um : List ((Int × Int) × PV)), i ≤ p.length ∧ p.length - i ≤ f ∧ l.length ≤ i ∧ r = p.length - i ∧ lstL T D n p = l ++ lstF T D n p f i ∧ MemD T D dm ∧ MemU T D um ∧ st = ⟨[(2, intsV p), (4, .pin (topoP T) 0), (10, .ptr 4 0), (12, .own 5), (13, num i)], trk T D p (ndL T n p) (csL T p) dm um ++ [srow l]⟩) p.length ⟨[], 0, p.length, [], [], by omega, by omega, by simp, by omega, rfl, (fun _ _ h => by cases h), (fun _ _ h => by cases h), rfl⟩ ?_
    rintro r st ⟨l, i, f, dm, um, hi, hif, hli, rfl, hl, hdm, hum, rfl⟩
    refine W_seq ?_
    refine W_cs (.a 4 rfl <| .k [2, 4, 10, 12, 13, 29] rfl) ?_
    refine W_cond rfl (fun h1 => ?_) (fun h1 => ?_)
    · have hlt : i < p.length := by have := tt h1; omega
      refine W_skip ?_
      refine W_block ?_
      refine W_seq ?_
      obtain ⟨m, hm⟩ : ∃ m : Nat, min (p.length : Int) ((i : Int) + (N : Int) - 1) = (m : Int) := ⟨(min (p.length : Int) ((i : Int) + (N : Int) - 1)).toNat, by omega⟩
      have hfar : ∀ k, m < k → k ≤ p.length → covB T D n p i k = false := fun k h2 h3 => by
        cases hcv : covB T D n p i k with
        | false => rfl
        | true =>
          have := cov_far hF (i := i) (j := k) (by omega) h3 hcv
          omega
      refine W_cs (.a 4 rfl <| .v (y_ld rfl ((show some (num T.nodes) = some (num (N : Int)) by rw [hNN]))) rfl <| .v (y_ar rfl) rfl <| .v (y_ar rfl) rfl <| .v (y_min rfl rfl rfl (hm)) rfl <| .a 1 rfl <| .k [2, 4, 10, 12, 13, 14] rfl) ?_
      refine W_block ?_
      refine W_k [2, 4, 10, 12, 13, 14] rfl ?_
      refine W_loop (fun r st => ∃ (j : Nat) (dm : List (Int × PV)) (um : List ((Int × Int) × PV)), i ≤ j ∧ j ≤ p.length ∧ r = j ∧ (∀ k, j < k → k ≤ p.length → covB T D n p i k = false) ∧ MemD T D dm ∧ MemU T D um ∧ st = ⟨[(2, intsV p), (4, .pin (topoP T) 0), (10, .ptr 4 0), (12, .own 5), (13, num i), (14, num j)], trk T D p (ndL T n p) (csL T p) dm um ++ [srow l]⟩) m ⟨m, dm, um, by omega, by omega, rfl, hfar, hdm, hum, rfl⟩ ?_
      clear hdm hum
      rintro r st ⟨j, dm, um, hij, hj, rfl, hno, hdm, hum, rfl⟩
      refine W_seq ?_
      refine W_cs (.a 3 rfl <| .k [2, 4, 10, 12, 13, 14, 40] rfl) ?_
      refine W_cond rfl (fun h2 => ?_) (fun h2 => ?_)
      · have hlt2 : i < r := by have := tt h2; omega
        refine W_skip ?_
        refine W_seq ?_
        refine W_block ?_
        refine W_rs ?_
        refine WR_a 3 rfl <| WR_cS rfl rfl (CanS.mono (covered_can T D p n dm um (srow l) (srow_pure l) hv hF.fits h12 hF.node ha hp i r (by omega) hj hdm hum) (fun _ σ' h => ?_))
        obtain ⟨rfl, dm1, um1, hdm1, hum1, rfl⟩ := h
        refine WR_k [2, 4, 10, 12, 13, 14, 46] rfl ?_
        refine W_cond rfl (fun h3 => ?_) (fun h3 => ?_)
        · have hgj := ndL_get T n p r hj
          have hl1 := ndL_len T n p
          refine W_rs ?_
          refine WR_a 6 rfl <| WR_v (y_ix (r) rfl) rfl <| WR_v (y_ld rfl ((ints_get _ r (by omega)).trans (by rw [hgj]))) rfl <| WR_a 2 rfl <| WR_l (l_append rfl (fok.rk.get rfl) rfl rfl rfl rfl (by unfold maxLen; omega)) rfl <| WR_a 1 rfl ?_
          refine WR_ren [0, 1, 2, 3, 4, 6] (.c 2 <| .c 4 <| .c 10 <| .c 12 <| .c 14 <| .nil) (.kept rfl (.row RenL.pure) <| .kept rfl (.row RenL.pure) <| .same (MemD.pure hdm1) rfl <| .same (MemU.pure hum1) rfl <| .kept rfl (.cells (RenL.c <| RenL.c <| RenL.c <| RenL.c <| RenL.c <| RenL.c <| RenL.c <| RenL.c <| RenL.c <| RenL.nil)) <| .kept rfl (.rowP rfl (segsP_snoc _ ⟨1, endL T n (p.take r)⟩)) <| .nil) rfl rfl (WR_nil ?_)
          refine W_cs (.a 2 rfl <| .k [2, 4, 10, 12, 13] rfl) ?_
          refine W_exit ?_
          cases f with
          | zero => omega
          | succ f =>
            first
              | (refine ⟨p.length - r, by omega, l ++ [⟨1, endL T n (p.take r)⟩], r, f, dm1, um1, by omega, by omega, by simp; omega, rfl, ?_, hdm1, hum1, ?_⟩
                 · rw [hl, lst_some hlt hlt2 hj h3 hno, List.append_assoc]; rfl
                 · unfold srow; simp only [List.length_append, List.length_singleton]; rfl)
              | (refine ⟨p.length - (i + 1), by omega, l ++ [⟨2, p.getD i 0⟩], i + 1, f, dm, um, by omega, by omega, by simp; omega, rfl, ?_, hdm, hum, ?_⟩
                 · rw [hl, lst_none hlt hno2, List.append_assoc]; rfl
                 · unfold srow; simp only [List.length_append, List.length_singleton]; rfl)
        · skip
          refine W_skip ?_
          refine W_chain (.a 1 rfl <| .v (y_ar rfl) rfl <| .a 1 rfl <| .k [2, 4, 10, 12, 13, 14] rfl) ?_
          refine ⟨r - 1, by omega, r - 1, dm1, um1, by omega, by omega, rfl, fun k h4 h5 => ?_, hdm1, hum1, ?_⟩
          · by_cases e : k = r
            · rw [e]; exact h3
            · exact hno k (by omega) h5
          · rw [show ((r - 1 : Nat) : Int) = (r : Int) - 1 by omega]
      · have hno2 : ∀ k, i < k → k ≤ p.length → covB T D n p i k = false := fun k h3 h4 => hno k (by have := ff h2; omega) h4
        refine W_exit ?_
        refine W_rs ?_
        refine WR_a 3 rfl <| WR_v (y_ix (i) rfl) rfl <| WR_v (y_ld rfl (ints_get _ i hlt)) rfl <| WR_a 2 rfl <| WR_l (l_append rfl (fok.rk.get rfl) rfl rfl rfl rfl (by unfold maxLen; omega)) rfl <| WR_a 1 rfl ?_
        refine WR_ren [0, 1, 2, 3, 4, 6] (.c 2 <| .c 4 <| .c 10 <| .c 12 <| .c 13 <| .nil) (.kept rfl (.row RenL.pure) <| .kept rfl (.row RenL.pure) <| .same (MemD.pure hdm) rfl <| .same (MemU.pure hum) rfl <| .kept rfl (.cells (RenL.c <| RenL.c <| RenL.c <| RenL.c <| RenL.c <| RenL.c <| RenL.c <| RenL.c <| RenL.c <| RenL.nil)) <| .kept rfl (.rowP rfl (segsP_snoc _ ⟨2, p.getD i 0⟩)) <| .nil) rfl rfl (WR_nil ?_)
        refine W_chain (.a 1 rfl <| .v (y_ar rfl) rfl <| .a 1 rfl <| .k [2, 4, 10, 12, 13] rfl) ?_
        cases f with
        | zero => omega
        | succ f =>
          first
            | (refine ⟨p.length - r, by omega, l ++ [⟨1, endL T n (p.take r)⟩], r, f, dm1, um1, by omega, by omega, by simp; omega, rfl, ?_, hdm1, hum1, ?_⟩
               · rw [hl, lst_some hlt hlt2 hj h3 hno, List.append_assoc]; rfl
               · unfold srow; simp only [List.length_append, List.length_singleton]; rfl)
            | (refine ⟨p.length - (i + 1), by omega, l ++ [⟨2, p.getD i 0⟩], i + 1, f, dm, um, by omega, by omega, by simp; omega, rfl, ?_, hdm, hum, ?_⟩
               · rw [hl, lst_none hlt hno2, List.append_assoc]; rfl
               · unfold srow; simp only [List.length_append, List.length_singleton]; rfl)
    · have hie : i = p.length := by have := ff h1; omega
      rw [lst_end f i (by omega), List.append_nil] at hl
      refine W_exit ?_
      refine W_cs (.a 3 rfl <| .k [8, 9] rfl) ?_
      refine W_ret ?_
      exact ⟨_, ResL.of rfl, rfl, by rw [hl]; rfl⟩
set_option maxRecDepth 10000 in
set_option maxHeartbeats 1000000 in
theorem slistS_can (T : Topo) (D : List Bool) (p : List Int) (n : Int) (he : folE T D n p = 0) (hp : p.length ≤ 1000) (hlk : T.links.length ≤ 256) (h12 : T.nodes ≤ 12) : CanS Try.prog 12 [topoV T, boolsV D, intsV p, num n] [] (fun r σ1 => ∃ i e s, r = .tuple [.own i, num 0] ∧ σ1[i]? = some (some (.row e s (lstL T [] n p).length (segsP (lstL T [] n p))))) := by
  have hl := CanS.nils (elistS_can T [] p n (folB he) hp hlk h12)
  refine canS_of Try.func12 rfl Try.ntmps12 rfl ?_
  refine W_cs (.a 3 rfl <| .k [1, 2, 3, 4] rfl) ?_
  refine W_seq ?_
  refine W_cs (.a 4 rfl <| .c rfl (scheck_can T D p n hp hlk) rfl <| .a 1 rfl <| .k [2, 3, 4, 10] rfl) ?_
  refine W_cs (.a 2 rfl <| .k [2, 3, 4, 10, 17] rfl) ?_
  refine W_cond rfl (fun hc => ?_) (fun hc => ?_)
  · exact absurd he (tt hc)
  · skip
    refine W_skip ?_
    refine W_rs ?_
    refine WR_a 3 rfl <| WR_cS rfl rfl (CanS.mono hl (fun r σ' h => ?_))
    obtain ⟨rfl, hx⟩ := h
    refine WR_a 4 rfl <| WR_k [8, 9] rfl ?_
    refine W_ret ?_
    exact ⟨_, ResL.of rfl, 5, _, _, rfl, hx⟩
end PW
end Go.Proofs.Ytkgepjiebihodaa

/- The laws on lists of segments: awake, large. -/
namespace Go.Proofs.Ytkgepjiebihodaa
set_option linter.unusedVariables false
set_option linter.unusedSimpArgs false
namespace PW
open Go.RowKit Reg Mem Net

def nextC (T : Topo) (D : List Bool) (L : List Int) (m d : Nat) : List Int := if m = d ∨ L.getD m 0 < 0 then [] else passL T D L (L.getD m 0) d (outL T m)
def cntC (T : Topo) (D : List Bool) (L : List Int) (d : Nat) : Nat → Nat → Int
  | 0, m => if m = d then 1 else 0
  | f + 1, m => if m = d then 1 else (nextC T D L m d).foldl (fun c a => min 2 (c + cntC T D L d f (headN T a.toNat).toNat)) 0
theorem cntF_C (T : Topo) (D : List Bool) (d : Nat) : ∀ f m, cntF T D d f m = cntC T D (distL T D d false) d f m
  | 0, m => rfl
  | f + 1, m => by
    simp only [cntF, cntC]
    split
    · rfl
    · exact foldl_congr fun c a _ => by rw [cntF_C T D d f]
def covC (y u : Nat) (c : Int) : Bool := decide ((ringD y).getD u 0 = c) && (decide (nodeE ringT [] (u : Int) (y : Int) = 0) && decide (cntC ringT [] (ringD y) y ((ringD y).getD u 0).toNat u = 1))
theorem cov_ring {p : List Int} {i j u y : Nat} {c : Int} (hu : endL ringT 0 (p.take i) = (u : Int)) (hy : endL ringT 0 (p.take j) = (y : Int)) (h4 : y < 4) (hc : costL ringT (p.take j) - costL ringT (p.take i) = c) : covB ringT [] 0 p i j = covC y u c := by
  unfold covB uniqB cntS dN covC
  rw [hu, hy, hc]
  simp only [Int.toNat_natCast, cntF_C, ring_dist y h4]
theorem c02 : covC 2 0 2 = false := by kernel_rfl
theorem c01 : covC 1 0 1 = true := by kernel_rfl
theorem c12 : covC 2 1 1 = true := by kernel_rfl
theorem c03 : covC 3 0 3 = false := by kernel_rfl
theorem c13 : covC 3 1 2 = false := by kernel_rfl
theorem c23 : covC 3 2 1 = true := by kernel_rfl
theorem ring_lst2 : lstL ringT [] 0 [0, 2] = nodeS [1, 2] := by
  have e01 : covB ringT [] 0 [0, 2] 0 1 = true := (cov_ring (u := 0) (y := 1) (c := 1) (by kernel_rfl) (by kernel_rfl) (by omega) (by kernel_rfl)).trans c01
  have e02 : covB ringT [] 0 [0, 2] 0 2 = false := (cov_ring (u := 0) (y := 2) (c := 2) (by kernel_rfl) (by kernel_rfl) (by omega) (by kernel_rfl)).trans c02
  have e12 : covB ringT [] 0 [0, 2] 1 2 = true := (cov_ring (u := 1) (y := 2) (c := 1) (by kernel_rfl) (by kernel_rfl) (by omega) (by kernel_rfl)).trans c12
  have h1 : lstF ringT [] 0 [0, 2] 2 0 = _ := lst_some (f := 1) (i := 0) (j := 1) (by decide) (by omega) (by decide) e01 (fun k h1 h2 => by
    have : k = 2 := by simp at h2; omega
    subst this; exact e02)
  have h2 : lstF ringT [] 0 [0, 2] 1 1 = _ := lst_some (f := 0) (i := 1) (j := 2) (by decide) (by omega) (by decide) e12 (fun k h1 h2 => by simp at h2; omega)
  show lstF ringT [] 0 [0, 2] 2 0 = _
  rw [h1, h2]
  kernel_rfl
theorem ring_lst3 : lstL ringT [] 0 [0, 2, 4] = nodeS [1, 2, 3] := by
  have e01 : covB ringT [] 0 [0, 2, 4] 0 1 = true := (cov_ring (u := 0) (y := 1) (c := 1) (by kernel_rfl) (by kernel_rfl) (by omega) (by kernel_rfl)).trans c01
  have e02 : covB ringT [] 0 [0, 2, 4] 0 2 = false := (cov_ring (u := 0) (y := 2) (c := 2) (by kernel_rfl) (by kernel_rfl) (by omega) (by kernel_rfl)).trans c02
  have e03 : covB ringT [] 0 [0, 2, 4] 0 3 = false := (cov_ring (u := 0) (y := 3) (c := 3) (by kernel_rfl) (by kernel_rfl) (by omega) (by kernel_rfl)).trans c03
  have e12 : covB ringT [] 0 [0, 2, 4] 1 2 = true := (cov_ring (u := 1) (y := 2) (c := 1) (by kernel_rfl) (by kernel_rfl) (by omega) (by kernel_rfl)).trans c12
  have e13 : covB ringT [] 0 [0, 2, 4] 1 3 = false := (cov_ring (u := 1) (y := 3) (c := 2) (by kernel_rfl) (by kernel_rfl) (by omega) (by kernel_rfl)).trans c13
  have e23 : covB ringT [] 0 [0, 2, 4] 2 3 = true := (cov_ring (u := 2) (y := 3) (c := 1) (by kernel_rfl) (by kernel_rfl) (by omega) (by kernel_rfl)).trans c23
  have h1 : lstF ringT [] 0 [0, 2, 4] 3 0 = _ := lst_some (f := 2) (i := 0) (j := 1) (by decide) (by omega) (by decide) e01 (fun k h1 h2 => by
    have : k = 2 ∨ k = 3 := by simp at h2; omega
    rcases this with rfl | rfl
    · exact e02
    · exact e03)
  have h2 : lstF ringT [] 0 [0, 2, 4] 2 1 = _ := lst_some (f := 1) (i := 1) (j := 2) (by decide) (by omega) (by decide) e12 (fun k h1 h2 => by
    have : k = 3 := by simp at h2; omega
    subst this; exact e13)
  have h3 : lstF ringT [] 0 [0, 2, 4] 1 2 = _ := lst_some (f := 0) (i := 2) (j := 3) (by decide) (by omega) (by decide) e23 (fun k h1 h2 => by simp at h2; omega)
  show lstF ringT [] 0 [0, 2, 4] 3 0 = _
  rw [h1, h2, h3]
  kernel_rfl
end PW
end Go.Proofs.Ytkgepjiebihodaa

/- The examples of layer 28, walked. -/
namespace Go.Proofs.Ytkgepjiebihodaa
set_option linter.unusedVariables false
set_option linter.unusedSimpArgs false
namespace PW
open Go.RowKit Reg Mem Net

def maskL : List Bool := [true, true, false, false, false, false, false, false]
def ring5L : List Lnk := ⟨0, 1, 5, 5, 0, 1, 0⟩ :: (ringL 4).drop 1
def ring5T : Topo := ⟨4, [], ring5L⟩
theorem ring5_valid : validB ring5T = true := by kernel_rfl
def dist5B (n : Nat) (out : List Int) : Bool :=
  decide (out.length = 4) && decide (at' out (n : Int) = 0) && (List.range 4).all (fun x => decide (0 ≤ at' out (x : Int))) &&
  (List.range 8).all (fun a => !wayB ring5T n out a || (decide (0 ≤ at' out (arcX ring5T false a)) && decide (at' out (arcX ring5T false a) ≤ at' out (arcY ring5T false a) + costN ring5T a))) &&
  (List.range 4).all (fun x => decide (x = n) || (List.range 8).any fun a => decide (arcX ring5T false a = (x : Int)) && wayB ring5T n out a && decide (at' out (x : Int) = at' out (arcY ring5T false a) + costN ring5T a))
theorem way5_iff (n : Nat) (out : List Int) (a : Nat) : Net.Way ring5T [] n false out a ↔ wayB ring5T n out a = true := by
  unfold Net.Way wayB
  have : downN [] a = false := by simp [downN]
  simp [this]
theorem dist5_of {n : Nat} {out : List Int} (h : dist5B n out = true) : IsDist ring5T [] n false out := by
  simp only [dist5B, Bool.and_eq_true, decide_eq_true_eq, List.all_eq_true, List.mem_range, Bool.or_eq_true, Bool.not_eq_true', List.any_eq_true] at h
  obtain ⟨⟨⟨⟨h1, h2⟩, h3⟩, h4⟩, h5⟩ := h
  refine ⟨by rw [h1]; rfl, h2, fun x hx => ?_, fun a ha hw => ?_, fun x hx _ => ?_⟩
  · have := h3 x (by have : ring5T.nodes = 4 := rfl; omega); omega
  · rcases h4 a (by have : ring5T.links.length = 4 := rfl; omega) with h | h
    · rw [(way5_iff n out a).1 hw] at h; cases h
    · exact h
  · rcases h5 x (by have : ring5T.nodes = 4 := rfl; omega) with h | ⟨a, ha, ⟨h6, h7⟩, h8⟩
    · exact .inl h
    · exact .inr ⟨a, by have : ring5T.links.length = 4 := rfl; omega, h6, (way5_iff n out a).2 h7, h8⟩
theorem ring5_dist : distL ring5T [] 1 false = [3, 0, 1, 2] := distL_eq (sound_of ring5_valid) (dist5_of (show dist5B 1 [3, 0, 1, 2] = true by kernel_rfl))
def cov5 (L : List Int) (y u : Nat) (c : Int) : Bool := decide (L.getD u 0 = c) && (decide (nodeE ring5T [] (u : Int) (y : Int) = 0) && decide (cntC ring5T [] L y (L.getD u 0).toNat u = 1))
theorem cov_ring5 : covB ring5T [] 0 [7, 5, 3] 0 3 = true := by
  have hu : endL ring5T 0 ([7, 5, 3].take 0) = ((0 : Nat) : Int) := by kernel_rfl
  have hy : endL ring5T 0 ([7, 5, 3].take 3) = ((1 : Nat) : Int) := by kernel_rfl
  have hc : costL ring5T ([7, 5, 3].take 3) - costL ring5T ([7, 5, 3].take 0) = 3 := by kernel_rfl
  unfold covB uniqB cntS dN
  rw [hu, hy, hc]
  simp only [Int.toNat_natCast, cntF_C, ring5_dist]
  exact (show cov5 [3, 0, 1, 2] 1 0 3 = true by kernel_rfl)
theorem ring_lstA : lstL ringT [] 0 [7, 5, 3] = nodeS [3, 2, 1] := by
  have e01 : covB ringT [] 0 [7, 5, 3] 0 1 = true := (cov_ring (u := 0) (y := 3) (c := 1) (by kernel_rfl) (by kernel_rfl) (by omega) (by kernel_rfl)).trans (show covC 3 0 1 = true by kernel_rfl)
  have e02 : covB ringT [] 0 [7, 5, 3] 0 2 = false := (cov_ring (u := 0) (y := 2) (c := 2) (by kernel_rfl) (by kernel_rfl) (by omega) (by kernel_rfl)).trans (show covC 2 0 2 = false by kernel_rfl)
  have e03 : covB ringT [] 0 [7, 5, 3] 0 3 = false := (cov_ring (u := 0) (y := 1) (c := 3) (by kernel_rfl) (by kernel_rfl) (by omega) (by kernel_rfl)).trans (show covC 1 0 3 = false by kernel_rfl)
  have e12 : covB ringT [] 0 [7, 5, 3] 1 2 = true := (cov_ring (u := 3) (y := 2) (c := 1) (by kernel_rfl) (by kernel_rfl) (by omega) (by kernel_rfl)).trans (show covC 2 3 1 = true by kernel_rfl)
  have e13 : covB ringT [] 0 [7, 5, 3] 1 3 = false := (cov_ring (u := 3) (y := 1) (c := 2) (by kernel_rfl) (by kernel_rfl) (by omega) (by kernel_rfl)).trans (show covC 1 3 2 = false by kernel_rfl)
  have e23 : covB ringT [] 0 [7, 5, 3] 2 3 = true := (cov_ring (u := 2) (y := 1) (c := 1) (by kernel_rfl) (by kernel_rfl) (by omega) (by kernel_rfl)).trans (show covC 1 2 1 = true by kernel_rfl)
  have h1 : lstF ringT [] 0 [7, 5, 3] 3 0 = _ := lst_some (f := 2) (i := 0) (j := 1) (by decide) (by omega) (by decide) e01 (fun k h1 h2 => by
    have : k = 2 ∨ k = 3 := by simp at h2; omega
    rcases this with rfl | rfl
    · exact e02
    · exact e03)
  have h2 : lstF ringT [] 0 [7, 5, 3] 2 1 = _ := lst_some (f := 1) (i := 1) (j := 2) (by decide) (by omega) (by decide) e12 (fun k h1 h2 => by
    have : k = 3 := by simp at h2; omega
    subst this; exact e13)
  have h3 : lstF ringT [] 0 [7, 5, 3] 1 2 = _ := lst_some (f := 0) (i := 2) (j := 3) (by decide) (by omega) (by decide) e23 (fun k h1 h2 => by simp at h2; omega)
  show lstF ringT [] 0 [7, 5, 3] 3 0 = _
  rw [h1, h2, h3]
  kernel_rfl
theorem ring_lstB : lstL ring5T [] 0 [7, 5, 3] = nodeS [1] := by
  have h1 : lstF ring5T [] 0 [7, 5, 3] 3 0 = _ := lst_some (f := 2) (i := 0) (j := 3) (by decide) (by omega) (by decide) cov_ring5 (fun k h1 h2 => by simp at h2; omega)
  show lstF ring5T [] 0 [7, 5, 3] 3 0 = _
  rw [h1, lst_end _ _ (by decide)]
  kernel_rfl
set_option maxRecDepth 10000 in
set_option maxHeartbeats 1000000 in
theorem square_can : CanS Try.prog 28 [] [] (fun r σ1 => r = .tuple [.agg [num 4, .raw (.slice none 0 0), .own 2], boolsV maskL] ∧ ∃ a b, σ1 = [a, b, some (.row 52 7 4 (lnksP (ringL 4)))]) := by
  refine canS_of Try.func28 rfl Try.ntmps28 rfl ?_
  refine W_rs ?_
  refine WR_a 2 rfl <| WR_k [0] rfl ?_
  refine W_rs ?_
  refine WR_a 3 rfl <| WR_k [0, 2] rfl ?_
  refine W_adoptCell 1 2 52 7 rfl rfl ?_
  refine W_seq ?_
  refine W_cs (.a 1 rfl <| .k [0, 2, 5] rfl) ?_
  refine W_block ?_
  refine W_k [0, 2, 5] rfl ?_
  refine W_loop (fun r s => ∃ k, k ≤ 4 ∧ r = 4 - k ∧ s = ⟨[(0, .ptr 0 0), (2, .ptr 1 0), (5, num k)], [some (.cells 25 [num 0, .raw (.slice none 0 0), .raw (.slice none 0 0)]), some (.cells 25 [num 4, .raw (.slice none 0 0), .own 2]), some (.row 52 7 k (lnksP (ringL k)))]⟩) 4 ⟨0, by omega, by omega, rfl⟩ ?_
  rintro r s ⟨k, hk, rfl, rfl⟩
  refine W_cs (.a 1 rfl <| .k [0, 2, 5, 6] rfl) ?_
  refine W_seq ?_
  refine W_cond rfl (fun hc => ?_) (fun hc => ?_)
  · have hlt : k < 4 := by have := of_decide_eq_true hc; omega
    refine W_skip ?_
    refine W_seq ?_
    refine W_block ?_
    refine W_cs (.a 2 rfl <| .k [0, 2, 3, 5] rfl) ?_
    refine W_region ?_
    refine WR_a 4 rfl <| WR_v (y_ar rfl) rfl <| WR_v (y_rem rfl rfl rfl (by decide) ((show ((k : Int) + 1).tmod 4 = (((k + 1) % 4 : Nat) : Int) by rw [Int.tmod_eq_emod_of_nonneg (by omega)]; omega))) rfl <| WR_v (y_build2 rfl (show Try.prog.built 50 [(0, .int .i64 1), (1, .int .i64 1)] = some #[.int .i64 1, .int .i64 1] by kernel_rfl)) rfl <| WR_a 2 rfl <| WR_l (l_append rfl (fok.rk.get rfl) rfl rfl rfl rfl (by unfold maxLen; omega)) rfl <| WR_a 2 rfl ?_
    refine WR_ren [0, 1, 3] (.c 0 <| .c 2 <| .c 5 <| .nil) (.kept rfl (.cells (RenL.c <| RenL.c <| RenL.c <| RenL.nil)) <| .kept rfl (.cells (RenL.c <| RenL.c <| RenL.c <| RenL.nil)) <| .kept rfl (.rowP rfl (show _ = lnksP (ringL (k + 1)) by rw [ringL_step]; exact lnksP_snoc _ ⟨(k : Int), (((k + 1) % 4 : Nat) : Int), 1, 1, 0, 1, 0⟩)) <| .nil) rfl rfl (WR_nil ?_)
    refine W_chain (.v (y_ar rfl) rfl <| .a 1 rfl <| .k [0, 2, 5] rfl) ?_
    exact ⟨4 - (k + 1), by omega, k + 1, by omega, rfl, rfl⟩
  · have hke : k = 4 := by have := of_decide_eq_false hc; omega
    subst hke
    refine W_exit ?_
    refine W_rs ?_
    refine WR_a 4 rfl <| WR_k [0, 1] rfl ?_
    refine W_ret ?_
    exact ⟨_, ResL.of rfl, rfl, _, _, rfl⟩
instance (l : List Seg) : IsFlatL (segsP l) := ⟨fun i u h => by
  obtain ⟨s, _, hs⟩ := List.mem_flatMap.1 (List.mem_of_getElem? h)
  simp only [segP, List.mem_cons, List.not_mem_nil, or_false] at hs
  rcases hs with rfl | rfl
  · infer_instance
  · infer_instance⟩
set_option maxRecDepth 10000 in
set_option maxHeartbeats 1000000 in
theorem awake28_can : Can Try.prog 10 [] (· = flag true) := by
  have hlA := slistS_can ringT maskL [7, 5, 3] 0 (by kernel_rfl) (by decide) (by decide) (by decide)
  rw [ring_lstA] at hlA
  have hlB := slistS_can ring5T maskL [7, 5, 3] 0 (by kernel_rfl) (by decide) (by decide) (by decide)
  rw [ring_lstB] at hlB
  have htA := tlist_can [3, 2, 1] (by decide) (by decide)
  have htB := tlist_can [1] (by decide) (by decide)
  refine can_of Try.func10 rfl Try.ntmps10 rfl ?_
  refine W_cs (.a 1 rfl <| .k [] rfl) ?_
  refine W_rs ?_
  refine WR_cS rfl rfl (CanS.mono square_can (fun r σ' h => ?_))
  obtain ⟨rfl, a, b, rfl⟩ := h
  refine WR_a 6 rfl <| WR_k [1, 2] rfl ?_
  refine W_ren [2, 3] (.c 1 <| .c 2 <| .nil) (.kept rfl (.row RenL.pure) <| .kept rfl (.cells (RenL.c <| RenL.c <| RenL.c <| RenL.nil)) <| .nil) rfl rfl ?_
  refine W_cs (.a 3 rfl <| .v (y_cF rfl (PurL.cons (Pur.aggL (PurL.cons Pur.pure <| PurL.cons Pur.nils <| PurL.cons (Pur.ownL rfl PurL.pure) PurL.nil)) <| PurL.cons Pur.pure <| PurL.cons (Pur.pure (p := intsV [7, 5, 3])) <| PurL.cons Pur.pure PurL.nil) hlA) rfl <| .a 5 rfl <| .k [1, 2, 3, 4] rfl) ?_
  refine W_rs ?_
  refine WR_a 2 rfl <| WR_v (y_build2 rfl (show Try.prog.built 50 [(0, .int .i64 5), (1, .int .i64 5)] = some #[.int .i64 5, .int .i64 5] by kernel_rfl)) rfl <| WR_v (y_ix (0) rfl) rfl <| WR_a 2 rfl <| WR_k [1, 2, 3, 4] rfl ?_
  refine W_sto (σ' := [some (.row 52 7 4 (lnksP ring5L)), some (.cells 25 [num 4, .raw (.slice none 0 0), .own 0])]) rfl ?_
  refine W_cs (.a 3 rfl <| .v (y_cF rfl (PurL.cons (Pur.aggL (PurL.cons Pur.pure <| PurL.cons Pur.nils <| PurL.cons (Pur.ownL rfl PurL.pure) PurL.nil)) <| PurL.cons Pur.pure <| PurL.cons (Pur.pure (p := intsV [7, 5, 3])) <| PurL.cons Pur.pure PurL.nil) hlB) rfl <| .a 5 rfl <| .k [3, 4, 5, 6] rfl) ?_
  refine W_csK 0 (.raw (.bool (true))) [] rfl ?_ ?_
  · exact .a 8 rfl <| .c rfl (htA) rfl <| .v (y_strEql rfl rfl rfl (beq_self_eq_true (ByteArray.toList ⟨[110, 51, 32, 110, 50, 32, 110, 49].toArray⟩))) rfl <| .a 3 rfl <| .c rfl (htB) rfl <| .v (y_strEql rfl rfl rfl (beq_self_eq_true (ByteArray.toList ⟨[110, 49].toArray⟩))) rfl <| .a 2 rfl <| .k [0] rfl
  refine W_ret ?_
  exact ⟨_, _, ResL.of rfl, Pur.pure, rfl⟩
end PW
end Go.Proofs.Ytkgepjiebihodaa

/- The arguments of the laws: segments, entries, tables. -/
namespace Go.Proofs.Ytkgepjiebihodaa
set_option linter.unusedVariables false
set_option linter.unusedSimpArgs false
namespace PW
open Go.RowKit Reg Mem Net
section
variable {H : Type} {enc : TypeId × Value → H} {W : World}
set_option maxRecDepth 10000 in
theorem rd_seg {n : Nat} {cs : List Value} {y : DataW H × List MemPlace} (h : DataW.trod enc Try.prog W 0 (fun _ => true) true n 56 cs = some y) (hl : cs.length = 2) : ∃ s : Seg, RepL EN W cs (segP s) := by
  have c3 : Try.prog.cellsOf 3 = 1 := by kernel_rfl
  obtain ⟨xs, m, _, _, _, hlen, hf⟩ := DataW.trod_struct Try.underlying56 h
  match cs, hl with
  | [c0, c1], _ =>
    match xs, hlen with
    | [y0, y1], _ =>
      have f0 : DataW.trod enc Try.prog W 0 (fun _ => true) true m 3 (([c0, c1].drop 0).take (Try.prog.cellsOf 3)) = some y0 := hf 0 _ rfl
      rw [c3] at f0
      have f1 : DataW.trod enc Try.prog W 0 (fun _ => true) true m 3 (([c0, c1].drop 1).take (Try.prog.cellsOf 3)) = some y1 := hf 1 _ rfl
      rw [c3] at f1
      obtain ⟨a0, h0⟩ := rd_int f0
      obtain ⟨a1, h1⟩ := rd_int f1
      simp at h0 h1
      subst h0 h1
      exact ⟨⟨a0, a1⟩, RepL.cons (.raw _) <| RepL.cons (.raw _) (RepL.nil _ _)⟩
theorem rd_segs {n : Nat} {v : Value} {y : DataW H × List MemPlace} (h : DataW.trod enc Try.prog W 0 (fun _ => true) true n 31 [v] = some y) : ∃ L, Rep EN W v (segsV L) :=
  rd_slice (f := segP) (s := 2) Try.underlying31 (by kernel_rfl) (by omega) (fun n cs y hy hl => rd_seg hy hl) h
end
end PW
end Go.Proofs.Ytkgepjiebihodaa

/- The argument of the laws of layer 20: a case. -/
namespace Go.Proofs.Ytkgepjiebihodaa
set_option linter.unusedVariables false
set_option linter.unusedSimpArgs false
namespace PW
open Go.RowKit Reg Mem Net Go.WideShapes
/-- A case: a topology with a mask, a path from a node, a list of segments. -/
structure Cas where
  T : Topo
  D : List Bool
  n : Int
  p : List Int
  l : List Seg
def casP (c : Cas) : List PV := topoP c.T ++ [boolsV c.D, num c.n, intsV c.p, segsV c.l]
def casV (c : Cas) : PV := .agg (casP c)
instance (c : Cas) : IsPureL (casP c) := by unfold casP; unfold topoP; simp only [List.cons_append, List.nil_append]; infer_instance
instance (c : Cas) : IsPure (casV c) := by unfold casV; infer_instance
section
variable {H : Type} {enc : TypeId × Value → H} {W : World}
set_option maxRecDepth 10000 in
theorem rd_topo3 {n : Nat} {cs : List Value} {y : DataW H × List MemPlace} (h : DataW.trod enc Try.prog W 0 (fun _ => true) true n 25 cs = some y) (hl : cs.length = 3) : ∃ T : Topo, RepL EN W cs (topoP T) := by
  have c0' : Try.prog.cellsOf 3 = 1 := by kernel_rfl
  have c1' : Try.prog.cellsOf 22 = 1 := by kernel_rfl
  have c2' : Try.prog.cellsOf 23 = 1 := by kernel_rfl
  obtain ⟨xs, m, _, _, _, hlen, hf⟩ := DataW.trod_struct Try.underlying25 h
  match cs, hl with
  | [c0, c1, c2], _ =>
    match xs, hlen with
    | [y0, y1, y2], _ =>
      have f0 : DataW.trod enc Try.prog W 0 (fun _ => true) true m 3 (([c0, c1, c2].drop 0).take (Try.prog.cellsOf 3)) = some y0 := hf 0 _ rfl
      rw [c0'] at f0
      have f1 : DataW.trod enc Try.prog W 0 (fun _ => true) true m 22 (([c0, c1, c2].drop 1).take (Try.prog.cellsOf 22)) = some y1 := hf 1 _ rfl
      rw [c1'] at f1
      have f2 : DataW.trod enc Try.prog W 0 (fun _ => true) true m 23 (([c0, c1, c2].drop 2).take (Try.prog.cellsOf 23)) = some y2 := hf 2 _ rfl
      rw [c2'] at f2
      obtain ⟨a, ha⟩ := rd_int f0
      obtain ⟨B, hB⟩ := rd_bools f1
      obtain ⟨L, hL⟩ := rd_slice (f := lnkP) (s := 7) Try.underlying23 (by kernel_rfl) (by omega) (fun n cs y hy hl => rd_link hy hl) f2
      simp at ha
      subst ha
      exact ⟨⟨a, B, L⟩, RepL.cons (.raw _) <| RepL.cons hB <| RepL.cons hL (RepL.nil _ _)⟩
end
end PW
end Go.Proofs.Ytkgepjiebihodaa
