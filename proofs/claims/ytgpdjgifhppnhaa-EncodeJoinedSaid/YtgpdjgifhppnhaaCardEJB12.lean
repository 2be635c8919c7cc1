/- EncodeJoined returns true for every input: the lists of two parts of a path, one after the other, are an exact list of the path, and have together at most one segment more than its list. No conditions. -/
import Derived.Test.YtgpdjgifhppnhaaCardEJB11
/- The law of layer 20 on the lists of two parts, walked. -/
namespace Go.Proofs.Ytgpdjgifhppnhaa
set_option linter.unusedVariables false
set_option linter.unusedSimpArgs false
namespace PW
open Go.RowKit Reg Mem Net

section
variable {T : Topo} {D : List Bool} {n : Int} {p : List Int}
theorem walk_true : ∀ {g : Bool} {x : Int} {l : List Int}, walkE T g x l = 0 → walkE T true x l = 0
  | g, x, [], h => rfl
  | g, x, a :: l, h => by
    simp only [walkE] at h ⊢
    split at h
    · omega
    · rename_i h1
      rw [if_neg h1]
      split at h
      · omega
      · rename_i h2
        rw [if_neg]
        · exact h
        · rintro (h3 | h3)
          · exact h2 (.inl h3)
          · cases h3.1
theorem Fol.take (h : Fol T D n p) (k : Nat) : Fol T D n (p.take k) :=
  ⟨h.valid, h.fits, h.node, (walk_take (l := p.take k) (m := p.drop k) (by rw [List.take_append_drop]; exact h.walk)).1, fun a ha => h.up a (List.mem_of_mem_take ha)⟩
theorem Fol.drop (h : Fol T D n p) {k : Nat} (hk : k ≤ p.length) : Fol T D (endL T n (p.take k)) (p.drop k) := by
  obtain ⟨_, g, hg⟩ := walk_take (l := p.take k) (m := p.drop k) (by rw [List.take_append_drop]; exact h.walk)
  obtain ⟨x, hx, hxN⟩ := end_node h.valid h.node h.arcs k hk
  exact ⟨h.valid, h.fits, by rw [hx]; exact nodeB_iff.2 ⟨by omega, hxN⟩, walk_true hg, fun a ha => h.up a (List.mem_of_mem_drop ha)⟩
theorem cov_take {i j k : Nat} (hi : i ≤ k) (hj : j ≤ k) : covB T D n (p.take k) i j = covB T D n p i j := by
  unfold covB
  rw [List.take_take, List.take_take, Nat.min_eq_left hi, Nat.min_eq_left hj]
theorem take_drop_take (p : List Int) (k i : Nat) : p.take (k + i) = p.take k ++ (p.drop k).take i := List.take_add
theorem cov_drop {i j k : Nat} : covB T D (endL T n (p.take k)) (p.drop k) i j = covB T D n p (k + i) (k + j) := by
  unfold covB
  rw [take_drop_take, take_drop_take, endL_append, endL_append, costL_append, costL_append, show costL T (p.take k) + costL T ((p.drop k).take j) - (costL T (p.take k) + costL T ((p.drop k).take i)) = costL T ((p.drop k).take j) - costL T ((p.drop k).take i) by omega]
theorem gN_drop (h : Fol T D n p) {k : Nat} (hk : k ≤ p.length) : ∀ (f i : Nat), p.length - (k + i) ≤ f → gN T D (endL T n (p.take k)) (p.drop k) i ≤ gN T D n p (k + i)
  | f, i, hf => by
    have hl : (p.drop k).length = p.length - k := by simp
    by_cases hi : k + i < p.length
    · cases f with
      | zero => omega
      | succ f =>
        have hd := h.drop hk
        rcases gN_get (T := T) (D := D) (n := n) hi with h1 | ⟨j, h1, h2, h3, h4⟩
        · have := gN_le hd (show i < (p.drop k).length by omega) (.inl rfl)
          have ih := gN_drop h hk f (i + 1) (by omega)
          rw [show k + (i + 1) = k + i + 1 by omega] at ih
          omega
        · have hc : covB T D (endL T n (p.take k)) (p.drop k) i (j - k) = true := by rw [cov_drop, show k + (j - k) = j by omega]; exact h3
          have := gN_le hd (show i < (p.drop k).length by omega) (.inr ⟨by omega, by omega, hc⟩)
          have ih := gN_drop h hk f (j - k) (by omega)
          rw [show k + (j - k) = j by omega] at ih
          omega
    · rw [gN_end (p := p.drop k) (by omega)]
      exact Nat.zero_le _
theorem gN_take (h : Fol T D n p) {k : Nat} (hk : k ≤ p.length) : ∀ (f i : Nat), i ≤ k → k - i ≤ f → gN T D n (p.take k) i + gN T D n p k ≤ gN T D n p i + 1
  | f, i, hi, hf => by
    have hl : (p.take k).length = k := by simp; omega
    have ht := h.take k
    by_cases hik : i = k
    · subst hik
      rw [gN_end (p := p.take i) (by omega)]
      omega
    · cases f with
      | zero => omega
      | succ f =>
        rcases gN_get (T := T) (D := D) (n := n) (show i < p.length by omega) with h1 | ⟨j, h1, h2, h3, h4⟩
        · have := gN_le ht (show i < (p.take k).length by omega) (.inl rfl)
          have ih := gN_take h hk f (i + 1) (by omega) (by omega)
          omega
        · by_cases hjk : j ≤ k
          · have := gN_le ht (show i < (p.take k).length by omega) (.inr ⟨h1, by omega, by rw [cov_take (by omega) hjk]; exact h3⟩)
            have ih := gN_take h hk f j hjk (by omega)
            omega
          · have c1 := cov_sub h (i := i) (j := j) (i' := i) (j' := k) (Nat.le_refl _) (by omega) (by omega) h2 h3
            have c2 := cov_sub h (i := i) (j := j) (i' := k) (j' := j) (by omega) (by omega) (Nat.le_refl _) h2 h3
            have a1 := gN_le ht (show i < (p.take k).length by omega) (.inr ⟨by omega, (by omega : k ≤ (p.take k).length), by rw [cov_take (by omega) (Nat.le_refl _)]; exact c1⟩)
            rw [gN_end (p := p.take k) (i := k) (by omega)] at a1
            have a2 := gN_le h (show k < p.length by omega) (.inr ⟨by omega, h2, c2⟩)
            omega
/-- Lists one after the other. -/
theorem exp_app (l2 : List Seg) : ∀ (l1 : List Seg) (x : Int), (endsL T x l1).2 = 0 → (expL T D x l1).1 = 0 → (endsL T x (l1 ++ l2)).2 = (endsL T (endL T x (expL T D x l1).2) l2).2 ∧ (expL T D x (l1 ++ l2)).1 = (expL T D (endL T x (expL T D x l1).2) l2).1 ∧ (expL T D x (l1 ++ l2)).2 = (expL T D x l1).2 ++ (expL T D (endL T x (expL T D x l1).2) l2).2
  | [], x, _, _ => ⟨rfl, rfl, rfl⟩
  | s :: l1, x, h1, h2 => by
    obtain ⟨e1, e2, _⟩ := ends_cons h1
    obtain ⟨z1, z2, z3⟩ := end_zero e1
    rw [List.cons_append]
    simp only [endsL, expL] at h2 ⊢
    rw [if_neg (by rw [e1]; simp)]
    split at h2
    · rename_i hk
      rw [if_pos hk]
      split at h2
      · simp at h2
      · rename_i hd
        rw [if_neg hd]
        simp only at h2 ⊢
        obtain ⟨i1, i2, i3⟩ := exp_app l2 l1 _ e2 h2
        have hh : (endS T s x).1 = headN T s.num.toNat := by
          have he : endS T s x = if tailN T s.num.toNat ≠ x then (0, 4) else (headN T s.num.toNat, 0) := by
            unfold endS
            rw [if_neg (by rw [z1]; simp), if_neg (by rw [z2]; simp), if_neg (show ¬ s.kind = 1 by omega), if_pos hk]
          rw [he] at e1 ⊢
          by_cases ht : tailN T s.num.toNat ≠ x
          · rw [if_pos ht] at e1; simp at e1
          · rw [if_neg ht]
        rw [hh] at i1 i2 i3 ⊢
        simp only [endL]
        rw [if_pos hk, if_neg hd]
        simp only
        rw [i1, i2, i3]
        exact ⟨rfl, rfl, rfl⟩
    · rename_i hk
      rw [if_neg hk]
      split at h2
      · rename_i h5; exact absurd h2 h5
      · rename_i h5
        rw [if_neg h5]
        split at h2
        · simp at h2
        · rename_i h6
          rw [if_neg h6]
          simp only at h2 ⊢
          obtain ⟨i1, i2, i3⟩ := exp_app l2 l1 _ e2 h2
          obtain ⟨a, b, ha, hb, _, _, _, hsp⟩ := spE_facts (Classical.byContradiction h5)
          have hfin : endL T x (spathL T D x.toNat (endS T s x).1.toNat) = (endS T s x).1 := by
            rw [hb]
            rw [hb] at hsp
            conv => lhs; arg 2; rw [ha]
            exact hsp.ch.fin
          rw [if_neg hk, if_neg h5, if_neg h6]
          simp only
          rw [endL_append, hfin, i1, i2, i3, List.append_assoc]
          exact ⟨rfl, rfl, rfl⟩
theorem lst_exp (h : Fol T D n p) : (endsL T n (lstL T D n p)).2 = 0 ∧ (expL T D n (lstL T D n p)).1 = 0 ∧ (expL T D n (lstL T D n p)).2 = p := by
  have := (ex_iff h (lstL T D n p) 0 (Nat.zero_le _)).1 (ex_lst h p.length 0 (Nat.zero_le _) (by omega))
  rw [List.take_zero, List.drop_zero] at this
  exact this
/-- The lists of two parts. -/
theorem joined (h : Fol T D n p) {k : Nat} (hk : k ≤ p.length) {L : List Seg} (hL : L = lstL T D n (p.take k) ++ lstL T D (endL T n (p.take k)) (p.drop k)) : exactB T D L n p = true ∧ (lstL T D n p).length ≤ L.length ∧ L.length ≤ (lstL T D n p).length + 1 := by
  obtain ⟨a1, a2, a3⟩ := lst_exp (h.take k)
  obtain ⟨b1, b2, b3⟩ := lst_exp (h.drop hk)
  obtain ⟨c1, c2, c3⟩ := exp_app (T := T) (D := D) (lstL T D (endL T n (p.take k)) (p.drop k)) _ n a1 a2
  rw [a3] at c1 c2 c3
  have hx : exB T D n p 0 L = true := by
    rw [ex_iff h L 0 (Nat.zero_le _), List.take_zero, List.drop_zero, hL]
    simp only [endL]
    rw [c1, c2, c3, b1, b2, b3, List.take_append_drop]
    exact ⟨rfl, rfl, rfl⟩
  have hlen := ex_len h L 0 (Nat.zero_le _) hx
  have hg : gN T D n p 0 = (lstL T D n p).length := rfl
  have g1 := gN_take h hk k 0 (Nat.zero_le _) (by omega)
  have g2 := gN_drop h hk p.length 0 (by omega)
  have g3 : gN T D n (p.take k) 0 = (lstL T D n (p.take k)).length := rfl
  have g4 : gN T D (endL T n (p.take k)) (p.drop k) 0 = (lstL T D (endL T n (p.take k)) (p.drop k)).length := rfl
  have hLl : L.length = (lstL T D n (p.take k)).length + (lstL T D (endL T n (p.take k)) (p.drop k)).length := by rw [hL, List.length_append]
  rw [Nat.add_zero] at g2
  refine ⟨?_, by omega, by omega⟩
  unfold exactB
  rw [if_pos (fol_zero h)]
  exact hx
end
section
variable {P : Program} {σ : Sto} {t : Tms} {o : Oper}
theorem y_partHi {ty e k : Nat} {x hi' : Operand} {L : List Int} (ho : o.op = .slice ty x none (some hi') none) (he : elK P ty = some (e, 1)) (hx : evalO t x = some (intsV L)) (hhi : evalO t hi' = some (num k)) (hk : k ≤ L.length) : Yield P σ t o (intsV (L.take k)) := by
  have := y_sliceHi (σ := σ) ho he hx hhi (by rw [intsP_len]; omega) rfl hk
  have e1 : intsV (L.take k) = .slice k ((intsP L).take (k * 1)) := by
    unfold intsV
    rw [List.length_take, Nat.min_eq_left hk, Nat.mul_one]
    unfold intsP
    rw [List.map_take]
  rw [e1]
  exact this
theorem y_partLo {ty e k : Nat} {x lo : Operand} {L : List Int} (ho : o.op = .slice ty x (some lo) none none) (he : elK P ty = some (e, 1)) (hx : evalO t x = some (intsV L)) (hlo : evalO t lo = some (num k)) (hk : k ≤ L.length) : Yield P σ t o (intsV (L.drop k)) := by
  have := y_sliceLo (σ := σ) ho he hx hlo (by rw [intsP_len]; omega) rfl hk
  have e1 : intsV (L.drop k) = .slice (L.length - k) (((intsP L).drop (k * 1)).take ((L.length - k) * 1)) := by
    unfold intsV
    rw [List.length_drop, Nat.mul_one, Nat.mul_one]
    unfold intsP
    rw [← List.map_drop, List.take_of_length_le (by simp)]
  rw [e1]
  exact this
end
set_option maxRecDepth 10000 in
set_option maxHeartbeats 1000000 in
theorem lawJoined_can (c : Cas) (u : Nat) (hu : u < 256) : Can Try.prog 8 [casV c, .raw (.int .u8 u)] (· = flag true) := by
  refine can_of Try.func8 rfl Try.ntmps8 rfl ?_
  refine W_cs (.a 2 rfl <| .k [1, 2] rfl) ?_
  refine W_seq ?_
  refine W_cs (.c rfl (awake20_can) rfl <| .a 1 rfl <| .k [1, 2, 17] rfl) ?_
  refine W_cond rfl (fun hc => ?_) (fun hc => ?_)
  · cases hc
  · refine W_skip ?_
    refine W_seq ?_
    refine W_cs (.a 1 rfl <| .c rfl (large_can c) rfl <| .k [1, 2, 19] rfl) ?_
    refine W_cond rfl (fun hy => ?_) (fun hy => ?_)
    · skip
      refine W_cs (.a 1 rfl <| .k [4] rfl) ?_
      refine W_ret ?_
      exact ⟨_, _, ResL.of rfl, Pur.pure, rfl⟩
    · obtain ⟨s1, s2, s3, s4, s5, s6⟩ := large_small hy
      obtain ⟨L, hL⟩ : ∃ L, (if folE c.T c.D c.n c.p = 0 then lstL c.T c.D c.n c.p else []) = L := ⟨_, rfl⟩
      have he1 : Can Try.prog 13 [topoV c.T, boolsV c.D, intsV c.p, num c.n] (· = .tuple [segsV L, num (folE c.T c.D c.n c.p)]) := hL ▸ elist_can c.T c.D c.p c.n (by omega) (by omega) s4
      refine W_skip ?_
      refine W_cs (.a 8 rfl <| .c rfl (he1) rfl <| .a 5 rfl <| .k [1, 2, 5, 6] rfl) ?_
      refine W_seq ?_
      refine W_cs (.a 2 rfl <| .k [1, 2, 5, 33] rfl) ?_
      refine W_cond rfl (fun hz => ?_) (fun hz => ?_)
      · skip
        refine W_cs (.a 1 rfl <| .k [4] rfl) ?_
        refine W_ret ?_
        exact ⟨_, _, ResL.of rfl, Pur.pure, rfl⟩
      · have he : folE c.T c.D c.n c.p = 0 := Classical.byContradiction (ff hz)
        rw [if_pos he] at hL
        have hF := fol_of he
        obtain ⟨k, hk⟩ : ∃ k, u % (c.p.length + 1) = k := ⟨_, rfl⟩
        have hkl : k ≤ c.p.length := by have := Nat.mod_lt u (show 0 < c.p.length + 1 by omega); omega
        obtain ⟨m, hm⟩ : ∃ m, endL c.T c.n (c.p.take k) = m := ⟨_, rfl⟩
        have hF1 := hF.take k
        have hF2 := hF.drop hkl
        rw [hm] at hF2
        have hl1 : (c.p.take k).length = k := by simp; omega
        have hl2 : (c.p.drop k).length = c.p.length - k := by simp
        have hpx : pathX c.T c.n (c.p.take k) = 0 := by unfold pathX; rw [if_pos hF1.valid, if_pos hF1.node]; exact hF1.walk
        have hrp : Can Try.prog 16 [topoV c.T, num c.n, intsV (c.p.take k)] (· = .tuple [num m, num (costL c.T (c.p.take k)), num 0]) := by
          have := rpath_can c.T c.n (c.p.take k) (by omega)
          unfold pathV at this
          rw [hpx, if_pos rfl, if_pos rfl, hm] at this
          exact this
        obtain ⟨A, hA⟩ : ∃ A, lstL c.T c.D c.n (c.p.take k) = A := ⟨_, rfl⟩
        obtain ⟨B, hB⟩ : ∃ B, lstL c.T c.D m (c.p.drop k) = B := ⟨_, rfl⟩
        have hAl : A.length ≤ 10 := by rw [← hA]; have := lst_len (T := c.T) (D := c.D) (n := c.n) (p := c.p.take k) (c.p.take k).length 0; unfold lstL; omega
        have hBl : B.length ≤ 10 := by rw [← hB]; have := lst_len (T := c.T) (D := c.D) (n := m) (p := c.p.drop k) (c.p.drop k).length 0; unfold lstL; omega
        have he2 : Can Try.prog 13 [topoV c.T, boolsV c.D, intsV (c.p.take k), num c.n] (· = .tuple [segsV A, num 0]) := by
          have := elist_can c.T c.D (c.p.take k) c.n (by omega) (by omega) s4
          unfold segsE at this
          rw [fol_zero hF1, if_pos rfl, hA] at this
          exact this
        have he3 : Can Try.prog 13 [topoV c.T, boolsV c.D, intsV (c.p.drop k), num m] (· = .tuple [segsV B, num 0]) := by
          have := elist_can c.T c.D (c.p.drop k) m (by omega) (by omega) s4
          unfold segsE at this
          rw [fol_zero hF2, if_pos rfl, hB] at this
          exact this
        obtain ⟨J, hJ⟩ : ∃ J, J = A ++ B := ⟨_, rfl⟩
        have hjn := joined hF hkl (L := J) (by rw [hJ, hm, hA, hB])
        rw [hL] at hjn
        obtain ⟨j1, j2, j3⟩ := hjn
        have hJl : J.length = A.length + B.length := by rw [hJ, List.length_append]
        obtain ⟨q1, h1⟩ : ∃ q, decide ((0 : Int) = 0) = q := ⟨_, rfl⟩
        have hq1 : q1 = true := by rw [← h1]; rfl
        obtain ⟨q3, h3⟩ : ∃ q, exactB c.T c.D J c.n c.p = q := ⟨_, rfl⟩
        have hq3 : q3 = true := by rw [← h3]; exact j1
        obtain ⟨q4, h4⟩ : ∃ q, decide ((L.length : Int) ≤ (J.length : Int)) = q := ⟨_, rfl⟩
        have hq4 : q4 = true := by rw [← h4]; exact decide_eq_true (by omega)
        obtain ⟨q5, h5⟩ : ∃ q, decide ((J.length : Int) ≤ (L.length : Int) + 1) = q := ⟨_, rfl⟩
        have hq5 : q5 = true := by rw [← h5]; exact decide_eq_true (by omega)
        refine W_skip ?_
        refine W_cs (.a 1 rfl <| .v (y_conv (c := (u : Int)) rfl Try.underlying5 Try.underlying3 rfl (wrap_in (by unfold In64; omega))) rfl <| .a 3 rfl <| .v (y_ar rfl) rfl <| .v (y_rem (c := (k : Int)) rfl rfl rfl (by omega) (by rw [Int.tmod_eq_emod_of_nonneg (by omega), ← hk]; rfl)) rfl <| .a 1 rfl <| .k [2, 5, 7] rfl) ?_
        refine W_drs mixed (by kernel_rfl) (.a 7 rfl <| .v [47, 48] (y_partHi rfl (fok.el.get rfl) rfl rfl hkl) rfl rfl <| .v [43, 45, 49] (y_c rfl (hrp)) rfl rfl <| .a 7 rfl <| .k [2, 5, 7, 8] rfl) ?_
        refine W_drs mixed (by kernel_rfl) (.a 7 rfl <| .v [60, 61] (y_partHi rfl (fok.el.get rfl) rfl rfl hkl) rfl rfl <| .a 2 rfl <| .v [56, 58, 62, 64] (y_c rfl (he2)) rfl rfl <| .a 5 rfl <| .k [2, 5, 7, 8, 11, 12] rfl) ?_
        refine W_drs mixed (by kernel_rfl) (.a 7 rfl <| .v [74, 75] (y_partLo rfl (fok.el.get rfl) rfl rfl hkl) rfl rfl <| .a 1 rfl <| .v [70, 72, 76, 77] (y_c rfl (he3)) rfl rfl <| .a 5 rfl <| .k [2, 5, 11, 12, 13, 14] rfl) ?_
        refine W_rs ?_
        refine WR_l (l_emptySlice rfl (fok.sl.get rfl)) rfl <| WR_a 1 rfl <| WR_l (l_append rfl (fok.rk.get rfl) rfl rfl rfl (by rw [segsP_len]) (by unfold maxLen; omega)) rfl <| WR_a 1 rfl <| WR_l (l_append rfl (fok.rk.get rfl) rfl rfl rfl (by rw [segsP_len]) (by unfold maxLen; omega)) rfl <| WR_a 1 rfl ?_
        refine WR_ren [2] (.c 2 <| .c 5 <| .c 12 <| .c 14 <| .c 15 <| .nil) (.kept rfl (.rowP (show 0 + A.length + B.length = J.length by omega) (show [] ++ segsP A ++ segsP B = segsP J by rw [hJ]; simp [segsP])) <| .nil) rfl rfl (WR_nil ?_)
        refine W_seal 15 0 rfl rfl ?_
        refine W_ren [] (.c 2 <| .c 5 <| .c 12 <| .c 14 <| .cons 15 rfl (Ren.pure (p := segsV J)) .nil) .nil rfl rfl ?_
        refine W_csK 4 (.raw (.bool ((((q1 && q1) && q3) && q4) && q5))) [] rfl ?_ ?_
        · refine .a 1 rfl <| .v (y_q rfl (h1)) rfl <| .a 1 rfl <| ?_
          cases q1
          · exact .a 31 rfl <| .k [4] rfl
          · refine .a 1 rfl <| .v (y_q rfl (h1)) rfl <| .a 11 rfl <| .c rfl (h3 ▸ exact_can c.T c.D J c.n c.p (by omega) (by omega) (by omega) s4) rfl <| .a 2 rfl <| ?_
            cases q3
            · exact .a 15 rfl <| .k [4] rfl
            · refine .a 4 rfl <| .v (y_q rfl (h4)) rfl <| .a 2 rfl <| ?_
              cases q4
              · exact .a 8 rfl <| .k [4] rfl
              · exact .a 4 rfl <| .v (y_ar rfl) rfl <| .v (y_q rfl (h5)) rfl <| .a 2 rfl <| .k [4] rfl
        refine W_ret ?_
        exact ⟨_, _, ResL.of rfl, Pur.pure, by rw [hq1, hq3, hq4, hq5]; rfl⟩
end PW
end Go.Proofs.Ytgpdjgifhppnhaa

namespace Go.Proofs.Ytgpdjgifhppnhaa.encodeJoined
set_option linter.unusedVariables false
set_option linter.unusedSimpArgs false
open Go.ChangeShapes Go.WideShapes Go.ChangeAt Go.RowKit
open Reg Mem PW
set_option maxRecDepth 10000 in
theorem rd_u8 {H : Type} {enc : TypeId × Value → H} {W : World} {base : Nat} {v : Value} {d : DataW H} {p : List MemPlace} (hv : Value.okWide Try.prog W .any base 5 v) (h : DataW.Trod enc Try.prog W 0 (fun _ => true) true 5 v d p) : ∃ u : {u : Nat // u < 256}, Rep EN W v (.raw (.int .u8 (u.1 : Nat))) := by
  obtain ⟨n, rfl, _, _, hw⟩ := open_int Try.underlying5 hv h
  simp only [Lit.wf, Bool.and_eq_true, decide_eq_true_eq] at hw
  have h0 : (0 : Int) ≤ n := hw.1
  have h1 : n ≤ 255 := hw.2
  refine ⟨⟨n.toNat, by omega⟩, ?_⟩
  rw [show ((n.toNat : Nat) : Int) = n by omega]
  exact .raw _
set_option maxRecDepth 100000 in
theorem lifted (os : Os) (started : os.Started) (H : Type) (enc : TypeId × Value → H) :
    ReturnsInHanded {} Try.checked os 8 .any (Rows.encodeJoinedSpec.pre6 enc Try.prog Try.f8 Rows.encodeJoinedRow.domain false) (Rows.encodeJoinedSpec.post enc Try.prog Try.f8 false true false false) := by
  refine returnsInHanded_of_change (C := Try.checked) own started (by kernel_rfl) Try.func8
    (ChangeSpec.witness6 (enc := enc) (C := Try.checked) false ⟨#[], #[.agg #[.int .i64 0, .slice none 0 0, .slice none 0 0, .slice none 0 0, .int .i64 0, .slice none 0 0, .slice none 0 0], .int .u8 0], []⟩ 8 (by kernel_rfl) (by kernel_rfl) (by kernel_rfl) (by kernel_rfl)) ?_
  intro W base args ds gs before hval0 hW hcnd _
  have hval : ∀ (j : Nat) t v, Try.f8.params[j]? = some t → args[j]? = some v → Value.okWide Try.prog W .any base t v := hval0
  have hW' := hW
  obtain ⟨p, q, hA0, hV, rfl, hfz, hnd⟩ := hW
  have hA : DataW.TrodAll enc Try.prog W 0 (fun _ => true) true Try.f8.params.toList args.toList ds p := hA0
  rw [Try.params8] at hA hval
  obtain ⟨v0, vs0, d0, ds0, p0, q0, hargs, rfl, rfl, h0, r0⟩ := trodAll_cons hA
  obtain ⟨v1, vs1, d1, ds1, p1, q1, rfl, rfl, rfl, h1, r1⟩ := trodAll_cons r0
  obtain ⟨rfl, rfl, rfl⟩ := trodAll_nil r1
  obtain rfl : args = #[v0, v1] := by cases args; simp_all
  obtain ⟨rfl, rfl⟩ := trodVars_none hV
  have lt0 := lt_of h0
  obtain ⟨c, R0⟩ := rd_case (hval 0 29 v0 rfl rfl) h0
  have lt1 := lt_of h1
  obtain ⟨⟨u, hu⟩, R1⟩ := rd_u8 (hval 1 5 v1 rfl rfl) h1
  clear hA0 hval0
  refine ((lawJoined_can c u hu) (fun _ => False) W #[v0, v1] (fun _ h => h.elim) (noGlob _ W) (RepL.cons R0 (RepL.cons R1 (RepL.nil _ _)))).mono fun e W' ⟨x, he, bel, r, hr, hx⟩ => ?_
  subst hr
  cases hx
  subst he
  exact ⟨_, rfl, _, _, _, [], _, [], hW', trodAll_mk1 (shut_bool Try.underlying4 _), (trodAll_cons_mk (Below.trod laidOut (by kernel_rfl) (of_decide_eq_true (by kernel_rfl)) h0 bel lt0) (trodAll_cons_mk (Below.trod laidOut (by kernel_rfl) (of_decide_eq_true (by kernel_rfl)) h1 bel lt1) trodAll_mk0)), rfl, bel.frame _, fun h => by cases h⟩

theorem over : Rows.encodeJoinedRow.holds Try.pinned (OpenSpec.ofChange Rows.encodeJoinedSpec) :=
  OpenClaim.holds_of_wide 8 Try.f8 rfl rfl rfl rfl rfl rfl rfl ⟨rfl, rfl, rfl, rfl, rfl⟩ rfl rfl rfl rfl rfl (by kernel_rfl) Try.func8 (by kernel_rfl)
    (of_decide_eq_true (by kernel_rfl)) (by unfold Func.isWrapper; first | (rw [if_pos (by decide +kernel)]; kernel_rfl) | (rw [if_neg (by decide +kernel)]; exact ⟨rfl, rfl⟩))
    (fun os started H enc _ => lifted os started H enc)

theorem proved : Rows.EncodeJoinedSaid := over
end Go.Proofs.Ytgpdjgifhppnhaa.encodeJoined
