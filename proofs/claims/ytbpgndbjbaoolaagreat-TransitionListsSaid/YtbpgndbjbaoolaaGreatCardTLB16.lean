/- TransitionLists returns true for every input: in the state Transition, every list is stable, and ends at its destination. No conditions. -/
import Derived.Test.YtbpgndbjbaoolaaGreatCardTLB15
/- The law TransitionValid, walked. -/
namespace Go.Proofs.YtbpgndbjbaoolaaGreat
set_option linter.unusedVariables false
set_option linter.unusedSimpArgs false
namespace PW
open Go.RowKit Reg Mem Net Rng

theorem rtvalid_yes {T : Topo} {x : Tab} (h : tabOK T x = true) : Can Tryz.prog 24 [topoV T, tabV x] (· = flag true) := by
  have := rtvalid_can T x
  rw [h] at this
  exact this
theorem rup_yes {D : List Bool} {a : Nat} (ha : D.length = 0 ∨ a < D.length) (h : downN D a = false) : Can Tryz.prog 26 [boolsV D, num a] (· = flag true) := by
  have := rup_can D a ha
  rw [h] at this
  exact this
theorem has_yes {l : List Int} {x : Int} (hl : l.length ≤ 100000) (h : x ∈ l) : Can Tryz.prog 27 [intsV l, num x] (· = flag true) := by
  have := has_can l x hl
  rw [decide_eq_true h] at this
  exact this
theorem next_len {T : Topo} (hv : validB T = true) (D : List Bool) (n d : Nat) : (nextL T D n d).length ≤ 512 := by
  have hl := links_le hv
  unfold nextL
  split
  · simp
  · exact Nat.le_trans (List.length_filter_le _ _) (Nat.le_trans (outTo_len T n _) (by omega))
set_option maxRecDepth 10000 in
set_option maxHeartbeats 1000000 in
theorem lawTValid_can (c : Q30) : Can Tryz.prog 4 [q30V c] (· = flag true) := by
  obtain ⟨w1, hw1⟩ : ∃ q, q = true := ⟨_, rfl⟩
  have haw : Can Tryz.prog 14 [] (· = flag w1) := hw1 ▸ awake30_can
  obtain ⟨w2, hw2⟩ : ∃ q, tooBig c.T = q := ⟨_, rfl⟩
  refine can_of Tryz.func4 rfl Tryz.ntmps4 rfl ?_
  refine W_cs (.a 2 rfl <| .k [1] rfl) ?_
  refine W_seq ?_
  refine W_csK 17 (.raw (.bool ((!w1) || w2))) [1] rfl ?_ ?_
  · refine .c rfl (haw) rfl <| .a 2 rfl <| ?_
    cases w1
    · exact .a 3 rfl <| .k [17, 1] rfl
    · exact .a 1 rfl <| .c rfl (hw2 ▸ large30_can c) rfl <| .a 1 rfl <| .k [17, 1] rfl
  refine W_cond rfl (fun hc => ?_) (fun hc => ?_)
  · skip
    refine W_cs (.c rfl (awake30_can) rfl <| .a 1 rfl <| .k [2] rfl) ?_
    refine W_ret ?_
    exact ⟨_, _, ResL.of rfl, Pur.pure, rfl⟩
  · have hy : tooBig c.T = false := by rw [hw2]; exact (Bool.or_eq_false_iff.1 hc).2
    obtain ⟨s1, s2⟩ := not_big hy
    have hB := ttab_can c.T c.k c.x c.n s1
    have hC := tfin_can c.T c.k c.x c.n
    unfold tabE at hB hC
    obtain ⟨e, he⟩ : ∃ e, trnE c.T c.k c.x c.n = e := ⟨_, rfl⟩
    rw [he] at hB hC
    obtain ⟨tB, htB⟩ : ∃ t, (if e = 0 then trnT c.T (maskL c.T c.k c.x) c.n.toNat else ⟨0, [], []⟩) = t := ⟨_, rfl⟩
    obtain ⟨tC, htC⟩ : ∃ t, (if e = 0 then routesT c.T (maskL c.T c.k c.x) c.n.toNat else ⟨0, [], []⟩) = t := ⟨_, rfl⟩
    rw [htB] at hB
    rw [htC] at hC
    obtain ⟨q1, h1⟩ : ∃ q, decide (e ≠ 0) = q := ⟨_, rfl⟩
    obtain ⟨q2, h2⟩ : ∃ q, decide (e = e) = q := ⟨_, rfl⟩
    have e2 : q2 = true := by rw [← h2]; exact decide_eq_true rfl
    refine W_skip ?_
    refine W_rs ?_
    refine WR_a 6 rfl <| WR_c rfl (hB) rfl <| WR_a 6 rfl <| WR_k [1, 3, 4] rfl ?_
    refine W_rs ?_
    refine WR_a 6 rfl <| WR_c rfl (hC) rfl <| WR_a 6 rfl <| WR_k [1, 3, 4, 5, 6] rfl ?_
    refine W_seq ?_
    refine W_csK 44 (.raw (.bool (q1 || q1))) [1, 3, 4, 5, 6] rfl ?_ ?_
    · refine .a 1 rfl <| .v (y_q rfl (h1)) rfl <| .a 1 rfl <| ?_
      cases q1
      · exact .a 1 rfl <| .v (y_q rfl (h1)) rfl <| .a 1 rfl <| .k [44, 1, 3, 4, 5, 6] rfl
      · exact .a 3 rfl <| .k [44, 1, 3, 4, 5, 6] rfl
    refine W_cond rfl (fun h3 => ?_) (fun h3 => ?_)
    · skip
      refine W_cs (.a 2 rfl <| .v (y_q rfl (h2)) rfl <| .a 1 rfl <| .k [2] rfl) ?_
      refine W_ret ?_
      exact ⟨_, _, ResL.of rfl, Pur.pure, by rw [e2]; rfl⟩
    · have he0 : e = 0 := Classical.byContradiction (fun h => by rw [decide_eq_true h] at h1; subst h1; cases h3)
      subst he0
      rw [if_pos rfl] at htB htC
      obtain ⟨hm, hn⟩ := trnE_zero he
      obtain ⟨hv, hcp⟩ := Bool.and_eq_true_iff.1 hm
      rw [nodeB_iff] at hn
      obtain ⟨m, hm'⟩ := Int.eq_ofNat_of_zero_le hn.1
      rw [hm', Int.toNat_natCast] at htB htC
      have hmN : (m : Int) < c.T.nodes := by omega
      have hN := (sound_of hv).nodes
      obtain ⟨N, hNN⟩ : ∃ N : Nat, c.T.nodes = (N : Int) := ⟨c.T.nodes.toNat, by omega⟩
      have hNt : c.T.nodes.toNat = N := by omega
      have hmk := rmask_can c.T c.k c.x
      have hm0 : maskE c.T c.k c.x = 0 := by unfold maskE; rw [if_pos hm]
      unfold boolsE at hmk
      rw [hm0, if_pos rfl] at hmk
      have hmf := mask_fits c.T c.k c.x
      have hMl := maskL_len c.T c.k c.x
      obtain ⟨M, hM⟩ : ∃ M, maskL c.T c.k c.x = M := ⟨_, rfl⟩
      rw [hM] at hmk hmf hMl htB htC
      have hvB : tabOK c.T tB = true := by rw [← htB]; exact trn_valid hv s1 hmN
      have hvC : tabOK c.T tC = true := by rw [← htC]; exact routes_valid hv hmN
      have hlB : tB.ents.length = N := by rw [← htB]; show (trnL c.T M m c.T.nodes.toNat).length = N; rw [trnL_len, hNt]
      have hlC : tC.ents.length = N := by rw [← htC]; show (toL c.T M m c.T.nodes.toNat).length = N; rw [toL_len, hNt]
      have hgB : ∀ d, d < N → tB.ents[d]? = some (entX c.T M m (d : Int)) := fun d hd => by rw [← htB]; show (trnL c.T M m c.T.nodes.toNat)[d]? = _; rw [hNt]; exact trnL_get hd
      have hgC : ∀ d, d < N → tC.ents[d]? = some ⟨nextL c.T M m d, false, []⟩ := fun d hd => by rw [← htC]; show (toL c.T M m c.T.nodes.toNat)[d]? = _; rw [hNt]; exact toL_get hd
      have hdn : tB.down = tC.down := by rw [← htB, ← htC]; rfl
      clear h1 h2 h3 hw1 hw2 haw hy hc hB hC
      refine W_skip ?_
      refine W_cs (.a 4 rfl <| .c rfl (hmk) rfl <| .a 5 rfl <| .k [1, 3, 5, 7] rfl) ?_
      refine W_seq ?_
      have hds := rsame_yes tB.down
      rw (occs := .pos [2]) [hdn] at hds
      refine W_csK 75 (.raw (.bool (false))) [3, 5, 7] rfl ?_ ?_
      · exact .a 3 rfl <| .c rfl (rtvalid_yes hvB) rfl <| .a 5 rfl <| .c rfl (rtvalid_yes hvC) rfl <| .a 7 rfl <| .c rfl (hds) rfl <| .a 2 rfl <| .k [75, 3, 5, 7] rfl
      refine W_cond rfl (fun h => ?_) (fun h => ?_)
      · exact absurd h (by decide)
      · clear h
        refine W_skip ?_
        refine W_seq ?_
        refine W_cs (.a 4 rfl <| .k [3, 5, 7, 78, 79] rfl) ?_
        refine W_block ?_
        refine W_k [3, 5, 7, 78, 79] rfl ?_
        refine W_loop (fun r s => ∃ d, d ≤ N ∧ r = N - d ∧ s = ⟨[(3, .ptr 0 0), (5, .ptr 1 0), (7, boolsV M), (78, num tB.ents.length), (79, num d)], [some (.cells 35 (tabP tB)), some (.cells 35 (tabP tC))]⟩) N ⟨0, by omega, by omega, rfl⟩ ?_
        rintro r s ⟨d, hd, rfl, rfl⟩
        refine W_cs (.a 1 rfl <| .k [3, 5, 7, 78, 79, 80] rfl) ?_
        refine W_seq ?_
        refine W_cond rfl (fun h1 => ?_) (fun h1 => ?_)
        · have hlt : d < N := by have := tt h1; omega
          have hb1 := hgB d hlt
          have hb2 := hgC d hlt
          have har := ent_arcs (T := c.T) (D := M) (n := m) (d := d) hv hmf hmN (by omega)
          obtain ⟨b, hb⟩ : ∃ b, decide (((entX c.T M m (d : Int)).arcs.length : Int) = 0) = b := ⟨_, rfl⟩
          have hb' : decide (((nextL c.T M m d).length : Int) = 0) = b := by
            rw [← hb]
            rcases har with ⟨a1, a2⟩ | ⟨a, l, a1, a2⟩
            · rw [a1, a2]
            · rw [a1, a2]
              exact (decide_eq_false (by simp; omega)).trans (decide_eq_false (by simp)).symm
          have hall : ∀ y ∈ (entX c.T M m (d : Int)).arcs ++ nextL c.T M m d, y ∈ nextL c.T M m d := fun y hy => by
            rcases List.mem_append.1 hy with h | h
            · rcases har with ⟨a1, a2⟩ | ⟨a, l, a1, a2⟩
              · rw [a1] at h; cases h
              · rw [a1] at h; rw [a2]; simp at h; subst h; simp
            · exact h
          have hal : (entX c.T M m (d : Int)).arcs.length ≤ 1 := by
            rcases har with ⟨a1, a2⟩ | ⟨a, l, a1, a2⟩ <;> rw [a1] <;> simp
          have hnl := next_len hv M m d
          have g1 : ((entsP tB.ents))[d * 3]? = some (intsV (entX c.T M m (d : Int)).arcs) := (ents_get _ d 0 _ hb1 (by omega)).trans rfl
          have g2 : ((entsP tC.ents))[d * 3]? = some (intsV (nextL c.T M m d)) := (ents_get _ d 0 _ hb2 (by omega)).trans rfl
          generalize (entX c.T M m (d : Int)).arcs = A at *
          obtain ⟨B, hB⟩ : ∃ B, nextL c.T M m d = B := ⟨_, rfl⟩
          have hnm : ∀ y ∈ B, ∃ k : Nat, y = k ∧ Nearer c.T M m d k := fun y hy => next_mem (by rw [hB]; exact hy)
          rw [hB] at hb' hall hnl g2
          refine W_skip ?_
          refine W_seq ?_
          refine W_block ?_
          refine W_cs (.a 2 rfl <| .k [3, 5, 7, 9, 78, 79] rfl) ?_
          refine W_seq ?_
          refine W_drs mixed (by kernel_rfl) (.a 3 rfl <| .v [83, 84] (y_ix ((d * 3)) rfl) rfl rfl <| .a 1 rfl <| .v [86] (y_ld rfl (g1)) rfl rfl <| .a 1 rfl <| .v [88] (y_q rfl (hb)) rfl rfl <| .a 3 rfl <| .v [91, 92] (y_ix ((d * 3)) rfl) rfl rfl <| .a 1 rfl <| .v [94] (y_ld rfl (g2)) rfl rfl <| .a 1 rfl <| .v [96] (y_q rfl (hb')) rfl rfl <| .v [89, 97] (y_q rfl ((show (!(b == b)) = false by cases b <;> rfl))) rfl rfl <| .k [3, 5, 7, 9, 78, 79, 98] rfl) ?_
          refine W_cond rfl (fun h => ?_) (fun h => ?_)
          · exact absurd h (by decide)
          · clear h
            refine W_skip ?_
            refine W_grds 20 3 [[some (.cells 35 (tabP tB)), some (.cells 35 (tabP tC))], [some (.cells 35 (tabP tB)), some (.cells 35 (tabP tC)), some (.row 3 1 0 [])], [some (.cells 35 (tabP tB)), some (.cells 35 (tabP tC)), none, some (.row 3 1 (0 + A.length) ([] ++ intsP A))], [some (.cells 35 (tabP tB)), some (.cells 35 (tabP tC)), none, none, some (.row 3 1 (0 + A.length + B.length) ([] ++ intsP A ++ intsP B))]] [⟨.own 2, some 0, 0, 0⟩, ⟨_, none, 0, 1⟩, ⟨_, none, 0, 1⟩, ⟨_, none, 0, 1⟩, ⟨_, none, 0, 1⟩, ⟨_, none, 0, 1⟩, ⟨_, none, 0, 1⟩, ⟨.own 3, some 1, 0, 0⟩, ⟨_, none, 0, 2⟩, ⟨_, none, 0, 2⟩, ⟨_, none, 0, 2⟩, ⟨_, none, 0, 2⟩, ⟨_, none, 0, 2⟩, ⟨_, none, 0, 2⟩, ⟨.own 4, some 2, 0, 0⟩, ⟨_, none, 3, 3⟩, ⟨_, none, 0, 3⟩] _ mixed ?grdB rfl rfl rfl rfl (.cons (.loud [] rfl rfl rfl rfl (l_emptySlice rfl (fok.sl.get rfl)) rfl rfl) <| .cons (.val [3] rfl rfl (yz (ya1 (y_a rfl) (ya1 (y_a rfl) ya0))) rfl rfl) <| .cons (.val [100] rfl rfl (yz (ya1 (y_a rfl) (ya1 (y_a rfl) ya0))) rfl rfl) <| .cons (.val [9] rfl rfl (yz (ya1 (y_a rfl) (ya1 (y_a rfl) ya0))) rfl rfl) <| .cons (.val [101, 102] rfl rfl (yz (ya1 (y_ix ((d * 3)) rfl) (ya1 (y_ix ((d * 3)) rfl) ya0))) rfl rfl) <| .cons (.val [103] rfl rfl (yz (ya1 (y_a rfl) (ya1 (y_a rfl) ya0))) rfl rfl) <| .cons (.val [104] rfl rfl (yz (ya1 (y_ld rfl (g1)) (ya1 (y_ld rfl (g1)) ya0))) rfl rfl) <| .cons (.loud [99, 105] rfl rfl rfl rfl (l_append (σ := [some (.cells 35 (tabP tB)), some (.cells 35 (tabP tC)), some (.row 3 1 0 [])]) (i := 2) (n := 0) (xs := []) rfl (fok.rk.get rfl) rfl rfl rfl (show (intsP A).length = A.length * 1 by simp [intsP]) (show 0 + A.length ≤ maxLen ∧ (0 + A.length) * 8 ≤ 140737488355328 by unfold maxLen; omega)) rfl rfl) <| .cons (.val [5] rfl rfl (yz (ya1 (y_a rfl) (ya1 (y_a rfl) (ya1 (y_a rfl) ya0)))) rfl rfl) <| .cons (.val [107] rfl rfl (yz (ya1 (y_a rfl) (ya1 (y_a rfl) (ya1 (y_a rfl) ya0)))) rfl rfl) <| .cons (.val [9] rfl rfl (yz (ya1 (y_a rfl) (ya1 (y_a rfl) (ya1 (y_a rfl) ya0)))) rfl rfl) <| .cons (.val [108, 109] rfl rfl (yz (ya1 (y_ix ((d * 3)) rfl) (ya1 (y_ix ((d * 3)) rfl) (ya1 (y_ix ((d * 3)) rfl) ya0)))) rfl rfl) <| .cons (.val [110] rfl rfl (yz (ya1 (y_a rfl) (ya1 (y_a rfl) (ya1 (y_a rfl) ya0)))) rfl rfl) <| .cons (.val [111] rfl rfl (yz (ya1 (y_ld rfl (g2)) (ya1 (y_ld rfl (g2)) (ya1 (y_ld rfl (g2)) ya0)))) rfl rfl) <| .cons (.loud [106, 112] rfl rfl rfl rfl (l_append (σ := [some (.cells 35 (tabP tB)), some (.cells 35 (tabP tC)), none, some (.row 3 1 (0 + A.length) ([] ++ intsP A))]) (i := 3) (n := 0 + A.length) (xs := [] ++ intsP A) rfl (fok.rk.get rfl) rfl rfl rfl (show (intsP B).length = B.length * 1 by simp [intsP]) (show 0 + A.length + B.length ≤ maxLen ∧ (0 + A.length + B.length) * 8 ≤ 140737488355328 by unfold maxLen; omega)) rfl rfl) <| .cons (.val [113] rfl rfl (yz (ya1 (y_a rfl) ya0)) rfl rfl) <| .cons (.val [] rfl rfl (yz (ya1 (y_a rfl) (ya1 (y_a rfl) (ya1 (y_a rfl) (ya1 (y_a rfl) ya0))))) rfl rfl) .nil) (keepT_sub (ks := [3, 5, 7, 9, 78, 79, 113, 114, 115]) rfl) ?_
            case grdB => kernel_rfl
            refine W_ren [0, 1, 4] (.c 3 <| .c 5 <| .c 7 <| .c 9 <| .c 78 <| .c 79 <| .c 113 <| .c 114 <| .c 115 <| .nil) (.kept rfl (.cells RenL.pure) <| .kept rfl (.cells RenL.pure) <| .kept rfl (.rowP (show 0 + A.length + B.length = (A ++ B).length by simp) (show [] ++ intsP A ++ intsP B = intsP (A ++ B) by simp [intsP])) <| .nil) rfl rfl ?_
            refine W_seal 113 2 rfl rfl ?_
            refine W_ren [0, 1] (.c 3 <| .c 5 <| .c 7 <| .c 9 <| .c 78 <| .c 79 <| .c 113 <| .c 114 <| .c 115 <| .nil) (.kept rfl (.cells RenL.pure) <| .kept rfl (.cells RenL.pure) <| .nil) rfl rfl ?_
            refine W_block ?_
            refine W_k [3, 5, 7, 9, 78, 79, 113, 114, 115] rfl ?_
            refine W_loop (fun r s => ∃ i, i ≤ (A ++ B).length ∧ r = (A ++ B).length - i ∧ s = ⟨[(3, .ptr 0 0), (5, .ptr 1 0), (7, boolsV M), (9, num d), (78, num tB.ents.length), (79, num d), (113, intsV (A ++ B)), (114, num ((0 + A.length + B.length : Nat) : Int)), (115, num i)], [some (.cells 35 (tabP tB)), some (.cells 35 (tabP tC))]⟩) (A ++ B).length ⟨0, by omega, by omega, rfl⟩ ?_
            rintro r s ⟨i, hi, rfl, rfl⟩
            refine W_cs (.a 1 rfl <| .k [3, 5, 7, 9, 78, 79, 113, 114, 115, 116] rfl) ?_
            refine W_seq ?_
            refine W_cond rfl (fun h1 => ?_) (fun h1 => ?_)
            · have hli : i < (A ++ B).length := by have := tt h1; simp only [List.length_append]; omega
              have habl : (A ++ B).length ≤ 600 := by simp only [List.length_append]; omega
              have hyB := hall _ (getD_mem (d := 0) hli)
              obtain ⟨k, hk, hkn⟩ := hnm _ hyB
              refine W_skip ?_
              refine W_seq ?_
              refine W_block ?_
              refine W_cs (.v (y_ix (i) rfl) rfl <| .v (y_ld rfl ((ints_get _ i hli).trans (by rw [hk]))) rfl <| .a 1 rfl <| .k [3, 5, 7, 9, 11, 78, 79, 113, 114, 115] rfl) ?_
              refine W_csK 133 (.raw (.bool (false))) [3, 5, 7, 9, 78, 79, 113, 114, 115] rfl ?_ ?_
              · exact .a 2 rfl <| .c rfl (rup_yes (.inr (by rw [hMl]; exact hkn.arc)) hkn.up) rfl <| .a 5 rfl <| .v (y_ix ((d * 3)) rfl) rfl <| .a 1 rfl <| .v (y_ld rfl (g2)) rfl <| .a 1 rfl <| .c rfl (has_yes (by omega) (by rw [hk] at hyB; exact hyB)) rfl <| .a 2 rfl <| .k [133, 3, 5, 7, 9, 78, 79, 113, 114, 115] rfl
              refine W_cond rfl (fun h => ?_) (fun h => ?_)
              · exact absurd h (by decide)
              · clear h
                refine W_skip ?_
                refine W_chain (.v (y_ar rfl) rfl <| .a 1 rfl <| .k [3, 5, 7, 9, 78, 79, 113, 114, 115] rfl) ?_
                exact ⟨(A ++ B).length - (i + 1), by omega, i + 1, by omega, rfl, rfl⟩
            · clear h1
              refine W_exit ?_
              refine W_chain (.v (y_ar rfl) rfl <| .a 1 rfl <| .k [3, 5, 7, 78, 79] rfl) ?_
              exact ⟨N - (d + 1), by omega, d + 1, by omega, rfl, rfl⟩
        · clear h1
          refine W_exit ?_
          refine W_cs (.a 1 rfl <| .k [2] rfl) ?_
          refine W_ret ?_
          exact ⟨_, _, ResL.of rfl, Pur.pure, rfl⟩
end PW
end Go.Proofs.YtbpgndbjbaoolaaGreat

/- The laws TransitionStable and TransitionLists, walked. -/
namespace Go.Proofs.YtbpgndbjbaoolaaGreat
set_option linter.unusedVariables false
set_option linter.unusedSimpArgs false
namespace PW
open Go.RowKit Reg Mem Net Rng

theorem Pur.ownE {σ : Sto} {i e s n m : Nat} {xs ys : List PV} [IsPureL ys] (h : σ[i]? = some (some (.row e s n xs))) (hx : xs = ys) (hn : n = m) : Pur σ (.own i) (.slice m ys) := by subst hx; subst hn; exact Pur.ownL h PurL.pure
theorem entB_self (e : Ent) : entB e e = true := by simp [entB, sameB]
theorem rsent_yes (e : Ent) : Can Tryz.prog 29 [entV e, entV e] (· = flag true) := by
  have := rent_can e e
  rw [entB_self] at this
  exact this
theorem rsegs_yes (l : List Seg) : Can Tryz.prog 30 [segsV l, segsV l] (· = flag true) := by
  have := rsegs_can l l
  rw [decide_eq_true rfl] at this
  exact this
set_option maxRecDepth 10000 in
set_option maxHeartbeats 1000000 in
theorem lawTStable_can (c : Q30) : Can Tryz.prog 5 [q30V c] (· = flag true) := by
  obtain ⟨w1, hw1⟩ : ∃ q, q = true := ⟨_, rfl⟩
  have haw : Can Tryz.prog 14 [] (· = flag w1) := hw1 ▸ awake30_can
  obtain ⟨w2, hw2⟩ : ∃ q, tooBig c.T = q := ⟨_, rfl⟩
  refine can_of Tryz.func5 rfl Tryz.ntmps5 rfl ?_
  refine W_cs (.a 2 rfl <| .k [1] rfl) ?_
  refine W_seq ?_
  refine W_csK 17 (.raw (.bool ((!w1) || w2))) [1] rfl ?_ ?_
  · refine .c rfl (haw) rfl <| .a 2 rfl <| ?_
    cases w1
    · exact .a 3 rfl <| .k [17, 1] rfl
    · exact .a 1 rfl <| .c rfl (hw2 ▸ large30_can c) rfl <| .a 1 rfl <| .k [17, 1] rfl
  refine W_cond rfl (fun hc => ?_) (fun hc => ?_)
  · skip
    refine W_cs (.c rfl (awake30_can) rfl <| .a 1 rfl <| .k [2] rfl) ?_
    refine W_ret ?_
    exact ⟨_, _, ResL.of rfl, Pur.pure, rfl⟩
  · have hy : tooBig c.T = false := by rw [hw2]; exact (Bool.or_eq_false_iff.1 hc).2
    obtain ⟨s1, s2⟩ := not_big hy
    have hA := told_can c.T c.n
    have hB := ttab_can c.T c.k c.x c.n s1
    have hC := tfin_can c.T c.k c.x c.n
    unfold tabE at hA hB hC
    obtain ⟨e, he⟩ : ∃ e, trnE c.T c.k c.x c.n = e := ⟨_, rfl⟩
    obtain ⟨e', he'⟩ : ∃ e, chkE c.T [] [c.n] = e := ⟨_, rfl⟩
    rw [he] at hB hC
    rw [he'] at hA
    obtain ⟨tA, htA⟩ : ∃ t, (if e' = 0 then routesT c.T [] c.n.toNat else ⟨0, [], []⟩) = t := ⟨_, rfl⟩
    obtain ⟨tB, htB⟩ : ∃ t, (if e = 0 then trnT c.T (maskL c.T c.k c.x) c.n.toNat else ⟨0, [], []⟩) = t := ⟨_, rfl⟩
    obtain ⟨tC, htC⟩ : ∃ t, (if e = 0 then routesT c.T (maskL c.T c.k c.x) c.n.toNat else ⟨0, [], []⟩) = t := ⟨_, rfl⟩
    rw [htA] at hA
    rw [htB] at hB
    rw [htC] at hC
    obtain ⟨q1, h1⟩ : ∃ q, decide (e ≠ 0) = q := ⟨_, rfl⟩
    obtain ⟨q2, h2⟩ : ∃ q, decide (e' ≠ 0) = q := ⟨_, rfl⟩
    refine W_skip ?_
    refine W_rs ?_
    refine WR_a 4 rfl <| WR_c rfl (hA) rfl <| WR_a 6 rfl <| WR_k [1, 3, 4] rfl ?_
    refine W_rs ?_
    refine WR_a 6 rfl <| WR_c rfl (hB) rfl <| WR_a 6 rfl <| WR_k [1, 3, 4, 5, 6] rfl ?_
    refine W_rs ?_
    refine WR_a 6 rfl <| WR_c rfl (hC) rfl <| WR_a 6 rfl <| WR_k [1, 3, 4, 5, 6, 7, 8] rfl ?_
    refine W_seq ?_
    refine W_csK 56 (.raw (.bool ((q2 || q1) || q1))) [1, 3, 5, 7] rfl ?_ ?_
    · refine .a 1 rfl <| .v (y_q rfl (h2)) rfl <| .a 1 rfl <| ?_
      cases q2
      · refine .a 1 rfl <| .v (y_q rfl (h1)) rfl <| .a 2 rfl <| ?_
        cases q1
        · exact .a 1 rfl <| .v (y_q rfl (h1)) rfl <| .a 1 rfl <| .k [56, 1, 3, 5, 7] rfl
        · exact .a 3 rfl <| .k [56, 1, 3, 5, 7] rfl
      · exact .a 7 rfl <| .k [56, 1, 3, 5, 7] rfl
    refine W_cond rfl (fun h3 => ?_) (fun h3 => ?_)
    · skip
      refine W_cs (.a 1 rfl <| .k [2] rfl) ?_
      refine W_ret ?_
      exact ⟨_, _, ResL.of rfl, Pur.pure, rfl⟩
    · have he0 : e = 0 := Classical.byContradiction (fun h => by rw [decide_eq_true h] at h1; subst h1; simp at h3)
      have he0' : e' = 0 := Classical.byContradiction (fun h => by rw [decide_eq_true h] at h2; subst h2; simp at h3)
      subst he0
      subst he0'
      rw [if_pos rfl] at htA htB htC
      obtain ⟨hm, hn⟩ := trnE_zero he
      obtain ⟨hv, hcp⟩ := Bool.and_eq_true_iff.1 hm
      rw [nodeB_iff] at hn
      obtain ⟨m, hm'⟩ := Int.eq_ofNat_of_zero_le hn.1
      rw [hm', Int.toNat_natCast] at htA htB htC
      have hmN : (m : Int) < c.T.nodes := by omega
      have hN := (sound_of hv).nodes
      obtain ⟨N, hNN⟩ : ∃ N : Nat, c.T.nodes = (N : Int) := ⟨c.T.nodes.toNat, by omega⟩
      have hNt : c.T.nodes.toNat = N := by omega
      have hmk := rmask_can c.T c.k c.x
      have hm0 : maskE c.T c.k c.x = 0 := by unfold maskE; rw [if_pos hm]
      unfold boolsE at hmk
      rw [hm0, if_pos rfl] at hmk
      obtain ⟨M, hM⟩ : ∃ M, maskL c.T c.k c.x = M := ⟨_, rfl⟩
      rw [hM] at hmk htB htC
      have hlA : tA.ents.length = N := by rw [← htA]; show (toL c.T [] m c.T.nodes.toNat).length = N; rw [toL_len, hNt]
      have hlB : tB.ents.length = N := by rw [← htB]; show (trnL c.T M m c.T.nodes.toNat).length = N; rw [trnL_len, hNt]
      have hlC : tC.ents.length = N := by rw [← htC]; show (toL c.T M m c.T.nodes.toNat).length = N; rw [toL_len, hNt]
      have hgA : ∀ d, d < N → tA.ents[d]? = some ⟨nextL c.T [] m d, false, []⟩ := fun d hd => by rw [← htA]; show (toL c.T [] m c.T.nodes.toNat)[d]? = _; rw [hNt]; exact toL_get hd
      have hgB : ∀ d, d < N → tB.ents[d]? = some (entX c.T M m (d : Int)) := fun d hd => by rw [← htB]; show (trnL c.T M m c.T.nodes.toNat)[d]? = _; rw [hNt]; exact trnL_get hd
      have hgC : ∀ d, d < N → tC.ents[d]? = some ⟨nextL c.T M m d, false, []⟩ := fun d hd => by rw [← htC]; show (toL c.T M m c.T.nodes.toNat)[d]? = _; rw [hNt]; exact toL_get hd
      have hsg := fun y : Int => rsseg_can c.T M c.n y s1
      clear h1 h2 h3 hw1 hw2 haw hy hc hA hB hC he he'
      refine W_skip ?_
      refine W_cs (.a 4 rfl <| .c rfl (hmk) rfl <| .a 5 rfl <| .k [1, 3, 5, 7, 9] rfl) ?_
      refine W_seq ?_
      refine W_cs (.a 4 rfl <| .k [1, 3, 5, 7, 9, 67, 68] rfl) ?_
      refine W_block ?_
      refine W_k [1, 3, 5, 7, 9, 67, 68] rfl ?_
      refine W_loop (fun r s => ∃ d, d ≤ N ∧ r = N - d ∧ s = ⟨[(1, .pin (q30P c) 0), (3, .ptr 0 0), (5, .ptr 1 0), (7, .ptr 2 0), (9, boolsV M), (67, num tA.ents.length), (68, num d)], [some (.cells 35 (tabP tA)), some (.cells 35 (tabP tB)), some (.cells 35 (tabP tC))]⟩) N ⟨0, by omega, by omega, rfl⟩ ?_
      rintro r s ⟨d, hd, rfl, rfl⟩
      refine W_cs (.a 1 rfl <| .k [1, 3, 5, 7, 9, 67, 68, 69] rfl) ?_
      refine W_seq ?_
      refine W_cond rfl (fun h1 => ?_) (fun h1 => ?_)
      · have hlt : d < N := by have := tt h1; omega
        refine W_skip ?_
        refine W_seq ?_
        refine W_block ?_
        refine W_cs (.a 2 rfl <| .k [1, 3, 5, 7, 9, 11, 67, 68] rfl) ?_
        refine W_seq ?_
        refine W_cs (.a 6 rfl <| .c rfl (hsg d) rfl <| .a 1 rfl <| .k [1, 3, 5, 7, 9, 11, 67, 68, 78] rfl) ?_
        refine W_cond rfl (fun h4 => ?_) (fun h4 => ?_)
        · skip
          refine W_exit ?_
          refine W_chain (.v (y_ar rfl) rfl <| .a 1 rfl <| .k [1, 3, 5, 7, 9, 67, 68] rfl) ?_
          first
            | exact ⟨N - (d + 1), by omega, d + 1, by omega, rfl, rfl⟩
            | exact ⟨N - (y + 1), by omega, y + 1, by omega, rfl, rfl⟩
        · have h4 : sgB c.T M c.n (d : Int) = true := by simpa using h4
          obtain ⟨x, y, hx, hyy, hst, _⟩ := stab_of h4
          have e1 : x = m := by omega
          have e2 : y = d := by omega
          subst e1
          subst e2
          obtain ⟨n1, n2, n3⟩ := hst.ent
          have hb1 := hgA y hlt
          have hb2 := hgB y hlt
          have hb3 := hgC y hlt
          rw [n1] at hb1
          rw [n3] at hb2
          rw [n2] at hb3
          generalize (spathL c.T [] x y).getD 0 0 = p0 at *
          have g1 : (entsP tA.ents)[y * 3]? = some (intsV [p0]) := (ents_get _ y 0 _ hb1 (by omega)).trans rfl
          have g2 : (entsP tB.ents)[y * 3]? = some (intsV [p0]) := (ents_get _ y 0 _ hb2 (by omega)).trans rfl
          have g3 : (entsP tB.ents)[y * 3 + 1]? = some (flag true) := (ents_get _ y 1 _ hb2 (by omega)).trans rfl
          have g4 : (entsP tB.ents)[y * 3 + 2]? = some (segsV [⟨1, (y : Int)⟩]) := (ents_get _ y 2 _ hb2 (by omega)).trans rfl
          have g5 := ents_drop _ y _ hb1
          have g6 := ents_drop _ y _ hb3
          refine W_skip ?_
          refine W_grds 20 0 ([some (.cells 35 (tabP tA)), some (.cells 35 (tabP tB)), some (.cells 35 (tabP tC))] :: []) (⟨_, none, 0, 0⟩ :: ⟨_, none, 0, 0⟩ :: ⟨_, none, 0, 0⟩ :: ⟨_, none, 0, 0⟩ :: ⟨_, none, 0, 0⟩ :: ⟨_, none, 0, 0⟩ :: ⟨_, none, 0, 0⟩ :: ⟨_, none, 0, 0⟩ :: ⟨_, none, 0, 0⟩ :: ⟨_, none, 0, 0⟩ :: ⟨_, none, 0, 0⟩ :: ⟨_, none, 0, 0⟩ :: ⟨_, none, 0, 0⟩ :: ⟨_, none, 0, 0⟩ :: ⟨_, none, 0, 0⟩ :: ⟨_, none, 0, 0⟩ :: ⟨_, none, 0, 0⟩ :: ⟨_, none, 0, 0⟩ :: ⟨_, none, 0, 0⟩ :: ⟨_, none, 0, 0⟩ :: ⟨_, none, 0, 0⟩ :: ⟨_, none, 0, 0⟩ :: ⟨_, none, 0, 0⟩ :: ⟨_, none, 0, 0⟩ :: ⟨_, none, 0, 0⟩ :: ⟨_, none, 0, 0⟩ :: ⟨_, none, 0, 0⟩ :: ⟨_, none, 0, 0⟩ :: ⟨_, none, 0, 0⟩ :: ⟨_, none, 0, 0⟩ :: ⟨_, none, 0, 0⟩ :: ⟨_, none, 0, 0⟩ :: ⟨_, none, 0, 0⟩ :: ⟨_, none, 0, 0⟩ :: ⟨_, none, 0, 0⟩ :: ⟨_, none, 0, 0⟩ :: ⟨_, none, 0, 0⟩ :: ⟨_, none, 0, 0⟩ :: ⟨_, none, 0, 0⟩ :: ⟨_, none, 0, 0⟩ :: ⟨_, none, 0, 0⟩ :: ⟨_, none, 0, 0⟩ :: ⟨_, none, 0, 0⟩ :: ⟨_, none, 0, 0⟩ :: ⟨_, none, 0, 0⟩ :: ⟨_, none, 0, 0⟩ :: ⟨_, none, 0, 0⟩ :: ⟨_, none, 0, 0⟩ :: ⟨_, none, 0, 0⟩ :: ⟨_, none, 0, 0⟩ :: ⟨_, none, 0, 0⟩ :: ⟨_, none, 0, 0⟩ :: ⟨_, none, 0, 0⟩ :: ⟨_, none, 0, 0⟩ :: ⟨_, none, 0, 0⟩ :: ⟨_, none, 0, 0⟩ :: ⟨_, none, 0, 0⟩ :: ⟨_, none, 0, 0⟩ :: ⟨_, none, 0, 0⟩ :: ⟨_, none, 0, 0⟩ :: []) _ mixed ?grd1 rfl rfl rfl rfl (.cons (.val [3] rfl rfl (yz (ya1 (y_a rfl) ya0)) rfl rfl) <| .cons (.val [79] rfl rfl (yz (ya1 (y_a rfl) ya0)) rfl rfl) <| .cons (.val [11] rfl rfl (yz (ya1 (y_a rfl) ya0)) rfl rfl) <| .cons (.val [80, 81] rfl rfl (yz (ya1 (y_ix ((y * 3)) rfl) ya0)) rfl rfl) <| .cons (.val [82] rfl rfl (yz (ya1 (y_a rfl) ya0)) rfl rfl) <| .cons (.val [83] rfl rfl (yz (ya1 (y_ld rfl (g1)) ya0)) rfl rfl) <| .cons (.val [84] rfl rfl (yz (ya1 (y_a rfl) ya0)) rfl rfl) <| .cons (.val [85] rfl rfl (yz (ya1 (y_a rfl) ya0)) rfl rfl) <| .cons (.val [86] rfl rfl (yz (ya1 (y_a rfl) ya0)) rfl rfl) <| .cons (.val [3] rfl rfl (yz (ya1 (y_a rfl) ya0)) rfl rfl) <| .cons (.val [88] rfl rfl (yz (ya1 (y_a rfl) ya0)) rfl rfl) <| .cons (.val [11] rfl rfl (yz (ya1 (y_a rfl) ya0)) rfl rfl) <| .cons (.val [89, 90] rfl rfl (yz (ya1 (y_ix ((y * 3)) rfl) ya0)) rfl rfl) <| .cons (.val [91] rfl rfl (yz (ya1 (y_la rfl (g5) rfl) ya0)) rfl rfl) <| .cons (.val [7] rfl rfl (yz (ya1 (y_a rfl) ya0)) rfl rfl) <| .cons (.val [93] rfl rfl (yz (ya1 (y_a rfl) ya0)) rfl rfl) <| .cons (.val [11] rfl rfl (yz (ya1 (y_a rfl) ya0)) rfl rfl) <| .cons (.val [94, 95] rfl rfl (yz (ya1 (y_ix ((y * 3)) rfl) ya0)) rfl rfl) <| .cons (.val [96] rfl rfl (yz (ya1 (y_la rfl (g6) rfl) ya0)) rfl rfl) <| .cons (.val [92, 97] rfl rfl (yz (ya1 (y_c rfl (rsent_yes ⟨[p0], false, []⟩)) ya0)) rfl rfl) <| .cons (.val [98] rfl rfl (yz (ya1 (y_a rfl) ya0)) rfl rfl) <| .cons (.val [87, 99] rfl rfl (yz (ya1 (y_a rfl) ya0)) rfl rfl) <| .cons (.val [100] rfl rfl (yz (ya1 (y_a rfl) ya0)) rfl rfl) <| .cons (.val [3] rfl rfl (yz (ya1 (y_a rfl) ya0)) rfl rfl) <| .cons (.val [102] rfl rfl (yz (ya1 (y_a rfl) ya0)) rfl rfl) <| .cons (.val [11] rfl rfl (yz (ya1 (y_a rfl) ya0)) rfl rfl) <| .cons (.val [103, 104] rfl rfl (yz (ya1 (y_ix ((y * 3)) rfl) ya0)) rfl rfl) <| .cons (.val [105] rfl rfl (yz (ya1 (y_a rfl) ya0)) rfl rfl) <| .cons (.val [106] rfl rfl (yz (ya1 (y_ld rfl (g1)) ya0)) rfl rfl) <| .cons (.val [5] rfl rfl (yz (ya1 (y_a rfl) ya0)) rfl rfl) <| .cons (.val [108] rfl rfl (yz (ya1 (y_a rfl) ya0)) rfl rfl) <| .cons (.val [11] rfl rfl (yz (ya1 (y_a rfl) ya0)) rfl rfl) <| .cons (.val [109, 110] rfl rfl (yz (ya1 (y_ix ((y * 3)) rfl) ya0)) rfl rfl) <| .cons (.val [111] rfl rfl (yz (ya1 (y_a rfl) ya0)) rfl rfl) <| .cons (.val [112] rfl rfl (yz (ya1 (y_ld rfl (g2)) ya0)) rfl rfl) <| .cons (.val [107, 113] rfl rfl (yz (ya1 (y_c rfl (rsame_yes [p0])) ya0)) rfl rfl) <| .cons (.val [114] rfl rfl (yz (ya1 (y_a rfl) ya0)) rfl rfl) <| .cons (.val [101, 115] rfl rfl (yz (ya1 (y_a rfl) ya0)) rfl rfl) <| .cons (.val [116] rfl rfl (yz (ya1 (y_a rfl) ya0)) rfl rfl) <| .cons (.val [5] rfl rfl (yz (ya1 (y_a rfl) ya0)) rfl rfl) <| .cons (.val [118] rfl rfl (yz (ya1 (y_a rfl) ya0)) rfl rfl) <| .cons (.val [11] rfl rfl (yz (ya1 (y_a rfl) ya0)) rfl rfl) <| .cons (.val [119, 120] rfl rfl (yz (ya1 (y_ix ((y * 3)) rfl) ya0)) rfl rfl) <| .cons (.val [121] rfl rfl (yz (ya1 (y_a rfl) ya0)) rfl rfl) <| .cons (.val [122] rfl rfl (yz (ya1 (y_ld rfl (g3)) ya0)) rfl rfl) <| .cons (.val [123] rfl rfl (yz (ya1 (y_a rfl) ya0)) rfl rfl) <| .cons (.val [117, 124] rfl rfl (yz (ya1 (y_a rfl) ya0)) rfl rfl) <| .cons (.val [125] rfl rfl (yz (ya1 (y_a rfl) ya0)) rfl rfl) <| .cons (.val [5] rfl rfl (yz (ya1 (y_a rfl) ya0)) rfl rfl) <| .cons (.val [127] rfl rfl (yz (ya1 (y_a rfl) ya0)) rfl rfl) <| .cons (.val [11] rfl rfl (yz (ya1 (y_a rfl) ya0)) rfl rfl) <| .cons (.val [128, 129] rfl rfl (yz (ya1 (y_ix ((y * 3)) rfl) ya0)) rfl rfl) <| .cons (.val [130] rfl rfl (yz (ya1 (y_a rfl) ya0)) rfl rfl) <| .cons (.val [131] rfl rfl (yz (ya1 (y_ld rfl (g4)) ya0)) rfl rfl) <| .cons (.val [11] rfl rfl (yz (ya1 (y_a rfl) ya0)) rfl rfl) <| .cons (.val [133] rfl rfl (yz (ya1 (y_a rfl) ya0)) rfl rfl) <| .cons (.val [134] rfl rfl (yz (ya1 (y_a rfl) ya0)) rfl rfl) <| .cons (.val [132, 135] rfl rfl (yz (ya1 (y_c rfl (rsegs_yes [⟨1, (y : Int)⟩])) ya0)) rfl rfl) <| .cons (.val [136] rfl rfl (yz (ya1 (y_a rfl) ya0)) rfl rfl) <| .cons (.val [126, 137] rfl rfl (yz (ya1 (y_a rfl) ya0)) rfl rfl) .nil) (keepT_sub (ks := [1, 3, 5, 7, 9, 67, 68, 138]) rfl) ?_
          case grd1 => kernel_rfl
          refine W_cond rfl (fun h => ?_) (fun h => ?_)
          · exact absurd h (by decide)
          · clear h
            refine W_skip ?_
            refine W_chain (.v (y_ar rfl) rfl <| .a 1 rfl <| .k [1, 3, 5, 7, 9, 67, 68] rfl) ?_
            first
              | exact ⟨N - (d + 1), by omega, d + 1, by omega, rfl, rfl⟩
              | exact ⟨N - (y + 1), by omega, y + 1, by omega, rfl, rfl⟩
      · clear h1
        refine W_exit ?_
        refine W_cs (.a 1 rfl <| .k [2] rfl) ?_
        refine W_ret ?_
        exact ⟨_, _, ResL.of rfl, Pur.pure, rfl⟩
set_option maxRecDepth 10000 in
set_option maxHeartbeats 1000000 in
theorem lawTLists_can (c : Q30) : Can Tryz.prog 6 [q30V c] (· = flag true) := by
  obtain ⟨w1, hw1⟩ : ∃ q, q = true := ⟨_, rfl⟩
  have haw : Can Tryz.prog 14 [] (· = flag w1) := hw1 ▸ awake30_can
  obtain ⟨w2, hw2⟩ : ∃ q, tooBig c.T = q := ⟨_, rfl⟩
  refine can_of Tryz.func6 rfl Tryz.ntmps6 rfl ?_
  refine W_cs (.a 2 rfl <| .k [1] rfl) ?_
  refine W_seq ?_
  refine W_csK 16 (.raw (.bool ((!w1) || w2))) [1] rfl ?_ ?_
  · refine .c rfl (haw) rfl <| .a 2 rfl <| ?_
    cases w1
    · exact .a 3 rfl <| .k [16, 1] rfl
    · exact .a 1 rfl <| .c rfl (hw2 ▸ large30_can c) rfl <| .a 1 rfl <| .k [16, 1] rfl
  refine W_cond rfl (fun hc => ?_) (fun hc => ?_)
  · skip
    refine W_cs (.c rfl (awake30_can) rfl <| .a 1 rfl <| .k [2] rfl) ?_
    refine W_ret ?_
    exact ⟨_, _, ResL.of rfl, Pur.pure, rfl⟩
  · have hy : tooBig c.T = false := by rw [hw2]; exact (Bool.or_eq_false_iff.1 hc).2
    obtain ⟨s1, s2⟩ := not_big hy
    have hB := ttab_can c.T c.k c.x c.n s1
    unfold tabE at hB
    obtain ⟨e, he⟩ : ∃ e, trnE c.T c.k c.x c.n = e := ⟨_, rfl⟩
    rw [he] at hB
    obtain ⟨tB, htB⟩ : ∃ t, (if e = 0 then trnT c.T (maskL c.T c.k c.x) c.n.toNat else ⟨0, [], []⟩) = t := ⟨_, rfl⟩
    rw [htB] at hB
    refine W_skip ?_
    refine W_rs ?_
    refine WR_a 6 rfl <| WR_c rfl (hB) rfl <| WR_a 6 rfl <| WR_k [1, 3, 4] rfl ?_
    refine W_seq ?_
    refine W_cs (.a 2 rfl <| .k [1, 3, 29] rfl) ?_
    refine W_cond rfl (fun h3 => ?_) (fun h3 => ?_)
    · skip
      refine W_cs (.a 1 rfl <| .k [2] rfl) ?_
      refine W_ret ?_
      exact ⟨_, _, ResL.of rfl, Pur.pure, rfl⟩
    · have he0 : e = 0 := Classical.byContradiction (ff h3)
      subst he0
      rw [if_pos rfl] at htB
      obtain ⟨hm, hn⟩ := trnE_zero he
      obtain ⟨hv, hcp⟩ := Bool.and_eq_true_iff.1 hm
      rw [nodeB_iff] at hn
      obtain ⟨m, hm'⟩ := Int.eq_ofNat_of_zero_le hn.1
      rw [hm', Int.toNat_natCast] at htB
      have hmN : (m : Int) < c.T.nodes := by omega
      have hN := (sound_of hv).nodes
      obtain ⟨N, hNN⟩ : ∃ N : Nat, c.T.nodes = (N : Int) := ⟨c.T.nodes.toNat, by omega⟩
      have hNt : c.T.nodes.toNat = N := by omega
      have hmk := rmask_can c.T c.k c.x
      have hm0 : maskE c.T c.k c.x = 0 := by unfold maskE; rw [if_pos hm]
      unfold boolsE at hmk
      rw [hm0, if_pos rfl] at hmk
      obtain ⟨M, hM⟩ : ∃ M, maskL c.T c.k c.x = M := ⟨_, rfl⟩
      rw [hM] at hmk htB
      have hlB : tB.ents.length = N := by rw [← htB]; show (trnL c.T M m c.T.nodes.toNat).length = N; rw [trnL_len, hNt]
      have hgB : ∀ d, d < N → tB.ents[d]? = some (entX c.T M m (d : Int)) := fun d hd => by rw [← htB]; show (trnL c.T M m c.T.nodes.toNat)[d]? = _; rw [hNt]; exact trnL_get hd
      clear h3 hw1 hw2 haw hy hc hB he
      refine W_skip ?_
      refine W_cs (.a 4 rfl <| .c rfl (hmk) rfl <| .a 5 rfl <| .k [1, 3, 5] rfl) ?_
      refine W_seq ?_
      refine W_cs (.a 4 rfl <| .k [1, 5, 39, 40, 41] rfl) ?_
      refine W_ren [] (.c 1 <| .c 5 <| .c 39 <| .c 40 <| .c 41 <| .nil) .nil rfl rfl ?_
      refine W_block ?_
      refine W_k [1, 5, 39, 40, 41] rfl ?_
      refine W_loop (fun r s => ∃ d, d ≤ N ∧ r = N - d ∧ s = ⟨[(1, .pin (q30P c) 0), (5, boolsV M), (39, entsV tB.ents), (40, num tB.ents.length), (41, num d)], []⟩) N ⟨0, by omega, by omega, rfl⟩ ?_
      rintro r s ⟨d, hd, rfl, rfl⟩
      refine W_cs (.a 1 rfl <| .k [1, 5, 39, 40, 41, 42] rfl) ?_
      refine W_seq ?_
      refine W_cond rfl (fun h1 => ?_) (fun h1 => ?_)
      · have hlt : d < N := by have := tt h1; omega
        have hb2 := hgB d hlt
        have g5 := ents_drop _ d _ hb2
        have hcases := ent_cases c.T M m (d : Int)
        have hpl := ent_push c.T M m (d : Int) s1
        obtain ⟨x, hx⟩ : ∃ x, entX c.T M m (d : Int) = x := ⟨_, rfl⟩
        rw [hx] at g5 hcases hpl
        refine W_skip ?_
        refine W_seq ?_
        refine W_block ?_
        refine W_rs ?_
        refine WR_a 1 rfl <| WR_v (y_ix ((d * 3)) rfl) rfl <| WR_v (y_la rfl (g5) rfl) rfl <| WR_a 3 rfl <| WR_k [1, 5, 7, 8, 39, 40, 41] rfl ?_
        refine W_seq ?_
        refine W_cs (.a 4 rfl <| .k [1, 5, 7, 8, 39, 40, 41, 49] rfl) ?_
        refine W_cond rfl (fun h4 => ?_) (fun h4 => ?_)
        · refine W_ren [] (.c 1 <| .c 5 <| .c 39 <| .c 40 <| .c 41 <| .nil) .nil rfl rfl ?_
          refine W_exit ?_
          refine W_chain (.v (y_ar rfl) rfl <| .a 1 rfl <| .k [1, 5, 39, 40, 41] rfl) ?_
          first
            | exact ⟨N - (d + 1), by omega, d + 1, by omega, rfl, rfl⟩
            | exact ⟨N - (b + 1), by omega, b + 1, by omega, rfl, rfl⟩
        · obtain ⟨a, b, ha, hb, hp, hxe⟩ : ∃ a b : Nat, (m : Int) = a ∧ (d : Int) = b ∧ Pth c.T M a b (spathL c.T M a b) ∧ x = ⟨[(spathL c.T M a b).getD 0 0], true, cutL (lstL c.T [] a (spathL c.T M a b))⟩ := by
            rcases hcases with ⟨h, _⟩ | h
            · rw [h] at h4; exact absurd rfl (ff h4)
            · exact h
          have e1 : a = m := by omega
          have e2 : b = d := by omega
          subst e1
          subst e2
          have hrp := rspath_can c.T M c.n (b : Int)
          have hsp0 : spE c.T M c.n (b : Int) = 0 := by
            rw [hm', spE_zero hv hp.fits hmN (by omega), if_neg]
            have := (hp.sp.cost hv hp.hy).2
            omega
          have htn : c.n.toNat = a := by omega
          rw [hsp0, htn, Int.toNat_natCast] at hrp
          unfold intsE at hrp
          rw [if_pos rfl] at hrp
          have hlen := hp.len
          have hwh := hp.whole
          subst hxe
          simp only at hpl
          obtain ⟨p, hpp⟩ : ∃ p, spathL c.T M a b = p := ⟨_, rfl⟩
          rw [hpp] at hrp hwh hlen hpl ⊢
          obtain ⟨l, hl⟩ : ∃ l, cutL (lstL c.T [] a p) = l := ⟨_, rfl⟩
          rw [hl] at hwh hpl ⊢
          obtain ⟨p0, hp0⟩ : ∃ q, p.getD 0 0 = q := ⟨_, rfl⟩
          rw [hp0] at hwh ⊢
          have hc1 := rck_can c.T M l c.n p (by omega) s1 (by omega)
          have hc2 := rck_can c.T M (⟨2, p0⟩ :: l) c.n p (by omega) s1 (by simp only [List.length_cons]; omega)
          rw [← hm'] at hwh
          obtain ⟨g, hg⟩ : ∃ g, ckE c.T M l c.n p = g := ⟨_, rfl⟩
          rw [hg] at hc1 hwh
          have hc2 : g = false → Can Tryz.prog 32 [topoV c.T, boolsV M, segsV (⟨2, p0⟩ :: l), num c.n, intsV p] (· = flag true) := fun h => by
            rcases hwh with h' | h'
            · rw [h] at h'; cases h'
            · rw [h'] at hc2; exact hc2
          clear h4 hcases g5 hx hb2 hgB hp hpp hl hp0
          refine W_skip ?_
          refine W_cs (.a 6 rfl <| .c rfl (hrp) rfl <| .a 5 rfl <| .k [1, 5, 8, 9, 10, 39, 40, 41] rfl) ?_
          refine W_seqM (Q1 := fun st => ∃ ex, st = ⟨[(92, flag false), (1, .pin (q30P c) 0), (5, boolsV M), (39, entsV tB.ents), (40, num tB.ents.length), (41, num b)], ex⟩) ?_ ?_
          · cases g
            · refine W_grd 20 2 ([some (.cells 47 (entP ⟨[p0], true, l⟩))] :: [some (.cells 47 (entP ⟨[p0], true, l⟩)), some (.row 53 2 1 (segsP [⟨2, p0⟩]))] :: [some (.cells 47 (entP ⟨[p0], true, l⟩)), none, some (.row 53 2 (1 + l.length) (segsP [⟨2, p0⟩] ++ segsP l))] :: []) (⟨_, none, 0, 0⟩ :: ⟨_, none, 0, 0⟩ :: ⟨_, none, 0, 0⟩ :: ⟨_, none, 0, 0⟩ :: ⟨_, none, 0, 0⟩ :: ⟨_, none, 0, 0⟩ :: ⟨_, none, 0, 0⟩ :: ⟨_, none, 0, 0⟩ :: ⟨_, none, 0, 0⟩ :: ⟨_, none, 0, 0⟩ :: ⟨_, none, 0, 0⟩ :: ⟨_, none, 0, 0⟩ :: ⟨_, none, 0, 0⟩ :: ⟨_, none, 0, 0⟩ :: ⟨_, none, 0, 2⟩ :: ⟨_, none, 0, 2⟩ :: ⟨_, none, 0, 2⟩ :: ⟨_, none, 0, 0⟩ :: ⟨_, none, 0, 0⟩ :: ⟨_, none, 0, 0⟩ :: ⟨_, none, 0, 0⟩ :: ⟨_, none, 0, 0⟩ :: ⟨.own 1, some 0, 0, 0⟩ :: ⟨_, none, 0, 1⟩ :: ⟨_, none, 0, 1⟩ :: ⟨.own 2, some 1, 0, 0⟩ :: ⟨_, none, 0, 2⟩ :: ⟨_, none, 0, 2⟩ :: ⟨_, none, 0, 2⟩ :: ⟨_, none, 2, 2⟩ :: ⟨_, none, 2, 2⟩ :: ⟨_, none, 2, 2⟩ :: ⟨_, none, 2, 2⟩ :: []) _ mixed ?grd2 rfl rfl rfl rfl (.cons (.val [10] rfl rfl (yz (ya1 (y_a rfl) ya0)) rfl rfl) <| .cons (.val [60] rfl rfl (yz (ya1 (y_a rfl) ya0)) rfl rfl) <| .cons (.val [61] rfl rfl (yz (ya1 (y_a rfl) ya0)) rfl rfl) <| .cons (.val [1] rfl rfl (yz (ya1 (y_a rfl) ya0)) rfl rfl) <| .cons (.val [63] rfl rfl (yz (ya1 (y_a rfl) ya0)) rfl rfl) <| .cons (.val [5] rfl rfl (yz (ya1 (y_a rfl) ya0)) rfl rfl) <| .cons (.val [8] rfl rfl (yz (ya1 (y_a rfl) ya0)) rfl rfl) <| .cons (.val [66] rfl rfl (yz (ya1 (y_a rfl) ya0)) rfl rfl) <| .cons (.val [1] rfl rfl (yz (ya1 (y_a rfl) ya0)) rfl rfl) <| .cons (.val [68] rfl rfl (yz (ya1 (y_a rfl) ya0)) rfl rfl) <| .cons (.val [9] rfl rfl (yz (ya1 (y_a rfl) ya0)) rfl rfl) <| .cons (.val [64, 65, 67, 69, 70] rfl rfl (yz (ya1 (y_c rfl (hc1)) ya0)) rfl rfl) <| .cons (.val [71] rfl rfl (yz (ya1 (y_a rfl) ya0)) rfl rfl) <| .cons (.val [72] rfl rfl (yz (ya1 (y_a rfl) ya0)) rfl rfl) <| .cons (.val [1] rfl rfl (yz (ya1 (y_a rfl) (ya1 (y_a rfl) (ya1 (y_a rfl) ya0)))) rfl rfl) <| .cons (.val [74] rfl rfl (yz (ya1 (y_a rfl) (ya1 (y_a rfl) (ya1 (y_a rfl) ya0)))) rfl rfl) <| .cons (.val [5] rfl rfl (yz (ya1 (y_a rfl) (ya1 (y_a rfl) (ya1 (y_a rfl) ya0)))) rfl rfl) <| .cons (.val [8] rfl rfl (yz (ya1 (y_a rfl) ya0)) rfl rfl) <| .cons (.val [77] rfl rfl (yz (ya1 (y_a rfl) ya0)) rfl rfl) <| .cons (.val [78] rfl rfl (yz (ya1 (y_ix (0) rfl (by omega) (by simp)) ya0)) rfl rfl) <| .cons (.val [79] rfl rfl (yz (ya1 (y_ld rfl ((show (intsP [p0])[0]? = some (num p0) from rfl))) ya0)) rfl rfl) <| .cons (.val [80] rfl rfl (yz (ya1 (y_a rfl) ya0)) rfl rfl) <| .cons (.loud [81] rfl rfl rfl rfl (l_buildSlice (xs := [_, _]) rfl (fok.sl.get rfl) ⟨Nat.le_of_ble_eq_true rfl, Nat.le_of_ble_eq_true rfl⟩ rfl rfl) rfl rfl) <| .cons (.val [8] rfl rfl (yz (ya1 (y_a rfl) (ya1 (y_a rfl) ya0))) rfl rfl) <| .cons (.val [83] rfl rfl (yz (ya1 (y_a rfl) (ya1 (y_a rfl) ya0))) rfl rfl) <| .cons (.loud [82, 84] rfl rfl rfl rfl (l_append (σ := [some (.cells 47 (entP ⟨[p0], true, l⟩)), some (.row 53 2 1 (segsP [⟨2, p0⟩]))]) (i := 1) (n := 1) (xs := segsP [⟨2, p0⟩]) rfl (fok.rk.get rfl) rfl rfl rfl (segsP_len l) (show 1 + l.length ≤ maxLen ∧ (1 + l.length) * 16 ≤ 140737488355328 by unfold maxLen; omega)) rfl rfl) <| .cons (.val [1] rfl rfl (yz (ya1 (y_a rfl) (ya1 (y_a rfl) (ya1 (y_a rfl) ya0)))) rfl rfl) <| .cons (.val [86] rfl rfl (yz (ya1 (y_a rfl) (ya1 (y_a rfl) (ya1 (y_a rfl) ya0)))) rfl rfl) <| .cons (.val [9] rfl rfl (yz (ya1 (y_a rfl) (ya1 (y_a rfl) (ya1 (y_a rfl) ya0)))) rfl rfl) <| .cons (.val [75, 76, 85, 87, 88] rfl rfl (yz (ya1 (y_cV rfl (PurL.cons Pur.pure <| PurL.cons Pur.pure <| PurL.cons (y := segsV (List.cons ⟨2, p0⟩ l)) (Pur.ownE (xs := segsP [⟨2, p0⟩] ++ segsP l) (n := 1 + l.length) rfl (by simp [segsP]) (by simp [Nat.add_comm])) <| PurL.cons Pur.pure <| PurL.cons Pur.pure PurL.nil) ((hc2 rfl))) ya0)) rfl rfl) <| .cons (.val [89] rfl rfl (yz (ya1 (y_a rfl) ya0)) rfl rfl) <| .cons (.val [73, 90] rfl rfl (yz (ya1 (y_a rfl) ya0)) rfl rfl) <| .cons (.val [62, 91] rfl rfl (yz (ya1 (y_a rfl) ya0)) rfl rfl) .nil) (keepT_sub (ks := [92, 1, 5, 39, 40, 41]) rfl) ?_
              case grd2 => kernel_rfl
              exact ⟨_, rfl⟩
            · refine W_grd 20 0 ([some (.cells 47 (entP ⟨[p0], true, l⟩))] :: []) (⟨_, none, 0, 0⟩ :: ⟨_, none, 0, 0⟩ :: ⟨_, none, 0, 0⟩ :: ⟨_, none, 0, 0⟩ :: ⟨_, none, 0, 0⟩ :: ⟨_, none, 0, 0⟩ :: ⟨_, none, 0, 0⟩ :: ⟨_, none, 0, 0⟩ :: ⟨_, none, 0, 0⟩ :: ⟨_, none, 0, 0⟩ :: ⟨_, none, 0, 0⟩ :: ⟨_, none, 0, 0⟩ :: ⟨_, none, 0, 0⟩ :: ⟨_, none, 0, 0⟩ :: ⟨_, none, 0, 0⟩ :: ⟨_, none, 0, 0⟩ :: ⟨_, none, 0, 0⟩ :: ⟨_, none, 0, 0⟩ :: ⟨_, none, 0, 0⟩ :: ⟨_, none, 0, 0⟩ :: ⟨_, none, 0, 0⟩ :: ⟨_, none, 0, 0⟩ :: ⟨_, none, 0, 0⟩ :: ⟨_, none, 0, 0⟩ :: ⟨_, none, 0, 0⟩ :: ⟨_, none, 0, 0⟩ :: ⟨_, none, 0, 0⟩ :: ⟨_, none, 0, 0⟩ :: ⟨_, none, 0, 0⟩ :: ⟨_, none, 0, 0⟩ :: ⟨_, none, 0, 0⟩ :: ⟨_, none, 0, 0⟩ :: ⟨_, none, 0, 0⟩ :: []) _ mixed ?grd3 rfl rfl rfl rfl (.cons (.val [10] rfl rfl (yz (ya1 (y_a rfl) ya0)) rfl rfl) <| .cons (.val [60] rfl rfl (yz (ya1 (y_a rfl) ya0)) rfl rfl) <| .cons (.val [61] rfl rfl (yz (ya1 (y_a rfl) ya0)) rfl rfl) <| .cons (.val [1] rfl rfl (yz (ya1 (y_a rfl) ya0)) rfl rfl) <| .cons (.val [63] rfl rfl (yz (ya1 (y_a rfl) ya0)) rfl rfl) <| .cons (.val [5] rfl rfl (yz (ya1 (y_a rfl) ya0)) rfl rfl) <| .cons (.val [8] rfl rfl (yz (ya1 (y_a rfl) ya0)) rfl rfl) <| .cons (.val [66] rfl rfl (yz (ya1 (y_a rfl) ya0)) rfl rfl) <| .cons (.val [1] rfl rfl (yz (ya1 (y_a rfl) ya0)) rfl rfl) <| .cons (.val [68] rfl rfl (yz (ya1 (y_a rfl) ya0)) rfl rfl) <| .cons (.val [9] rfl rfl (yz (ya1 (y_a rfl) ya0)) rfl rfl) <| .cons (.val [64, 65, 67, 69, 70] rfl rfl (yz (ya1 (y_c rfl (hc1)) ya0)) rfl rfl) <| .cons (.val [71] rfl rfl (yz (ya1 (y_a rfl) ya0)) rfl rfl) <| .cons (.val [72] rfl rfl (yz (ya1 (y_a rfl) ya0)) rfl rfl) <| .cons (.skip rfl rfl rfl) <| .cons (.skip rfl rfl rfl) <| .cons (.skip rfl rfl rfl) <| .cons (.skip rfl rfl rfl) <| .cons (.skip rfl rfl rfl) <| .cons (.skip rfl rfl rfl) <| .cons (.skip rfl rfl rfl) <| .cons (.skip rfl rfl rfl) <| .cons (.skip rfl rfl rfl) <| .cons (.skip rfl rfl rfl) <| .cons (.skip rfl rfl rfl) <| .cons (.skip rfl rfl rfl) <| .cons (.skip rfl rfl rfl) <| .cons (.skip rfl rfl rfl) <| .cons (.skip rfl rfl rfl) <| .cons (.skip rfl rfl rfl) <| .cons (.skip rfl rfl rfl) <| .cons (.val [73, 90] rfl rfl (yz (ya1 (y_a rfl) ya0)) rfl rfl) <| .cons (.val [62, 91] rfl rfl (yz (ya1 (y_a rfl) ya0)) rfl rfl) .nil) (keepT_sub (ks := [92, 1, 5, 39, 40, 41]) rfl) ?_
              case grd3 => kernel_rfl
              exact ⟨_, rfl⟩
          rintro _ ⟨ex, rfl⟩
          refine W_cond rfl (fun h => ?_) (fun h => ?_)
          · exact absurd h (by decide)
          · refine W_ren [] (.c 1 <| .c 5 <| .c 39 <| .c 40 <| .c 41 <| .nil) .nil rfl rfl ?_
            refine W_skip ?_
            refine W_chain (.v (y_ar rfl) rfl <| .a 1 rfl <| .k [1, 5, 39, 40, 41] rfl) ?_
            first
              | exact ⟨N - (d + 1), by omega, d + 1, by omega, rfl, rfl⟩
              | exact ⟨N - (b + 1), by omega, b + 1, by omega, rfl, rfl⟩
      · clear h1
        refine W_exit ?_
        refine W_cs (.a 1 rfl <| .k [2] rfl) ?_
        refine W_ret ?_
        exact ⟨_, _, ResL.of rfl, Pur.pure, rfl⟩
end PW
end Go.Proofs.YtbpgndbjbaoolaaGreat

namespace Go.Proofs.YtbpgndbjbaoolaaGreat.transitionLists
set_option linter.unusedVariables false
set_option linter.unusedSimpArgs false
open Go.ChangeShapes Go.WideShapes Go.ChangeAt Go.RowKit
open Reg Mem PW

set_option maxRecDepth 100000 in
theorem lifted (os : Os) (started : os.Started) (H : Type) (enc : TypeId × Value → H) :
    ReturnsInHanded {} Tryz.checked os 6 .any (Rows.transitionListsSpec.pre6 enc Tryz.prog Tryz.f6 Rows.transitionListsRow.domain false) (Rows.transitionListsSpec.post enc Tryz.prog Tryz.f6 false true false false) := by
  refine returnsInHanded_of_change (C := Tryz.checked) own started (by kernel_rfl) Tryz.func6
    (ChangeSpec.witness6 (enc := enc) (C := Tryz.checked) false ⟨#[], #[.agg #[.int .i64 0, .slice none 0 0, .slice none 0 0, .int .i64 0, .int .i64 0, .int .i64 0]], []⟩ 8 (by kernel_rfl) (by kernel_rfl) (by kernel_rfl) (by kernel_rfl)) ?_
  intro W base args ds gs before hval0 hW hcnd _
  have hval : ∀ (j : Nat) t v, Tryz.f6.params[j]? = some t → args[j]? = some v → Value.okWide Tryz.prog W .any base t v := hval0
  have hW' := hW
  obtain ⟨p, q, hA0, hV, rfl, hfz, hnd⟩ := hW
  have hA : DataW.TrodAll enc Tryz.prog W 0 (fun _ => true) true Tryz.f6.params.toList args.toList ds p := hA0
  rw [Tryz.params6] at hA hval
  obtain ⟨v0, vs0, d0, ds0, p0, q0, hargs, rfl, rfl, h0, r0⟩ := trodAll_cons hA
  obtain ⟨rfl, rfl, rfl⟩ := trodAll_nil r0
  obtain rfl : args = #[v0] := by cases args; simp_all
  obtain ⟨rfl, rfl⟩ := trodVars_none hV
  have lt0 := lt_of h0
  obtain ⟨c, R0⟩ := rd_q30 (hval 0 29 v0 rfl rfl) h0
  clear hA0 hval0
  refine ((lawTLists_can c) (fun _ => False) W #[v0] (fun _ h => h.elim) (noGlob _ W) (RepL.cons R0 (RepL.nil _ _))).mono fun e W' ⟨x, he, bel, r, hr, hx⟩ => ?_
  subst hr
  cases hx
  subst he
  exact ⟨_, rfl, _, _, _, [], _, [], hW', trodAll_mk1 (shut_bool Tryz.underlying4 _), (trodAll_cons_mk (Below.trod laidOut (by kernel_rfl) (of_decide_eq_true (by kernel_rfl)) h0 bel lt0) trodAll_mk0), rfl, bel.frame _, fun h => by cases h⟩

theorem over : Rows.transitionListsRow.holds Tryz.pinned (OpenSpec.ofChange Rows.transitionListsSpec) :=
  OpenClaim.holds_of_wide 6 Tryz.f6 rfl rfl rfl rfl rfl rfl rfl ⟨rfl, rfl, rfl, rfl, rfl⟩ rfl rfl rfl rfl rfl (by kernel_rfl) Tryz.func6 (by kernel_rfl)
    (of_decide_eq_true (by kernel_rfl)) (by unfold Func.isWrapper; first | (rw [if_pos (by decide +kernel)]; kernel_rfl) | (rw [if_neg (by decide +kernel)]; exact ⟨rfl, rfl⟩))
    (fun os started H enc _ => lifted os started H enc)

theorem proved : Rows.TransitionListsSaid := over
end Go.Proofs.YtbpgndbjbaoolaaGreat.transitionLists
