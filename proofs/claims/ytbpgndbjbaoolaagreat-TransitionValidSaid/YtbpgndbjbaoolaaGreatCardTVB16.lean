/- TransitionValid returns true for every input: the tables are valid; those after the failure use no arc that is down; the arc in the state Transition is among those in the state Final, and both have arcs for the same destinations. No conditions. -/
import Derived.Test.YtbpgndbjbaoolaaGreatCardTVB15
/- The law TransitionValid, walked. -/
namespace Go.Proofs.YtbpgndbjbaoolaaGreat
set_option linter.unusedVariables false
set_option linter.unusedSimpArgs false
namespace PW
open Go.RowKit Reg Mem Net Rng

theorem rtvalid_yes {T : Topo} {x : Tab} (h : tabOK T x = true) : Can Tryz.prog 24 [topoV T, tabV x] (· = flag true) := by
  have := rtvalid_can T x
  rw [h] at this
  exact this
theorem rup_yes {D : List Bool} {a : Nat} (ha : D.length = 0 ∨ a < D.length) (h : downN D a = false) : Can Tryz.prog 26 [boolsV D, num a] (· = flag true) := by
  have := rup_can D a ha
  rw [h] at this
  exact this
theorem has_yes {l : List Int} {x : Int} (hl : l.length ≤ 100000) (h : x ∈ l) : Can Tryz.prog 27 [intsV l, num x] (· = flag true) := by
  have := has_can l x hl
  rw [decide_eq_true h] at this
  exact this
theorem next_len {T : Topo} (hv : validB T = true) (D : List Bool) (n d : Nat) : (nextL T D n d).length ≤ 512 := by
  have hl := links_le hv
  unfold nextL
  split
  · simp
  · exact Nat.le_trans (List.length_filter_le _ _) (Nat.le_trans (outTo_len T n _) (by omega))
set_option maxRecDepth 10000 in
set_option maxHeartbeats 1000000 in
theorem lawTValid_can (c : Q30) : Can Tryz.prog 4 [q30V c] (· = flag true) := by
  obtain ⟨w1, hw1⟩ : ∃ q, q = true := ⟨_, rfl⟩
  have haw : Can Tryz.prog 14 [] (· = flag w1) := hw1 ▸ awake30_can
  obtain ⟨w2, hw2⟩ : ∃ q, tooBig c.T = q := ⟨_, rfl⟩
  refine can_of Tryz.func4 rfl Tryz.ntmps4 rfl ?_
  refine W_cs (.a 2 rfl <| .k [1] rfl) ?_
  refine W_seq ?_
  refine W_csK 17 (.raw (.bool ((!w1) || w2))) [1] rfl ?_ ?_
  · refine .c rfl (haw) rfl <| .a 2 rfl <| ?_
    cases w1
    · exact .a 3 rfl <| .k [17, 1] rfl
    · exact .a 1 rfl <| .c rfl (hw2 ▸ large30_can c) rfl <| .a 1 rfl <| .k [17, 1] rfl
  refine W_cond rfl (fun hc => ?_) (fun hc => ?_)
  · skip
    refine W_cs (.c rfl (awake30_can) rfl <| .a 1 rfl <| .k [2] rfl) ?_
    refine W_ret ?_
    exact ⟨_, _, ResL.of rfl, Pur.pure, rfl⟩
  · have hy : tooBig c.T = false := by rw [hw2]; exact (Bool.or_eq_false_iff.1 hc).2
    obtain ⟨s1, s2⟩ := not_big hy
    have hB := ttab_can c.T c.k c.x c.n s1
    have hC := tfin_can c.T c.k c.x c.n
    unfold tabE at hB hC
    obtain ⟨e, he⟩ : ∃ e, trnE c.T c.k c.x c.n = e := ⟨_, rfl⟩
    rw [he] at hB hC
    obtain ⟨tB, htB⟩ : ∃ t, (if e = 0 then trnT c.T (maskL c.T c.k c.x) c.n.toNat else ⟨0, [], []⟩) = t := ⟨_, rfl⟩
    obtain ⟨tC, htC⟩ : ∃ t, (if e = 0 then routesT c.T (maskL c.T c.k c.x) c.n.toNat else ⟨0, [], []⟩) = t := ⟨_, rfl⟩
    rw [htB] at hB
    rw [htC] at hC
    obtain ⟨q1, h1⟩ : ∃ q, decide (e ≠ 0) = q := ⟨_, rfl⟩
    obtain ⟨q2, h2⟩ : ∃ q, decide (e = e) = q := ⟨_, rfl⟩
    have e2 : q2 = true := by rw [← h2]; exact decide_eq_true rfl
    refine W_skip ?_
    refine W_rs ?_
    refine WR_a 6 rfl <| WR_c rfl (hB) rfl <| WR_a 6 rfl <| WR_k [1, 3, 4] rfl ?_
    refine W_rs ?_
    refine WR_a 6 rfl <| WR_c rfl (hC) rfl <| WR_a 6 rfl <| WR_k [1, 3, 4, 5, 6] rfl ?_
    refine W_seq ?_
    refine W_csK 44 (.raw (.bool (q1 || q1))) [1, 3, 4, 5, 6] rfl ?_ ?_
    · refine .a 1 rfl <| .v (y_q rfl (h1)) rfl <| .a 1 rfl <| ?_
      cases q1
      · exact .a 1 rfl <| .v (y_q rfl (h1)) rfl <| .a 1 rfl <| .k [44, 1, 3, 4, 5, 6] rfl
      · exact .a 3 rfl <| .k [44, 1, 3, 4, 5, 6] rfl
    refine W_cond rfl (fun h3 => ?_) (fun h3 => ?_)
    · skip
      refine W_cs (.a 2 rfl <| .v (y_q rfl (h2)) rfl <| .a 1 rfl <| .k [2] rfl) ?_
      refine W_ret ?_
      exact ⟨_, _, ResL.of rfl, Pur.pure, by rw [e2]; rfl⟩
    · have he0 : e = 0 := Classical.byContradiction (fun h => by rw [decide_eq_true h] at h1; subst h1; cases h3)
      subst he0
      rw [if_pos rfl] at htB htC
      obtain ⟨hm, hn⟩ := trnE_zero he
      obtain ⟨hv, hcp⟩ := Bool.and_eq_true_iff.1 hm
      rw [nodeB_iff] at hn
      obtain ⟨m, hm'⟩ := Int.eq_ofNat_of_zero_le hn.1
      rw [hm', Int.toNat_natCast] at htB htC
      have hmN : (m : Int) < c.T.nodes := by omega
      have hN := (sound_of hv).nodes
      obtain ⟨N, hNN⟩ : ∃ N : Nat, c.T.nodes = (N : Int) := ⟨c.T.nodes.toNat, by omega⟩
      have hNt : c.T.nodes.toNat = N := by omega
      have hmk := rmask_can c.T c.k c.x
      have hm0 : maskE c.T c.k c.x = 0 := by unfold maskE; rw [if_pos hm]
      unfold boolsE at hmk
      rw [hm0, if_pos rfl] at hmk
      have hmf := mask_fits c.T c.k c.x
      have hMl := maskL_len c.T c.k c.x
      obtain ⟨M, hM⟩ : ∃ M, maskL c.T c.k c.x = M := ⟨_, rfl⟩
      rw [hM] at hmk hmf hMl htB htC
      have hvB : tabOK c.T tB = true := by rw [← htB]; exact trn_valid hv s1 hmN
      have hvC : tabOK c.T tC = true := by rw [← htC]; exact routes_valid hv hmN
      have hlB : tB.ents.length = N := by rw [← htB]; show (trnL c.T M m c.T.nodes.toNat).length = N; rw [trnL_len, hNt]
      have hlC : tC.ents.length = N := by rw [← htC]; show (toL c.T M m c.T.nodes.toNat).length = N; rw [toL_len, hNt]
      have hgB : ∀ d, d < N → tB.ents[d]? = some (entX c.T M m (d : Int)) := fun d hd => by rw [← htB]; show (trnL c.T M m c.T.nodes.toNat)[d]? = _; rw [hNt]; exact trnL_get hd
      have hgC : ∀ d, d < N → tC.ents[d]? = some ⟨nextL c.T M m d, false, []⟩ := fun d hd => by rw [← htC]; show (toL c.T M m c.T.nodes.toNat)[d]? = _; rw [hNt]; exact toL_get hd
      have hdn : tB.down = tC.down := by rw [← htB, ← htC]; rfl
      clear h1 h2 h3 hw1 hw2 haw hy hc hB hC
      refine W_skip ?_
      refine W_cs (.a 4 rfl <| .c rfl (hmk) rfl <| .a 5 rfl <| .k [1, 3, 5, 7] rfl) ?_
      refine W_seq ?_
      have hds := rsame_yes tB.down
      rw (occs := .pos [2]) [hdn] at hds
      refine W_csK 75 (.raw (.bool (false))) [3, 5, 7] rfl ?_ ?_
      · exact .a 3 rfl <| .c rfl (rtvalid_yes hvB) rfl <| .a 5 rfl <| .c rfl (rtvalid_yes hvC) rfl <| .a 7 rfl <| .c rfl (hds) rfl <| .a 2 rfl <| .k [75, 3, 5, 7] rfl
      refine W_cond rfl (fun h => ?_) (fun h => ?_)
      · exact absurd h (by decide)
      · clear h
        refine W_skip ?_
        refine W_seq ?_
        refine W_cs (.a 4 rfl <| .k [3, 5, 7, 78, 79] rfl) ?_
        refine W_block ?_
        refine W_k [3, 5, 7, 78, 79] rfl ?_
        refine W_loop (fun r s => ∃ d, d ≤ N ∧ r = N - d ∧ s = ⟨[(3, .ptr 0 0), (5, .ptr 1 0), (7, boolsV M), (78, num tB.ents.length), (79, num d)], [some (.cells 35 (tabP tB)), some (.cells 35 (tabP tC))]⟩) N ⟨0, by omega, by omega, rfl⟩ ?_
        rintro r s ⟨d, hd, rfl, rfl⟩
        refine W_cs (.a 1 rfl <| .k [3, 5, 7, 78, 79, 80] rfl) ?_
        refine W_seq ?_
        refine W_cond rfl (fun h1 => ?_) (fun h1 => ?_)
        · have hlt : d < N := by have := tt h1; omega
          have hb1 := hgB d hlt
          have hb2 := hgC d hlt
          have har := ent_arcs (T := c.T) (D := M) (n := m) (d := d) hv hmf hmN (by omega)
          obtain ⟨b, hb⟩ : ∃ b, decide (((entX c.T M m (d : Int)).arcs.length : Int) = 0) = b := ⟨_, rfl⟩
          have hb' : decide (((nextL c.T M m d).length : Int) = 0) = b := by
            rw [← hb]
            rcases har with ⟨a1, a2⟩ | ⟨a, l, a1, a2⟩
            · rw [a1, a2]
            · rw [a1, a2]
              exact (decide_eq_false (by simp; omega)).trans (decide_eq_false (by simp)).symm
          have hall : ∀ y ∈ (entX c.T M m (d : Int)).arcs ++ nextL c.T M m d, y ∈ nextL c.T M m d := fun y hy => by
            rcases List.mem_append.1 hy with h | h
            · rcases har with ⟨a1, a2⟩ | ⟨a, l, a1, a2⟩
              · rw [a1] at h; cases h
              · rw [a1] at h; rw [a2]; simp at h; subst h; simp
            · exact h
          have hal : (entX c.T M m (d : Int)).arcs.length ≤ 1 := by
            rcases har with ⟨a1, a2⟩ | ⟨a, l, a1, a2⟩ <;> rw [a1] <;> simp
          have hnl := next_len hv M m d
          have g1 : ((entsP tB.ents))[d * 3]? = some (intsV (entX c.T M m (d : Int)).arcs) := (ents_get _ d 0 _ hb1 (by omega)).trans rfl
          have g2 : ((entsP tC.ents))[d * 3]? = some (intsV (nextL c.T M m d)) := (ents_get _ d 0 _ hb2 (by omega)).trans rfl
          generalize (entX c.T M m (d : Int)).arcs = A at *
          obtain ⟨B, hB⟩ : ∃ B, nextL c.T M m d = B := ⟨_, rfl⟩
          have hnm : ∀ y ∈ B, ∃ k : Nat, y = k ∧ Nearer c.T M m d k := fun y hy => next_mem (by rw [hB]; exact hy)
          rw [hB] at hb' hall hnl g2
          refine W_skip ?_
          refine W_seq ?_
          refine W_block ?_
          refine W_cs (.a 2 rfl <| .k [3, 5, 7, 9, 78, 79] rfl) ?_
          refine W_seq ?_
          refine W_drs mixed (by kernel_rfl) (.a 3 rfl <| .v [83, 84] (y_ix ((d * 3)) rfl) rfl rfl <| .a 1 rfl <| .v [86] (y_ld rfl (g1)) rfl rfl <| .a 1 rfl <| .v [88] (y_q rfl (hb)) rfl rfl <| .a 3 rfl <| .v [91, 92] (y_ix ((d * 3)) rfl) rfl rfl <| .a 1 rfl <| .v [94] (y_ld rfl (g2)) rfl rfl <| .a 1 rfl <| .v [96] (y_q rfl (hb')) rfl rfl <| .v [89, 97] (y_q rfl ((show (!(b == b)) = false by cases b <;> rfl))) rfl rfl <| .k [3, 5, 7, 9, 78, 79, 98] rfl) ?_
          refine W_cond rfl (fun h => ?_) (fun h => ?_)
          · exact absurd h (by decide)
          · clear h
            refine W_skip ?_
            refine W_grds 20 3 [[some (.cells 35 (tabP tB)), some (.cells 35 (tabP tC))], [some (.cells 35 (tabP tB)), some (.cells 35 (tabP tC)), some (.row 3 1 0 [])], [some (.cells 35 (tabP tB)), some (.cells 35 (tabP tC)), none, some (.row 3 1 (0 + A.length) ([] ++ intsP A))], [some (.cells 35 (tabP tB)), some (.cells 35 (tabP tC)), none, none, some (.row 3 1 (0 + A.length + B.length) ([] ++ intsP A ++ intsP B))]] [⟨.own 2, some 0, 0, 0⟩, ⟨_, none, 0, 1⟩, ⟨_, none, 0, 1⟩, ⟨_, none, 0, 1⟩, ⟨_, none, 0, 1⟩, ⟨_, none, 0, 1⟩, ⟨_, none, 0, 1⟩, ⟨.own 3, some 1, 0, 0⟩, ⟨_, none, 0, 2⟩, ⟨_, none, 0, 2⟩, ⟨_, none, 0, 2⟩, ⟨_, none, 0, 2⟩, ⟨_, none, 0, 2⟩, ⟨_, none, 0, 2⟩, ⟨.own 4, some 2, 0, 0⟩, ⟨_, none, 3, 3⟩, ⟨_, none, 0, 3⟩] _ mixed ?grdB rfl rfl rfl rfl (.cons (.loud [] rfl rfl rfl rfl (l_emptySlice rfl (fok.sl.get rfl)) rfl rfl) <| .cons (.val [3] rfl rfl (yz (ya1 (y_a rfl) (ya1 (y_a rfl) ya0))) rfl rfl) <| .cons (.val [100] rfl rfl (yz (ya1 (y_a rfl) (ya1 (y_a rfl) ya0))) rfl rfl) <| .cons (.val [9] rfl rfl (yz (ya1 (y_a rfl) (ya1 (y_a rfl) ya0))) rfl rfl) <| .cons (.val [101, 102] rfl rfl (yz (ya1 (y_ix ((d * 3)) rfl) (ya1 (y_ix ((d * 3)) rfl) ya0))) rfl rfl) <| .cons (.val [103] rfl rfl (yz (ya1 (y_a rfl) (ya1 (y_a rfl) ya0))) rfl rfl) <| .cons (.val [104] rfl rfl (yz (ya1 (y_ld rfl (g1)) (ya1 (y_ld rfl (g1)) ya0))) rfl rfl) <| .cons (.loud [99, 105] rfl rfl rfl rfl (l_append (σ := [some (.cells 35 (tabP tB)), some (.cells 35 (tabP tC)), some (.row 3 1 0 [])]) (i := 2) (n := 0) (xs := []) rfl (fok.rk.get rfl) rfl rfl rfl (show (intsP A).length = A.length * 1 by simp [intsP]) (show 0 + A.length ≤ maxLen ∧ (0 + A.length) * 8 ≤ 140737488355328 by unfold maxLen; omega)) rfl rfl) <| .cons (.val [5] rfl rfl (yz (ya1 (y_a rfl) (ya1 (y_a rfl) (ya1 (y_a rfl) ya0)))) rfl rfl) <| .cons (.val [107] rfl rfl (yz (ya1 (y_a rfl) (ya1 (y_a rfl) (ya1 (y_a rfl) ya0)))) rfl rfl) <| .cons (.val [9] rfl rfl (yz (ya1 (y_a rfl) (ya1 (y_a rfl) (ya1 (y_a rfl) ya0)))) rfl rfl) <| .cons (.val [108, 109] rfl rfl (yz (ya1 (y_ix ((d * 3)) rfl) (ya1 (y_ix ((d * 3)) rfl) (ya1 (y_ix ((d * 3)) rfl) ya0)))) rfl rfl) <| .cons (.val [110] rfl rfl (yz (ya1 (y_a rfl) (ya1 (y_a rfl) (ya1 (y_a rfl) ya0)))) rfl rfl) <| .cons (.val [111] rfl rfl (yz (ya1 (y_ld rfl (g2)) (ya1 (y_ld rfl (g2)) (ya1 (y_ld rfl (g2)) ya0)))) rfl rfl) <| .cons (.loud [106, 112] rfl rfl rfl rfl (l_append (σ := [some (.cells 35 (tabP tB)), some (.cells 35 (tabP tC)), none, some (.row 3 1 (0 + A.length) ([] ++ intsP A))]) (i := 3) (n := 0 + A.length) (xs := [] ++ intsP A) rfl (fok.rk.get rfl) rfl rfl rfl (show (intsP B).length = B.length * 1 by simp [intsP]) (show 0 + A.length + B.length ≤ maxLen ∧ (0 + A.length + B.length) * 8 ≤ 140737488355328 by unfold maxLen; omega)) rfl rfl) <| .cons (.val [113] rfl rfl (yz (ya1 (y_a rfl) ya0)) rfl rfl) <| .cons (.val [] rfl rfl (yz (ya1 (y_a rfl) (ya1 (y_a rfl) (ya1 (y_a rfl) (ya1 (y_a rfl) ya0))))) rfl rfl) .nil) (keepT_sub (ks := [3, 5, 7, 9, 78, 79, 113, 114, 115]) rfl) ?_
            case grdB => kernel_rfl
            refine W_ren [0, 1, 4] (.c 3 <| .c 5 <| .c 7 <| .c 9 <| .c 78 <| .c 79 <| .c 113 <| .c 114 <| .c 115 <| .nil) (.kept rfl (.cells RenL.pure) <| .kept rfl (.cells RenL.pure) <| .kept rfl (.rowP (show 0 + A.length + B.length = (A ++ B).length by simp) (show [] ++ intsP A ++ intsP B = intsP (A ++ B) by simp [intsP])) <| .nil) rfl rfl ?_
            refine W_seal 113 2 rfl rfl ?_
            refine W_ren [0, 1] (.c 3 <| .c 5 <| .c 7 <| .c 9 <| .c 78 <| .c 79 <| .c 113 <| .c 114 <| .c 115 <| .nil) (.kept rfl (.cells RenL.pure) <| .kept rfl (.cells RenL.pure) <| .nil) rfl rfl ?_
            refine W_block ?_
            refine W_k [3, 5, 7, 9, 78, 79, 113, 114, 115] rfl ?_
            refine W_loop (fun r s => ∃ i, i ≤ (A ++ B).length ∧ r = (A ++ B).length - i ∧ s = ⟨[(3, .ptr 0 0), (5, .ptr 1 0), (7, boolsV M), (9, num d), (78, num tB.ents.length), (79, num d), (113, intsV (A ++ B)), (114, num ((0 + A.length + B.length : Nat) : Int)), (115, num i)], [some (.cells 35 (tabP tB)), some (.cells 35 (tabP tC))]⟩) (A ++ B).length ⟨0, by omega, by omega, rfl⟩ ?_
            rintro r s ⟨i, hi, rfl, rfl⟩
            refine W_cs (.a 1 rfl <| .k [3, 5, 7, 9, 78, 79, 113, 114, 115, 116] rfl) ?_
            refine W_seq ?_
            refine W_cond rfl (fun h1 => ?_) (fun h1 => ?_)
            · have hli : i < (A ++ B).length := by have := tt h1; simp only [List.length_append]; omega
              have habl : (A ++ B).length ≤ 600 := by simp only [List.length_append]; omega
              have hyB := hall _ (getD_mem (d := 0) hli)
              obtain ⟨k, hk, hkn⟩ := hnm _ hyB
              refine W_skip ?_
              refine W_seq ?_
              refine W_block ?_
              refine W_cs (.v (y_ix (i) rfl) rfl <| .v (y_ld rfl ((ints_get _ i hli).trans (by rw [hk]))) rfl <| .a 1 rfl <| .k [3, 5, 7, 9, 11, 78, 79, 113, 114, 115] rfl) ?_
              refine W_csK 133 (.raw (.bool (false))) [3, 5, 7, 9, 78, 79, 113, 114, 115] rfl ?_ ?_
              · exact .a 2 rfl <| .c rfl (rup_yes (.inr (by rw [hMl]; exact hkn.arc)) hkn.up) rfl <| .a 5 rfl <| .v (y_ix ((d * 3)) rfl) rfl <| .a 1 rfl <| .v (y_ld rfl (g2)) rfl <| .a 1 rfl <| .c rfl (has_yes (by omega) (by rw [hk] at hyB; exact hyB)) rfl <| .a 2 rfl <| .k [133, 3, 5, 7, 9, 78, 79, 113, 114, 115] rfl
              refine W_cond rfl (fun h => ?_) (fun h => ?_)
              · exact absurd h (by decide)
              · clear h
                refine W_skip ?_
                refine W_chain (.v (y_ar rfl) rfl <| .a 1 rfl <| .k [3, 5, 7, 9, 78, 79, 113, 114, 115] rfl) ?_
                exact ⟨(A ++ B).length - (i + 1), by omega, i + 1, by omega, rfl, rfl⟩
            · clear h1
              refine W_exit ?_
              refine W_chain (.v (y_ar rfl) rfl <| .a 1 rfl <| .k [3, 5, 7, 78, 79] rfl) ?_
              exact ⟨N - (d + 1), by omega, d + 1, by omega, rfl, rfl⟩
        · clear h1
          refine W_exit ?_
          refine W_cs (.a 1 rfl <| .k [2] rfl) ?_
          refine W_ret ?_
          exact ⟨_, _, ResL.of rfl, Pur.pure, rfl⟩
end PW
end Go.Proofs.YtbpgndbjbaoolaaGreat

namespace Go.Proofs.YtbpgndbjbaoolaaGreat.transitionValid
set_option linter.unusedVariables false
set_option linter.unusedSimpArgs false
open Go.ChangeShapes Go.WideShapes Go.ChangeAt Go.RowKit
open Reg Mem PW

set_option maxRecDepth 100000 in
theorem lifted (os : Os) (started : os.Started) (H : Type) (enc : TypeId × Value → H) :
    ReturnsInHanded {} Tryz.checked os 4 .any (Rows.transitionValidSpec.pre6 enc Tryz.prog Tryz.f4 Rows.transitionValidRow.domain false) (Rows.transitionValidSpec.post enc Tryz.prog Tryz.f4 false true false false) := by
  refine returnsInHanded_of_change (C := Tryz.checked) own started (by kernel_rfl) Tryz.func4
    (ChangeSpec.witness6 (enc := enc) (C := Tryz.checked) false ⟨#[], #[.agg #[.int .i64 0, .slice none 0 0, .slice none 0 0, .int .i64 0, .int .i64 0, .int .i64 0]], []⟩ 8 (by kernel_rfl) (by kernel_rfl) (by kernel_rfl) (by kernel_rfl)) ?_
  intro W base args ds gs before hval0 hW hcnd _
  have hval : ∀ (j : Nat) t v, Tryz.f4.params[j]? = some t → args[j]? = some v → Value.okWide Tryz.prog W .any base t v := hval0
  have hW' := hW
  obtain ⟨p, q, hA0, hV, rfl, hfz, hnd⟩ := hW
  have hA : DataW.TrodAll enc Tryz.prog W 0 (fun _ => true) true Tryz.f4.params.toList args.toList ds p := hA0
  rw [Tryz.params4] at hA hval
  obtain ⟨v0, vs0, d0, ds0, p0, q0, hargs, rfl, rfl, h0, r0⟩ := trodAll_cons hA
  obtain ⟨rfl, rfl, rfl⟩ := trodAll_nil r0
  obtain rfl : args = #[v0] := by cases args; simp_all
  obtain ⟨rfl, rfl⟩ := trodVars_none hV
  have lt0 := lt_of h0
  obtain ⟨c, R0⟩ := rd_q30 (hval 0 29 v0 rfl rfl) h0
  clear hA0 hval0
  refine ((lawTValid_can c) (fun _ => False) W #[v0] (fun _ h => h.elim) (noGlob _ W) (RepL.cons R0 (RepL.nil _ _))).mono fun e W' ⟨x, he, bel, r, hr, hx⟩ => ?_
  subst hr
  cases hx
  subst he
  exact ⟨_, rfl, _, _, _, [], _, [], hW', trodAll_mk1 (shut_bool Tryz.underlying4 _), (trodAll_cons_mk (Below.trod laidOut (by kernel_rfl) (of_decide_eq_true (by kernel_rfl)) h0 bel lt0) trodAll_mk0), rfl, bel.frame _, fun h => by cases h⟩

theorem over : Rows.transitionValidRow.holds Tryz.pinned (OpenSpec.ofChange Rows.transitionValidSpec) :=
  OpenClaim.holds_of_wide 4 Tryz.f4 rfl rfl rfl rfl rfl rfl rfl ⟨rfl, rfl, rfl, rfl, rfl⟩ rfl rfl rfl rfl rfl (by kernel_rfl) Tryz.func4 (by kernel_rfl)
    (of_decide_eq_true (by kernel_rfl)) (by unfold Func.isWrapper; first | (rw [if_pos (by decide +kernel)]; kernel_rfl) | (rw [if_neg (by decide +kernel)]; exact ⟨rfl, rfl⟩))
    (fun os started H enc _ => lifted os started H enc)

theorem proved : Rows.TransitionValidSaid := over
end Go.Proofs.YtbpgndbjbaoolaaGreat.transitionValid
