/- Texts of the proof, part 12. -/
import Derived.Test.YtbpgndbjbaoolaaGreatCardPCB11
/- Package transition: Old, Table, Final; the reference's Old and Final. -/
namespace Go.Proofs.YtbpgndbjbaoolaaGreat
set_option linter.unusedVariables false
set_option linter.unusedSimpArgs false
namespace PW
open Go.RowKit Reg Mem Net Rng

instance (e : Int) (x : Tab) : IsPure (tabE e x) := by unfold tabE; infer_instance
theorem mask_zero {T : Topo} {k x : Int} (h : maskE T k x = 0) : (validB T && compB T k x) = true := by
  unfold maskE at h
  split at h
  · assumption
  · omega
theorem mask_one {T : Topo} {k x : Int} (h : maskE T k x ≠ 0) : maskE T k x = 1 := by
  unfold maskE at *
  split
  · rename_i h'; rw [if_pos h'] at h; exact absurd rfl h
  · rfl
end PW
end Go.Proofs.YtbpgndbjbaoolaaGreat

/- Package repair: Component, entry, Table. -/
namespace Go.Proofs.YtbpgndbjbaoolaaGreat
set_option linter.unusedVariables false
set_option linter.unusedSimpArgs false
namespace PW
open Go.RowKit Reg Mem Net Rng

theorem asm_vals {T : Topo} {a : Nat} (hv : validB T = true) (ha : a < 2 * T.links.length) {d : Nat} (hd : (d : Int) < T.nodes) {n : Nat} (hn : tailN T a = (n : Int)) (k x : Int) (hm : (validB T && compB T k x) = true) : d < (distL T (maskX T k x) n true).length ∧ decide (0 ≤ (distL T (maskX T k x) n true).getD d 0) = rchB T (maskL T k x) (tailN T a) d := by
  have hnN : (n : Int) < T.nodes := by rw [← hn]; exact ((sound_of hv).tail a ha).2
  have hl := (distL_bound (D := maskX T k x) hv (dir := true) hnN).1
  refine ⟨by omega, ?_⟩
  rw [hn, maskX_ok hm, Bool.eq_iff_iff, decide_eq_true_eq, rch_iff hv (mask_fits T k x) hnN hd, fwd_iff hv hnN hd]
theorem clo_can (T : Topo) (a d : Nat) (hv : validB T = true) (ha : a < 2 * T.links.length) (hd : (d : Int) < T.nodes) : Can Tryz.prog 132 ([num d] ++ asmC (grpN T a) (headN T a) ((a / 2 : Nat) : Int) (wgL T a) (wnL T a)) (· = compV (asmF T a d).1 (asmF T a d).2) := by
  obtain ⟨n, hn⟩ := Int.eq_ofNat_of_zero_le ((sound_of hv).tail a ha).1
  have hnt : (tailN T a).toNat = n := by omega
  have h2 := asm_vals hv ha hd hn 2 (headN T a) (asm_node hv ha)
  have hM : wnL T a = distL T (maskX T 2 (headN T a)) n true := by unfold wnL; rw [hnt]
  have hL : 0 < grpN T a → wgL T a = distL T (maskX T 3 (grpN T a)) n true := fun h => by unfold wgL; rw [if_pos h, hnt]
  have h := asm4_can (grpN T a) (headN T a) ((a / 2 : Nat) : Int) (wgL T a) (wnL T a) d (rchB T (maskL T 3 (grpN T a)) (tailN T a) d) (rchB T (maskL T 2 (headN T a)) (tailN T a) d)
    (fun hg => by rw [hL hg]; exact asm_vals hv ha hd hn 3 (grpN T a) (asm_grp hv ha hg)) (by rw [hM]; exact h2.1) (by rw [hM]; exact h2.2)
  have e : (if (decide (0 < grpN T a) && rchB T (maskL T 3 (grpN T a)) (tailN T a) d) = true then compV 3 (grpN T a) else if (decide (headN T a ≠ (d : Int)) && rchB T (maskL T 2 (headN T a)) (tailN T a) d) = true then compV 2 (headN T a) else compV 1 ((a / 2 : Nat) : Int)) = compV (asmF T a d).1 (asmF T a d).2 := by
    unfold asmF
    split
    · rfl
    · split <;> rfl
  rw [e] at h
  exact h
set_option maxRecDepth 10000 in
set_option maxHeartbeats 1000000 in
theorem pcomp_can (T : Topo) (a d : Nat) (hv : validB T = true) (ha : a < 2 * T.links.length) (hd : (d : Int) < T.nodes) : Can Tryz.prog 70 [topoV T, num a, num d] (· = .tuple [compV (asmF T a d).1 (asmF T a d).2, num 0]) := by
  have hll := links_le hv
  have hac := arc_can T (by omega) (a : Int)
  rw [arcB_iff.2 (by omega : 0 ≤ (a : Int) ∧ (a : Int) < 2 * (T.links.length : Int))] at hac
  have hnc := node_can T (d : Int)
  rw [nodeB_iff.2 (by omega : 0 ≤ (d : Int) ∧ (d : Int) < T.nodes)] at hnc
  refine can_of Tryz.func70 rfl Tryz.ntmps70 rfl ?_
  refine W_rs ?_
  refine WR_a 3 rfl <| WR_k [1, 2, 3, 6] rfl ?_
  refine W_seq ?_
  refine W_cs (.a 1 rfl <| .c rfl (hv ▸ valid_can T) rfl <| .a 1 rfl <| .k [1, 2, 3, 6, 10] rfl) ?_
  refine W_cond rfl (fun h1 => ?_) (fun h1 => ?_)
  · exact absurd h1 (by decide)
  · clear h1
    refine W_skip ?_
    refine W_seq ?_
    refine W_csK 21 (.raw (.bool (false))) [1, 2, 3, 6] rfl ?_ ?_
    · exact .a 2 rfl <| .c rfl (hac) rfl <| .a 4 rfl <| .c rfl (hnc) rfl <| .a 2 rfl <| .k [21, 1, 2, 3, 6] rfl
    refine W_cond rfl (fun h1 => ?_) (fun h1 => ?_)
    · exact absurd h1 (by decide)
    · clear h1
      refine W_skip ?_
      refine W_rs ?_
      refine WR_a 2 rfl <| WR_c rfl (assume_can T a hv ha) rfl <| WR_a 1 rfl <| WR_c rfl (clo_can T a d hv ha hd) rfl <| WR_a 2 rfl <| WR_k [6, 7] rfl ?_
      refine W_ret ?_
      exact ⟨_, _, ResL.of rfl, Pur.pure (p := .tuple [compV _ _, num 0]), rfl⟩
/-- Where the first arc of a list stands that is in a mask. -/
def ixL (own : List Bool) : List Int → Nat → Int
  | [], _ => -1
  | a :: l, i => bif downN own a.toNat then (i : Int) else ixL own l (i + 1)
theorem ix_hit (own : List Bool) : ∀ (l : List Int) (i : Nat), (ixL own l i = -1 ∧ hitL own l = none) ∨ ∃ j, j < l.length ∧ ixL own l i = ((i + j : Nat) : Int) ∧ hitL own l = some (l.getD j 0)
  | [], i => .inl ⟨rfl, rfl⟩
  | a :: l, i => by
    simp only [ixL]
    by_cases h : downN own a.toNat = true
    · refine .inr ⟨0, by simp, by rw [h]; rfl, ?_⟩
      unfold hitL
      rw [List.find?_cons_of_pos (by exact h)]
      rfl
    · rw [Bool.eq_false_iff.2 h]
      simp only [cond_false]
      have e : hitL own (a :: l) = hitL own l := by
        unfold hitL
        rw [List.find?_cons_of_neg (by exact h)]
      rw [e]
      rcases ix_hit own l (i + 1) with h' | ⟨j, h1, h2, h3⟩
      · exact .inl h'
      · exact .inr ⟨j + 1, by simpa using h1, by rw [h2]; congr 1; omega, by rw [h3]; rfl⟩
set_option maxRecDepth 10000 in
set_option maxHeartbeats 1000000 in
theorem ent1_can (own : List Bool) (k : Nat) (hk : k < own.length) : Can Tryz.prog 118 ([num k] ++ [.pin [boolsV own] 0]) (· = flag (downN own k)) := by
  refine can_of Tryz.func118 rfl Tryz.ntmps118 rfl ?_
  refine W_cs (.a 1 rfl <| .k [0, 1] rfl) ?_
  refine W_cs (.a 2 rfl <| .v (y_ix (k) rfl) rfl <| .v (y_ld rfl ((show (boolsP own)[k]? = some (flag (downN own k)) by rw [bools_getP _ k hk, downN_get]))) rfl <| .a 1 rfl <| .k [3] rfl) ?_
  refine W_ret ?_
  exact ⟨_, _, ResL.of rfl, Pur.pure, rfl⟩
set_option maxRecDepth 10000 in
set_option maxHeartbeats 1000000 in
theorem idxf_can (l : List Int) (own : List Bool) (hl : l.length ≤ 1000) (hm : ∀ a ∈ l, ∃ k : Nat, a = (k : Int) ∧ k < own.length) : Can Tryz.prog 117 [intsV l, .func 118 [.pin [boolsV own] 0]] (· = num (ixL own l 0)) := by
  refine can_of Tryz.func117 rfl Tryz.ntmps117 rfl ?_
  refine W_cs (.a 1 rfl <| .k [0, 1] rfl) ?_
  refine W_seq ?_
  refine W_cs (.a 3 rfl <| .k [0, 1, 7, 8] rfl) ?_
  refine W_block ?_
  refine W_k [0, 1, 7, 8] rfl ?_
  refine W_loop (fun r s => ∃ i, i ≤ l.length ∧ r = l.length - i ∧ ixL own l 0 = ixL own (l.drop i) i ∧ s = ⟨[(0, intsV l), (1, .func 118 [.pin [boolsV own] 0]), (7, num l.length), (8, num i)], []⟩) l.length ⟨0, by omega, by omega, rfl, rfl⟩ ?_
  rintro r s ⟨i, hi, rfl, hx, rfl⟩
  refine W_cs (.a 1 rfl <| .k [0, 1, 7, 8, 9] rfl) ?_
  refine W_seq ?_
  refine W_cond rfl (fun h1 => ?_) (fun h1 => ?_)
  · have hlt : i < l.length := by have := tt h1; omega
    obtain ⟨k, hk, hkl⟩ := hm _ (getD_mem (d := 0) hlt)
    rw [drop_cons l i hlt, hk] at hx
    simp only [ixL, Int.toNat_natCast] at hx
    obtain ⟨q, hq⟩ : ∃ q, downN own k = q := ⟨_, rfl⟩
    have he := ent1_can own k hkl
    rw [hq] at he hx
    refine W_skip ?_
    refine W_seq ?_
    refine W_block ?_
    refine W_cs (.a 2 rfl <| .k [0, 1, 5, 7, 8] rfl) ?_
    refine W_cs (.a 3 rfl <| .v (y_ix (i) rfl) rfl <| .v (y_ld rfl ((ints_get l i hlt).trans (by rw [hk]))) rfl <| .c rfl (he) rfl <| .k [0, 1, 5, 7, 8, 16] rfl) ?_
    refine W_cond rfl (fun h2 => ?_) (fun h2 => ?_)
    · subst h2
      rw [cond_true] at hx
      rw [hx]
      refine W_cs (.a 2 rfl <| .k [4] rfl) ?_
      refine W_ret ?_
      exact ⟨_, _, ResL.of rfl, Pur.pure, rfl⟩
    · subst h2
      rw [cond_false] at hx
      refine W_skip ?_
      refine W_chain (.v (y_ar rfl) rfl <| .a 1 rfl <| .k [0, 1, 7, 8] rfl) ?_
      exact ⟨l.length - (i + 1), by omega, i + 1, by omega, rfl, hx, rfl⟩
  · have hie : i = l.length := by have := ff h1; omega
    subst hie
    rw [List.drop_length] at hx
    rw [hx]
    refine W_exit ?_
    refine W_cs (.a 1 rfl <| .k [4] rfl) ?_
    refine W_ret ?_
    exact ⟨_, _, ResL.of rfl, Pur.pure, rfl⟩
theorem pc1_can (p : List Int) : Can Tryz.prog 152 ([intsV p] ++ []) (· = .tuple []) := by
  refine can_of Tryz.func152 rfl Tryz.ntmps152 rfl ?_
  refine W_skip ?_
  exact ⟨_, _, ResL.of rfl, Pur.pure, rfl⟩
set_option maxRecDepth 10000 in
set_option maxHeartbeats 1000000 in
theorem pcfindR_can (T : Topo) (D : List Bool) (n d : Int) : Can Tryz.prog 112 [topoV T, boolsV D, num n, num d, .func 152 []] (· = num (spE T D n d)) := by
  refine can_of Tryz.func112 rfl Tryz.ntmps112 rfl ?_
  refine W_cs (.a 2 rfl <| .k [1, 2, 3, 4, 5] rfl) ?_
  refine W_cs (.a 4 rfl <| .c rfl (spath_can T D n d) rfl <| .a 5 rfl <| .k [4, 11, 12] rfl) ?_
  refine W_seq ?_
  refine W_cs (.a 2 rfl <| .k [4, 11, 12, 22] rfl) ?_
  refine W_cond rfl (fun h1 => ?_) (fun h1 => ?_)
  · skip
    refine W_chain (.a 2 rfl <| .c rfl (pc1_can _) rfl <| .k [12] rfl) ?_
    refine W_cs (.a 2 rfl <| .k [10] rfl) ?_
    refine W_ret ?_
    exact ⟨_, _, ResL.of rfl, Pur.pure, rfl⟩
  · skip
    refine W_skip ?_
    refine W_cs (.a 2 rfl <| .k [10] rfl) ?_
    refine W_ret ?_
    exact ⟨_, _, ResL.of rfl, Pur.pure, rfl⟩
set_option maxRecDepth 10000 in
set_option maxHeartbeats 1000000 in
theorem preach_can (T : Topo) (D : List Bool) (n d : Int) : Can Tryz.prog 119 [topoV T, boolsV D, num n, num d] (· = flag (rchB T D n d)) := by
  obtain ⟨q, hq⟩ : ∃ q, decide (spE T D n d = 0) = q := ⟨_, rfl⟩
  unfold rchB
  rw [hq]
  refine can_of Tryz.func119 rfl Tryz.ntmps119 rfl ?_
  refine W_cs (.a 2 rfl <| .k [1, 2, 3, 4] rfl) ?_
  refine W_cs (.a 4 rfl <| .c rfl (pcfindR_can T D n d) rfl <| .v (y_q rfl (hq)) rfl <| .a 1 rfl <| .k [8] rfl) ?_
  refine W_ret ?_
  exact ⟨_, _, ResL.of rfl, Pur.pure, rfl⟩
theorem maskF_can (T : Topo) (k x : Int) (hm : (validB T && compB T k x) = true) (σ : Sto) : CanS Tryz.prog 75 [topoV T, compV k x] σ (fun r σ' => r = .tuple [.own σ.length, num 0] ∧ σ' = σ ++ [brow (maskL T k x)]) := by
  obtain ⟨hv, hc⟩ := Bool.and_eq_true_iff.1 hm
  refine CanS.frame (CanS.mono (maskS_can T k x hv hc) ?_)
  rintro r σ' ⟨rfl, rfl⟩
  refine ⟨[.row 4 1 (2 * T.links.length) (boolsP (maskL T k x))], rfl, _, _, Up.tupleL (UpL.cons (Up.own rfl) (UpL.cons Up.pure UpL.nil)), BUpL.cons (.row UpL.pure) BUpL.nil, by simp, ?_⟩
  unfold brow
  rw [maskL_len]
  rfl
set_option maxRecDepth 10000 in
set_option maxHeartbeats 2000000 in
theorem prep_can (T : Topo) (own : List Bool) (n d : Nat) (hv : validB T = true) (hfo : own.length = 2 * T.links.length) (hn : (n : Int) < T.nodes) (hd : (d : Int) < T.nodes) (h12 : T.nodes ≤ 12) : Can Tryz.prog 79 [topoV T, boolsV own, num n, num d] (· = entV (repX T own n d)) := by
  have hll := links_le hv
  have hof : fitsB T own = true := by unfold fitsB; rw [hfo]; simp
  have hnb : nodeB T (n : Int) = true := nodeB_iff.2 ⟨by omega, hn⟩
  have hdb : nodeB T (d : Int) = true := nodeB_iff.2 ⟨by omega, hd⟩
  have hnx := next_can T [] n d
  rw [entE_zero hv (fits_nil T) hnb hdb, Int.toNat_natCast, Int.toNat_natCast] at hnx
  unfold intsE at hnx
  rw [if_pos rfl] at hnx
  have hlen := nextL_len hv [] n d
  have hmem : ∀ a ∈ nextL T [] n d, ∃ k : Nat, a = (k : Int) ∧ k < 2 * T.links.length := fun a ha => by
    obtain ⟨k, hk, hkn⟩ := next_mem ha
    exact ⟨k, hk, hkn.arc⟩
  unfold repX
  obtain ⟨l, hl⟩ : ∃ l, nextL T [] n d = l := ⟨_, rfl⟩
  rw [hl] at hnx hlen hmem ⊢
  have hix := idxf_can l own (by omega) (fun a ha => by rw [hfo]; exact hmem a ha)
  obtain ⟨ix, hixe⟩ : ∃ ix, ixL own l 0 = ix := ⟨_, rfl⟩
  have hih := ix_hit own l 0
  rw [hixe] at hix hih
  simp only [Nat.zero_add] at hih
  refine can_of Tryz.func79 rfl Tryz.ntmps79 rfl ?_
  refine W_rs ?_
  refine WR_a 3 rfl <| WR_k [2, 3, 4, 5, 8] rfl ?_
  refine W_cs (.a 3 rfl <| .v (y_cP rfl (PurL.cons Pur.pure <| PurL.cons Pur.nils <| PurL.cons Pur.pure <| PurL.cons Pur.pure PurL.nil) (hnx)) rfl <| .a 5 rfl <| .k [2, 3, 4, 5, 8, 9] rfl) ?_
  refine W_cs (.a 1 rfl <| .v (y_makeFunc rfl rfl) rfl <| .c rfl (hix) rfl <| .a 1 rfl <| .k [2, 3, 4, 5, 8, 9, 11] rfl) ?_
  refine W_seq ?_
  refine W_cs (.a 2 rfl <| .k [2, 3, 4, 5, 8, 9, 11, 28] rfl) ?_
  refine W_cond rfl (fun h3 => ?_) (fun h3 => ?_)
  · have hno : hitL own l = none := by
      rcases hih with h | ⟨j, _, h, _⟩
      · exact h.2
      · rw [h] at h3; have := tt h3; omega
    rw [hno]
    refine W_rs ?_
    refine WR_a 3 rfl <| WR_k [8] rfl ?_
    refine W_ret ?_
    exact ⟨_, _, ResL.of rfl, Pur.aggL (PurL.cons (Pur.pure (p := intsV l)) <| PurL.cons Pur.pure <| PurL.cons Pur.nils PurL.nil), rfl⟩
  · obtain ⟨j, hjl, rfl, ha⟩ : ∃ j, j < l.length ∧ ix = ((j : Nat) : Int) ∧ hitL own l = some (l.getD j 0) := by
      rcases hih with h | h
      · rw [h.1] at h3; exact absurd h3 (by decide)
      · exact h
    obtain ⟨k, hkj, hk⟩ := hmem _ (getD_mem (d := 0) hjl)
    rw [ha]
    simp only []
    rw [hkj, Int.toNat_natCast]
    have hcm : (validB T && compB T (asmF T k d).1 (asmF T k d).2) = true := by rw [hv, asm_comp hv hk]; rfl
    have hcl := clo_can T k d hv hk hd
    have has := assume_can T k hv hk
    have hmk := fun σ => maskF_can T (asmF T k d).1 (asmF T k d).2 hcm σ
    have hmx : mixM T own n d k = if rchB T (orM T (maskL T (asmF T k d).1 (asmF T k d).2) own) n d = true then orM T (maskL T (asmF T k d).1 (asmF T k d).2) own else own := rfl
    generalize asmF T k (d : Int) = cx at *
    obtain ⟨ck, cy⟩ := cx
    simp only at hcm hcl hmk hmx
    have hMl := maskL_len T ck cy
    obtain ⟨M, hM⟩ : ∃ M, maskL T ck cy = M := ⟨_, rfl⟩
    rw [hM] at hmk hmx hMl
    have hre := pent_can T (mixM T own n d k) n d hll h12
    rw [entE_zero hv (mix_fits hof k) hnb hdb] at hre
    clear h3 hmem hih hix hixe
    refine W_skip ?_
    refine W_sub (keepT_sub (ks := [2, 3, 4, 5, 8, 9, 11]) rfl) ?_
    refine W_ordersTo ([(2, num n), (3, num d), (4, .pin (topoP T) 0), (5, .pin [boolsV own] 0), (8, .ptr 0 0), (12, .own 1)]) ([some (.cells 47 [.raw (.slice none 0 0), flag false, .raw (.slice none 0 0)]), brow M]) mixed ?_ ?_
    · refine memo_intro (fun ops hops => ?_)
      have m111111111111111 : WA Tryz.prog 79 0 ops 0 #[true, true, true, true, true, true, true, true, true, true, true, true, true, true, true] ⟨[(2, num n), (3, num d), (4, .pin (topoP T) 0), (5, .pin [boolsV own] 0), (8, .ptr 0 0), (9, intsV l), (11, num j), (12, .own 1), (13, num 0), (31, .tuple [.own 1, num 0]), (32, topoV T), (33, topoV T), (34, intsV l), (35, num j), (36, .pin (intsP l) j), (37, num k), (38, .func 132 (asmC (grpN T k) (headN T k) ((k / 2 : Nat) : Int) (wgL T k) (wnL T k))), (39, num d), (40, compV ck cy), (41, .tuple [.own 1, num 0]), (42, .own 1), (43, num 0)], [some (.cells 47 [.raw (.slice none 0 0), flag false, .raw (.slice none 0 0)]), brow M]⟩ (fun s => s.σ = [some (.cells 47 [.raw (.slice none 0 0), flag false, .raw (.slice none 0 0)]), brow M] ∧ Sub s.t [(2, num n), (3, num d), (4, .pin (topoP T) 0), (5, .pin [boolsV own] 0), (8, .ptr 0 0), (12, .own 1)]) := by
        subst hops
        exact WA_nil (by kernel_rfl) ⟨rfl, keepT_sub (ks := [2, 3, 4, 5, 8, 12]) rfl⟩
      have m111111111111110 : WA Tryz.prog 79 0 ops 1 #[true, true, true, true, true, true, true, true, true, true, true, true, true, true, false] ⟨[(2, num n), (3, num d), (4, .pin (topoP T) 0), (5, .pin [boolsV own] 0), (8, .ptr 0 0), (9, intsV l), (11, num j), (12, .own 1), (31, .tuple [.own 1, num 0]), (32, topoV T), (33, topoV T), (34, intsV l), (35, num j), (36, .pin (intsP l) j), (37, num k), (38, .func 132 (asmC (grpN T k) (headN T k) ((k / 2 : Nat) : Int) (wgL T k) (wnL T k))), (39, num d), (40, compV ck cy), (41, .tuple [.own 1, num 0]), (42, .own 1), (43, num 0)], [some (.cells 47 [.raw (.slice none 0 0), flag false, .raw (.slice none 0 0)]), brow M]⟩ (fun s => s.σ = [some (.cells 47 [.raw (.slice none 0 0), flag false, .raw (.slice none 0 0)]), brow M] ∧ Sub s.t [(2, num n), (3, num d), (4, .pin (topoP T) 0), (5, .pin [boolsV own] 0), (8, .ptr 0 0), (12, .own 1)]) := by
        subst hops
        refine WA_step 14 [] (by kernel_rfl) ?_
        exact WAs_cons rfl rfl (WR_v (y_a rfl) rfl (WR_k [2, 3, 4, 5, 8, 9, 11, 12, 13, 31, 32, 33, 34, 35, 36, 37, 38, 39, 40, 41, 42, 43] rfl m111111111111111)) (WAs_nil)
      have m111111111111100 : WA Tryz.prog 79 0 ops 2 #[true, true, true, true, true, true, true, true, true, true, true, true, true, false, false] ⟨[(2, num n), (3, num d), (4, .pin (topoP T) 0), (5, .pin [boolsV own] 0), (8, .ptr 0 0), (9, intsV l), (11, num j), (31, .tuple [.own 1, num 0]), (32, topoV T), (33, topoV T), (34, intsV l), (35, num j), (36, .pin (intsP l) j), (37, num k), (38, .func 132 (asmC (grpN T k) (headN T k) ((k / 2 : Nat) : Int) (wgL T k) (wnL T k))), (39, num d), (40, compV ck cy), (41, .tuple [.own 1, num 0]), (42, .own 1), (43, num 0)], [some (.cells 47 [.raw (.slice none 0 0), flag false, .raw (.slice none 0 0)]), brow M]⟩ (fun s => s.σ = [some (.cells 47 [.raw (.slice none 0 0), flag false, .raw (.slice none 0 0)]), brow M] ∧ Sub s.t [(2, num n), (3, num d), (4, .pin (topoP T) 0), (5, .pin [boolsV own] 0), (8, .ptr 0 0), (12, .own 1)]) := by
        subst hops
        refine WA_step 13 [] (by kernel_rfl) ?_
        exact WAs_cons rfl rfl (WR_v (y_a rfl) rfl (WR_k [2, 3, 4, 5, 8, 9, 11, 12, 31, 32, 33, 34, 35, 36, 37, 38, 39, 40, 41, 42, 43] rfl m111111111111110)) (WAs_nil)
      have m111111111111010 : WA Tryz.prog 79 0 ops 2 #[true, true, true, true, true, true, true, true, true, true, true, true, false, true, false] ⟨[(2, num n), (3, num d), (4, .pin (topoP T) 0), (5, .pin [boolsV own] 0), (8, .ptr 0 0), (9, intsV l), (11, num j), (12, .own 1), (31, .tuple [.own 1, num 0]), (32, topoV T), (33, topoV T), (34, intsV l), (35, num j), (36, .pin (intsP l) j), (37, num k), (38, .func 132 (asmC (grpN T k) (headN T k) ((k / 2 : Nat) : Int) (wgL T k) (wnL T k))), (39, num d), (40, compV ck cy), (41, .tuple [.own 1, num 0]), (42, .own 1)], [some (.cells 47 [.raw (.slice none 0 0), flag false, .raw (.slice none 0 0)]), brow M]⟩ (fun s => s.σ = [some (.cells 47 [.raw (.slice none 0 0), flag false, .raw (.slice none 0 0)]), brow M] ∧ Sub s.t [(2, num n), (3, num d), (4, .pin (topoP T) 0), (5, .pin [boolsV own] 0), (8, .ptr 0 0), (12, .own 1)]) := by
        subst hops
        refine WA_step 12 [] (by kernel_rfl) ?_
        exact WAs_cons rfl rfl (WR_v (y_a rfl) rfl (WR_k [2, 3, 4, 5, 8, 9, 11, 12, 31, 32, 33, 34, 35, 36, 37, 38, 39, 40, 41, 42, 43] rfl m111111111111110)) (WAs_nil)
      have m111111111111000 : WA Tryz.prog 79 0 ops 3 #[true, true, true, true, true, true, true, true, true, true, true, true, false, false, false] ⟨[(2, num n), (3, num d), (4, .pin (topoP T) 0), (5, .pin [boolsV own] 0), (8, .ptr 0 0), (9, intsV l), (11, num j), (31, .tuple [.own 1, num 0]), (32, topoV T), (33, topoV T), (34, intsV l), (35, num j), (36, .pin (intsP l) j), (37, num k), (38, .func 132 (asmC (grpN T k) (headN T k) ((k / 2 : Nat) : Int) (wgL T k) (wnL T k))), (39, num d), (40, compV ck cy), (41, .tuple [.own 1, num 0]), (42, .own 1)], [some (.cells 47 [.raw (.slice none 0 0), flag false, .raw (.slice none 0 0)]), brow M]⟩ (fun s => s.σ = [some (.cells 47 [.raw (.slice none 0 0), flag false, .raw (.slice none 0 0)]), brow M] ∧ Sub s.t [(2, num n), (3, num d), (4, .pin (topoP T) 0), (5, .pin [boolsV own] 0), (8, .ptr 0 0), (12, .own 1)]) := by
        subst hops
        refine WA_step 12 [13] (by kernel_rfl) ?_
        exact WAs_cons rfl rfl (WR_v (y_a rfl) rfl (WR_k [2, 3, 4, 5, 8, 9, 11, 31, 32, 33, 34, 35, 36, 37, 38, 39, 40, 41, 42, 43] rfl m111111111111100)) (WAs_cons rfl rfl (WR_v (y_a rfl) rfl (WR_k [2, 3, 4, 5, 8, 9, 11, 12, 31, 32, 33, 34, 35, 36, 37, 38, 39, 40, 41, 42] rfl m111111111111010)) (WAs_nil))
      have m111111111110100 : WA Tryz.prog 79 0 ops 3 #[true, true, true, true, true, true, true, true, true, true, true, false, true, false, false] ⟨[(2, num n), (3, num d), (4, .pin (topoP T) 0), (5, .pin [boolsV own] 0), (8, .ptr 0 0), (9, intsV l), (11, num j), (31, .tuple [.own 1, num 0]), (32, topoV T), (33, topoV T), (34, intsV l), (35, num j), (36, .pin (intsP l) j), (37, num k), (38, .func 132 (asmC (grpN T k) (headN T k) ((k / 2 : Nat) : Int) (wgL T k) (wnL T k))), (39, num d), (40, compV ck cy), (41, .tuple [.own 1, num 0]), (43, num 0)], [some (.cells 47 [.raw (.slice none 0 0), flag false, .raw (.slice none 0 0)]), brow M]⟩ (fun s => s.σ = [some (.cells 47 [.raw (.slice none 0 0), flag false, .raw (.slice none 0 0)]), brow M] ∧ Sub s.t [(2, num n), (3, num d), (4, .pin (topoP T) 0), (5, .pin [boolsV own] 0), (8, .ptr 0 0), (12, .own 1)]) := by
        subst hops
        refine WA_step 11 [] (by kernel_rfl) ?_
        exact WAs_cons rfl rfl (WR_v (y_a rfl) rfl (WR_k [2, 3, 4, 5, 8, 9, 11, 31, 32, 33, 34, 35, 36, 37, 38, 39, 40, 41, 42, 43] rfl m111111111111100)) (WAs_nil)
      have m111111111110000 : WA Tryz.prog 79 0 ops 4 #[true, true, true, true, true, true, true, true, true, true, true, false, false, false, false] ⟨[(2, num n), (3, num d), (4, .pin (topoP T) 0), (5, .pin [boolsV own] 0), (8, .ptr 0 0), (9, intsV l), (11, num j), (31, .tuple [.own 1, num 0]), (32, topoV T), (33, topoV T), (34, intsV l), (35, num j), (36, .pin (intsP l) j), (37, num k), (38, .func 132 (asmC (grpN T k) (headN T k) ((k / 2 : Nat) : Int) (wgL T k) (wnL T k))), (39, num d), (40, compV ck cy), (41, .tuple [.own 1, num 0])], [some (.cells 47 [.raw (.slice none 0 0), flag false, .raw (.slice none 0 0)]), brow M]⟩ (fun s => s.σ = [some (.cells 47 [.raw (.slice none 0 0), flag false, .raw (.slice none 0 0)]), brow M] ∧ Sub s.t [(2, num n), (3, num d), (4, .pin (topoP T) 0), (5, .pin [boolsV own] 0), (8, .ptr 0 0), (12, .own 1)]) := by
        subst hops
        refine WA_step 11 [12] (by kernel_rfl) ?_
        exact WAs_cons rfl rfl (WR_v (y_a rfl) rfl (WR_k [2, 3, 4, 5, 8, 9, 11, 31, 32, 33, 34, 35, 36, 37, 38, 39, 40, 41, 42] rfl m111111111111000)) (WAs_cons rfl rfl (WR_v (y_a rfl) rfl (WR_k [2, 3, 4, 5, 8, 9, 11, 31, 32, 33, 34, 35, 36, 37, 38, 39, 40, 41, 43] rfl m111111111110100)) (WAs_nil))
      have m111111111100000 : WA Tryz.prog 79 0 ops 5 #[true, true, true, true, true, true, true, true, true, true, false, false, false, false, false] ⟨[(2, num n), (3, num d), (4, .pin (topoP T) 0), (5, .pin [boolsV own] 0), (8, .ptr 0 0), (9, intsV l), (11, num j), (32, topoV T), (33, topoV T), (34, intsV l), (35, num j), (36, .pin (intsP l) j), (37, num k), (38, .func 132 (asmC (grpN T k) (headN T k) ((k / 2 : Nat) : Int) (wgL T k) (wnL T k))), (39, num d), (40, compV ck cy), (41, .tuple [.own 1, num 0])], [some (.cells 47 [.raw (.slice none 0 0), flag false, .raw (.slice none 0 0)]), brow M]⟩ (fun s => s.σ = [some (.cells 47 [.raw (.slice none 0 0), flag false, .raw (.slice none 0 0)]), brow M] ∧ Sub s.t [(2, num n), (3, num d), (4, .pin (topoP T) 0), (5, .pin [boolsV own] 0), (8, .ptr 0 0), (12, .own 1)]) := by
        subst hops
        refine WA_step 10 [] (by kernel_rfl) ?_
        exact WAs_cons rfl rfl (WR_v (y_a rfl) rfl (WR_k [2, 3, 4, 5, 8, 9, 11, 31, 32, 33, 34, 35, 36, 37, 38, 39, 40, 41] rfl m111111111110000)) (WAs_nil)
      have m111111111000000 : WA Tryz.prog 79 0 ops 6 #[true, true, true, true, true, true, true, true, true, false, false, false, false, false, false] ⟨[(2, num n), (3, num d), (4, .pin (topoP T) 0), (5, .pin [boolsV own] 0), (8, .ptr 0 0), (9, intsV l), (11, num j), (32, topoV T), (33, topoV T), (34, intsV l), (35, num j), (36, .pin (intsP l) j), (37, num k), (38, .func 132 (asmC (grpN T k) (headN T k) ((k / 2 : Nat) : Int) (wgL T k) (wnL T k))), (39, num d), (40, compV ck cy)], [some (.cells 47 [.raw (.slice none 0 0), flag false, .raw (.slice none 0 0)])]⟩ (fun s => s.σ = [some (.cells 47 [.raw (.slice none 0 0), flag false, .raw (.slice none 0 0)]), brow M] ∧ Sub s.t [(2, num n), (3, num d), (4, .pin (topoP T) 0), (5, .pin [boolsV own] 0), (8, .ptr 0 0), (12, .own 1)]) := by
        subst hops
        refine WA_step 9 [] (by kernel_rfl) ?_
        exact WAs_cons rfl rfl (WR_cS rfl rfl (CanS.mono (hmk _) (fun r σ' h => by obtain ⟨rfl, rfl⟩ := h; exact (WR_k [2, 3, 4, 5, 8, 9, 11, 32, 33, 34, 35, 36, 37, 38, 39, 40, 41] rfl m111111111100000)))) (WAs_nil)
      have m111111110000000 : WA Tryz.prog 79 0 ops 7 #[true, true, true, true, true, true, true, true, false, false, false, false, false, false, false] ⟨[(2, num n), (3, num d), (4, .pin (topoP T) 0), (5, .pin [boolsV own] 0), (8, .ptr 0 0), (9, intsV l), (11, num j), (32, topoV T), (33, topoV T), (34, intsV l), (35, num j), (36, .pin (intsP l) j), (37, num k), (38, .func 132 (asmC (grpN T k) (headN T k) ((k / 2 : Nat) : Int) (wgL T k) (wnL T k))), (39, num d)], [some (.cells 47 [.raw (.slice none 0 0), flag false, .raw (.slice none 0 0)])]⟩ (fun s => s.σ = [some (.cells 47 [.raw (.slice none 0 0), flag false, .raw (.slice none 0 0)]), brow M] ∧ Sub s.t [(2, num n), (3, num d), (4, .pin (topoP T) 0), (5, .pin [boolsV own] 0), (8, .ptr 0 0), (12, .own 1)]) := by
        subst hops
        refine WA_step 8 [] (by kernel_rfl) ?_
        exact WAs_cons rfl rfl (WR_v (y_c rfl (hcl)) rfl (WR_k [2, 3, 4, 5, 8, 9, 11, 32, 33, 34, 35, 36, 37, 38, 39, 40] rfl m111111111000000)) (WAs_nil)
      have m111111100000000 : WA Tryz.prog 79 0 ops 8 #[true, true, true, true, true, true, true, false, false, false, false, false, false, false, false] ⟨[(2, num n), (3, num d), (4, .pin (topoP T) 0), (5, .pin [boolsV own] 0), (8, .ptr 0 0), (9, intsV l), (11, num j), (32, topoV T), (33, topoV T), (34, intsV l), (35, num j), (36, .pin (intsP l) j), (37, num k), (38, .func 132 (asmC (grpN T k) (headN T k) ((k / 2 : Nat) : Int) (wgL T k) (wnL T k)))], [some (.cells 47 [.raw (.slice none 0 0), flag false, .raw (.slice none 0 0)])]⟩ (fun s => s.σ = [some (.cells 47 [.raw (.slice none 0 0), flag false, .raw (.slice none 0 0)]), brow M] ∧ Sub s.t [(2, num n), (3, num d), (4, .pin (topoP T) 0), (5, .pin [boolsV own] 0), (8, .ptr 0 0), (12, .own 1)]) := by
        subst hops
        refine WA_step 7 [] (by kernel_rfl) ?_
        exact WAs_cons rfl rfl (WR_v (y_a rfl) rfl (WR_k [2, 3, 4, 5, 8, 9, 11, 32, 33, 34, 35, 36, 37, 38, 39] rfl m111111110000000)) (WAs_nil)
      have m111111010000000 : WA Tryz.prog 79 0 ops 8 #[true, true, true, true, true, true, false, true, false, false, false, false, false, false, false] ⟨[(2, num n), (3, num d), (4, .pin (topoP T) 0), (5, .pin [boolsV own] 0), (8, .ptr 0 0), (9, intsV l), (11, num j), (32, topoV T), (33, topoV T), (34, intsV l), (35, num j), (36, .pin (intsP l) j), (37, num k), (39, num d)], [some (.cells 47 [.raw (.slice none 0 0), flag false, .raw (.slice none 0 0)])]⟩ (fun s => s.σ = [some (.cells 47 [.raw (.slice none 0 0), flag false, .raw (.slice none 0 0)]), brow M] ∧ Sub s.t [(2, num n), (3, num d), (4, .pin (topoP T) 0), (5, .pin [boolsV own] 0), (8, .ptr 0 0), (12, .own 1)]) := by
        subst hops
        refine WA_step 6 [] (by kernel_rfl) ?_
        exact WAs_cons rfl rfl (WR_v (y_c rfl (has)) rfl (WR_k [2, 3, 4, 5, 8, 9, 11, 32, 33, 34, 35, 36, 37, 38, 39] rfl m111111110000000)) (WAs_nil)
      have m111111000000000 : WA Tryz.prog 79 0 ops 9 #[true, true, true, true, true, true, false, false, false, false, false, false, false, false, false] ⟨[(2, num n), (3, num d), (4, .pin (topoP T) 0), (5, .pin [boolsV own] 0), (8, .ptr 0 0), (9, intsV l), (11, num j), (32, topoV T), (33, topoV T), (34, intsV l), (35, num j), (36, .pin (intsP l) j), (37, num k)], [some (.cells 47 [.raw (.slice none 0 0), flag false, .raw (.slice none 0 0)])]⟩ (fun s => s.σ = [some (.cells 47 [.raw (.slice none 0 0), flag false, .raw (.slice none 0 0)]), brow M] ∧ Sub s.t [(2, num n), (3, num d), (4, .pin (topoP T) 0), (5, .pin [boolsV own] 0), (8, .ptr 0 0), (12, .own 1)]) := by
        subst hops
        refine WA_step 6 [7] (by kernel_rfl) ?_
        exact WAs_cons rfl rfl (WR_v (y_c rfl (has)) rfl (WR_k [2, 3, 4, 5, 8, 9, 11, 32, 33, 34, 35, 36, 37, 38] rfl m111111100000000)) (WAs_cons rfl rfl (WR_v (y_a rfl) rfl (WR_k [2, 3, 4, 5, 8, 9, 11, 32, 33, 34, 35, 36, 37, 39] rfl m111111010000000)) (WAs_nil))
      have m111110010000000 : WA Tryz.prog 79 0 ops 9 #[true, true, true, true, true, false, false, true, false, false, false, false, false, false, false] ⟨[(2, num n), (3, num d), (4, .pin (topoP T) 0), (5, .pin [boolsV own] 0), (8, .ptr 0 0), (9, intsV l), (11, num j), (32, topoV T), (33, topoV T), (34, intsV l), (35, num j), (36, .pin (intsP l) j), (39, num d)], [some (.cells 47 [.raw (.slice none 0 0), flag false, .raw (.slice none 0 0)])]⟩ (fun s => s.σ = [some (.cells 47 [.raw (.slice none 0 0), flag false, .raw (.slice none 0 0)]), brow M] ∧ Sub s.t [(2, num n), (3, num d), (4, .pin (topoP T) 0), (5, .pin [boolsV own] 0), (8, .ptr 0 0), (12, .own 1)]) := by
        subst hops
        refine WA_step 5 [] (by kernel_rfl) ?_
        exact WAs_cons rfl rfl (WR_v (y_ld rfl ((ints_get l j hjl).trans (by rw [hkj]))) rfl (WR_k [2, 3, 4, 5, 8, 9, 11, 32, 33, 34, 35, 36, 37, 39] rfl m111111010000000)) (WAs_nil)
      have m111110000000000 : WA Tryz.prog 79 0 ops 10 #[true, true, true, true, true, false, false, false, false, false, false, false, false, false, false] ⟨[(2, num n), (3, num d), (4, .pin (topoP T) 0), (5, .pin [boolsV own] 0), (8, .ptr 0 0), (9, intsV l), (11, num j), (32, topoV T), (33, topoV T), (34, intsV l), (35, num j), (36, .pin (intsP l) j)], [some (.cells 47 [.raw (.slice none 0 0), flag false, .raw (.slice none 0 0)])]⟩ (fun s => s.σ = [some (.cells 47 [.raw (.slice none 0 0), flag false, .raw (.slice none 0 0)]), brow M] ∧ Sub s.t [(2, num n), (3, num d), (4, .pin (topoP T) 0), (5, .pin [boolsV own] 0), (8, .ptr 0 0), (12, .own 1)]) := by
        subst hops
        refine WA_step 5 [7] (by kernel_rfl) ?_
        exact WAs_cons rfl rfl (WR_v (y_ld rfl ((ints_get l j hjl).trans (by rw [hkj]))) rfl (WR_k [2, 3, 4, 5, 8, 9, 11, 32, 33, 34, 35, 36, 37] rfl m111111000000000)) (WAs_cons rfl rfl (WR_v (y_a rfl) rfl (WR_k [2, 3, 4, 5, 8, 9, 11, 32, 33, 34, 35, 36, 39] rfl m111110010000000)) (WAs_nil))
      have m111100010000000 : WA Tryz.prog 79 0 ops 10 #[true, true, true, true, false, false, false, true, false, false, false, false, false, false, false] ⟨[(2, num n), (3, num d), (4, .pin (topoP T) 0), (5, .pin [boolsV own] 0), (8, .ptr 0 0), (9, intsV l), (11, num j), (32, topoV T), (33, topoV T), (34, intsV l), (35, num j), (39, num d)], [some (.cells 47 [.raw (.slice none 0 0), flag false, .raw (.slice none 0 0)])]⟩ (fun s => s.σ = [some (.cells 47 [.raw (.slice none 0 0), flag false, .raw (.slice none 0 0)]), brow M] ∧ Sub s.t [(2, num n), (3, num d), (4, .pin (topoP T) 0), (5, .pin [boolsV own] 0), (8, .ptr 0 0), (12, .own 1)]) := by
        subst hops
        refine WA_step 4 [] (by kernel_rfl) ?_
        exact WAs_cons rfl rfl (WR_v (y_ix (j) rfl) rfl (WR_k [2, 3, 4, 5, 8, 9, 11, 32, 33, 34, 35, 36, 39] rfl m111110010000000)) (WAs_nil)
      have m111100000000000 : WA Tryz.prog 79 0 ops 11 #[true, true, true, true, false, false, false, false, false, false, false, false, false, false, false] ⟨[(2, num n), (3, num d), (4, .pin (topoP T) 0), (5, .pin [boolsV own] 0), (8, .ptr 0 0), (9, intsV l), (11, num j), (32, topoV T), (33, topoV T), (34, intsV l), (35, num j)], [some (.cells 47 [.raw (.slice none 0 0), flag false, .raw (.slice none 0 0)])]⟩ (fun s => s.σ = [some (.cells 47 [.raw (.slice none 0 0), flag false, .raw (.slice none 0 0)]), brow M] ∧ Sub s.t [(2, num n), (3, num d), (4, .pin (topoP T) 0), (5, .pin [boolsV own] 0), (8, .ptr 0 0), (12, .own 1)]) := by
        subst hops
        refine WA_step 4 [7] (by kernel_rfl) ?_
        exact WAs_cons rfl rfl (WR_v (y_ix (j) rfl) rfl (WR_k [2, 3, 4, 5, 8, 9, 11, 32, 33, 34, 35, 36] rfl m111110000000000)) (WAs_cons rfl rfl (WR_v (y_a rfl) rfl (WR_k [2, 3, 4, 5, 8, 9, 11, 32, 33, 34, 35, 39] rfl m111100010000000)) (WAs_nil))
      have m111000010000000 : WA Tryz.prog 79 0 ops 11 #[true, true, true, false, false, false, false, true, false, false, false, false, false, false, false] ⟨[(2, num n), (3, num d), (4, .pin (topoP T) 0), (5, .pin [boolsV own] 0), (8, .ptr 0 0), (9, intsV l), (11, num j), (32, topoV T), (33, topoV T), (34, intsV l), (39, num d)], [some (.cells 47 [.raw (.slice none 0 0), flag false, .raw (.slice none 0 0)])]⟩ (fun s => s.σ = [some (.cells 47 [.raw (.slice none 0 0), flag false, .raw (.slice none 0 0)]), brow M] ∧ Sub s.t [(2, num n), (3, num d), (4, .pin (topoP T) 0), (5, .pin [boolsV own] 0), (8, .ptr 0 0), (12, .own 1)]) := by
        subst hops
        refine WA_step 3 [] (by kernel_rfl) ?_
        exact WAs_cons rfl rfl (WR_v (y_a rfl) rfl (WR_k [2, 3, 4, 5, 8, 9, 11, 32, 33, 34, 35, 39] rfl m111100010000000)) (WAs_nil)
      have m111000000000000 : WA Tryz.prog 79 0 ops 12 #[true, true, true, false, false, false, false, false, false, false, false, false, false, false, false] ⟨[(2, num n), (3, num d), (4, .pin (topoP T) 0), (5, .pin [boolsV own] 0), (8, .ptr 0 0), (9, intsV l), (11, num j), (32, topoV T), (33, topoV T), (34, intsV l)], [some (.cells 47 [.raw (.slice none 0 0), flag false, .raw (.slice none 0 0)])]⟩ (fun s => s.σ = [some (.cells 47 [.raw (.slice none 0 0), flag false, .raw (.slice none 0 0)]), brow M] ∧ Sub s.t [(2, num n), (3, num d), (4, .pin (topoP T) 0), (5, .pin [boolsV own] 0), (8, .ptr 0 0), (12, .own 1)]) := by
        subst hops
        refine WA_step 3 [7] (by kernel_rfl) ?_
        exact WAs_cons rfl rfl (WR_v (y_a rfl) rfl (WR_k [2, 3, 4, 5, 8, 9, 11, 32, 33, 34, 35] rfl m111100000000000)) (WAs_cons rfl rfl (WR_v (y_a rfl) rfl (WR_k [2, 3, 4, 5, 8, 9, 11, 32, 33, 34, 39] rfl m111000010000000)) (WAs_nil))
      have m110100010000000 : WA Tryz.prog 79 0 ops 11 #[true, true, false, true, false, false, false, true, false, false, false, false, false, false, false] ⟨[(2, num n), (3, num d), (4, .pin (topoP T) 0), (5, .pin [boolsV own] 0), (8, .ptr 0 0), (9, intsV l), (11, num j), (32, topoV T), (33, topoV T), (35, num j), (39, num d)], [some (.cells 47 [.raw (.slice none 0 0), flag false, .raw (.slice none 0 0)])]⟩ (fun s => s.σ = [some (.cells 47 [.raw (.slice none 0 0), flag false, .raw (.slice none 0 0)]), brow M] ∧ Sub s.t [(2, num n), (3, num d), (4, .pin (topoP T) 0), (5, .pin [boolsV own] 0), (8, .ptr 0 0), (12, .own 1)]) := by
        subst hops
        refine WA_step 2 [] (by kernel_rfl) ?_
        exact WAs_cons rfl rfl (WR_v (y_a rfl) rfl (WR_k [2, 3, 4, 5, 8, 9, 11, 32, 33, 34, 35, 39] rfl m111100010000000)) (WAs_nil)
      have m110100000000000 : WA Tryz.prog 79 0 ops 12 #[true, true, false, true, false, false, false, false, false, false, false, false, false, false, false] ⟨[(2, num n), (3, num d), (4, .pin (topoP T) 0), (5, .pin [boolsV own] 0), (8, .ptr 0 0), (9, intsV l), (11, num j), (32, topoV T), (33, topoV T), (35, num j)], [some (.cells 47 [.raw (.slice none 0 0), flag false, .raw (.slice none 0 0)])]⟩ (fun s => s.σ = [some (.cells 47 [.raw (.slice none 0 0), flag false, .raw (.slice none 0 0)]), brow M] ∧ Sub s.t [(2, num n), (3, num d), (4, .pin (topoP T) 0), (5, .pin [boolsV own] 0), (8, .ptr 0 0), (12, .own 1)]) := by
        subst hops
        refine WA_step 2 [7] (by kernel_rfl) ?_
        exact WAs_cons rfl rfl (WR_v (y_a rfl) rfl (WR_k [2, 3, 4, 5, 8, 9, 11, 32, 33, 34, 35] rfl m111100000000000)) (WAs_cons rfl rfl (WR_v (y_a rfl) rfl (WR_k [2, 3, 4, 5, 8, 9, 11, 32, 33, 35, 39] rfl m110100010000000)) (WAs_nil))
      have m110000010000000 : WA Tryz.prog 79 0 ops 12 #[true, true, false, false, false, false, false, true, false, false, false, false, false, false, false] ⟨[(2, num n), (3, num d), (4, .pin (topoP T) 0), (5, .pin [boolsV own] 0), (8, .ptr 0 0), (9, intsV l), (11, num j), (32, topoV T), (33, topoV T), (39, num d)], [some (.cells 47 [.raw (.slice none 0 0), flag false, .raw (.slice none 0 0)])]⟩ (fun s => s.σ = [some (.cells 47 [.raw (.slice none 0 0), flag false, .raw (.slice none 0 0)]), brow M] ∧ Sub s.t [(2, num n), (3, num d), (4, .pin (topoP T) 0), (5, .pin [boolsV own] 0), (8, .ptr 0 0), (12, .own 1)]) := by
        subst hops
        refine WA_step 2 [3] (by kernel_rfl) ?_
        exact WAs_cons rfl rfl (WR_v (y_a rfl) rfl (WR_k [2, 3, 4, 5, 8, 9, 11, 32, 33, 34, 39] rfl m111000010000000)) (WAs_cons rfl rfl (WR_v (y_a rfl) rfl (WR_k [2, 3, 4, 5, 8, 9, 11, 32, 33, 35, 39] rfl m110100010000000)) (WAs_nil))
      have m110000000000000 : WA Tryz.prog 79 0 ops 13 #[true, true, false, false, false, false, false, false, false, false, false, false, false, false, false] ⟨[(2, num n), (3, num d), (4, .pin (topoP T) 0), (5, .pin [boolsV own] 0), (8, .ptr 0 0), (9, intsV l), (11, num j), (32, topoV T), (33, topoV T)], [some (.cells 47 [.raw (.slice none 0 0), flag false, .raw (.slice none 0 0)])]⟩ (fun s => s.σ = [some (.cells 47 [.raw (.slice none 0 0), flag false, .raw (.slice none 0 0)]), brow M] ∧ Sub s.t [(2, num n), (3, num d), (4, .pin (topoP T) 0), (5, .pin [boolsV own] 0), (8, .ptr 0 0), (12, .own 1)]) := by
        subst hops
        refine WA_step 2 [3, 7] (by kernel_rfl) ?_
        exact WAs_cons rfl rfl (WR_v (y_a rfl) rfl (WR_k [2, 3, 4, 5, 8, 9, 11, 32, 33, 34] rfl m111000000000000)) (WAs_cons rfl rfl (WR_v (y_a rfl) rfl (WR_k [2, 3, 4, 5, 8, 9, 11, 32, 33, 35] rfl m110100000000000)) (WAs_cons rfl rfl (WR_v (y_a rfl) rfl (WR_k [2, 3, 4, 5, 8, 9, 11, 32, 33, 39] rfl m110000010000000)) (WAs_nil)))
      have m101111010000000 : WA Tryz.prog 79 0 ops 9 #[true, false, true, true, true, true, false, true, false, false, false, false, false, false, false] ⟨[(2, num n), (3, num d), (4, .pin (topoP T) 0), (5, .pin [boolsV own] 0), (8, .ptr 0 0), (9, intsV l), (11, num j), (32, topoV T), (34, intsV l), (35, num j), (36, .pin (intsP l) j), (37, num k), (39, num d)], [some (.cells 47 [.raw (.slice none 0 0), flag false, .raw (.slice none 0 0)])]⟩ (fun s => s.σ = [some (.cells 47 [.raw (.slice none 0 0), flag false, .raw (.slice none 0 0)]), brow M] ∧ Sub s.t [(2, num n), (3, num d), (4, .pin (topoP T) 0), (5, .pin [boolsV own] 0), (8, .ptr 0 0), (12, .own 1)]) := by
        subst hops
        refine WA_step 1 [] (by kernel_rfl) ?_
        exact WAs_cons rfl rfl (WR_v (y_a rfl) rfl (WR_k [2, 3, 4, 5, 8, 9, 11, 32, 33, 34, 35, 36, 37, 39] rfl m111111010000000)) (WAs_nil)
      have m101111000000000 : WA Tryz.prog 79 0 ops 10 #[true, false, true, true, true, true, false, false, false, false, false, false, false, false, false] ⟨[(2, num n), (3, num d), (4, .pin (topoP T) 0), (5, .pin [boolsV own] 0), (8, .ptr 0 0), (9, intsV l), (11, num j), (32, topoV T), (34, intsV l), (35, num j), (36, .pin (intsP l) j), (37, num k)], [some (.cells 47 [.raw (.slice none 0 0), flag false, .raw (.slice none 0 0)])]⟩ (fun s => s.σ = [some (.cells 47 [.raw (.slice none 0 0), flag false, .raw (.slice none 0 0)]), brow M] ∧ Sub s.t [(2, num n), (3, num d), (4, .pin (topoP T) 0), (5, .pin [boolsV own] 0), (8, .ptr 0 0), (12, .own 1)]) := by
        subst hops
        refine WA_step 1 [7] (by kernel_rfl) ?_
        exact WAs_cons rfl rfl (WR_v (y_a rfl) rfl (WR_k [2, 3, 4, 5, 8, 9, 11, 32, 33, 34, 35, 36, 37] rfl m111111000000000)) (WAs_cons rfl rfl (WR_v (y_a rfl) rfl (WR_k [2, 3, 4, 5, 8, 9, 11, 32, 34, 35, 36, 37, 39] rfl m101111010000000)) (WAs_nil))
      have m101110010000000 : WA Tryz.prog 79 0 ops 10 #[true, false, true, true, true, false, false, true, false, false, false, false, false, false, false] ⟨[(2, num n), (3, num d), (4, .pin (topoP T) 0), (5, .pin [boolsV own] 0), (8, .ptr 0 0), (9, intsV l), (11, num j), (32, topoV T), (34, intsV l), (35, num j), (36, .pin (intsP l) j), (39, num d)], [some (.cells 47 [.raw (.slice none 0 0), flag false, .raw (.slice none 0 0)])]⟩ (fun s => s.σ = [some (.cells 47 [.raw (.slice none 0 0), flag false, .raw (.slice none 0 0)]), brow M] ∧ Sub s.t [(2, num n), (3, num d), (4, .pin (topoP T) 0), (5, .pin [boolsV own] 0), (8, .ptr 0 0), (12, .own 1)]) := by
        subst hops
        refine WA_step 1 [5] (by kernel_rfl) ?_
        exact WAs_cons rfl rfl (WR_v (y_a rfl) rfl (WR_k [2, 3, 4, 5, 8, 9, 11, 32, 33, 34, 35, 36, 39] rfl m111110010000000)) (WAs_cons rfl rfl (WR_v (y_ld rfl ((ints_get l j hjl).trans (by rw [hkj]))) rfl (WR_k [2, 3, 4, 5, 8, 9, 11, 32, 34, 35, 36, 37, 39] rfl m101111010000000)) (WAs_nil))
      have m101110000000000 : WA Tryz.prog 79 0 ops 11 #[true, false, true, true, true, false, false, false, false, false, false, false, false, false, false] ⟨[(2, num n), (3, num d), (4, .pin (topoP T) 0), (5, .pin [boolsV own] 0), (8, .ptr 0 0), (9, intsV l), (11, num j), (32, topoV T), (34, intsV l), (35, num j), (36, .pin (intsP l) j)], [some (.cells 47 [.raw (.slice none 0 0), flag false, .raw (.slice none 0 0)])]⟩ (fun s => s.σ = [some (.cells 47 [.raw (.slice none 0 0), flag false, .raw (.slice none 0 0)]), brow M] ∧ Sub s.t [(2, num n), (3, num d), (4, .pin (topoP T) 0), (5, .pin [boolsV own] 0), (8, .ptr 0 0), (12, .own 1)]) := by
        subst hops
        refine WA_step 1 [5, 7] (by kernel_rfl) ?_
        exact WAs_cons rfl rfl (WR_v (y_a rfl) rfl (WR_k [2, 3, 4, 5, 8, 9, 11, 32, 33, 34, 35, 36] rfl m111110000000000)) (WAs_cons rfl rfl (WR_v (y_ld rfl ((ints_get l j hjl).trans (by rw [hkj]))) rfl (WR_k [2, 3, 4, 5, 8, 9, 11, 32, 34, 35, 36, 37] rfl m101111000000000)) (WAs_cons rfl rfl (WR_v (y_a rfl) rfl (WR_k [2, 3, 4, 5, 8, 9, 11, 32, 34, 35, 36, 39] rfl m101110010000000)) (WAs_nil)))
      have m101100010000000 : WA Tryz.prog 79 0 ops 11 #[true, false, true, true, false, false, false, true, false, false, false, false, false, false, false] ⟨[(2, num n), (3, num d), (4, .pin (topoP T) 0), (5, .pin [boolsV own] 0), (8, .ptr 0 0), (9, intsV l), (11, num j), (32, topoV T), (34, intsV l), (35, num j), (39, num d)], [some (.cells 47 [.raw (.slice none 0 0), flag false, .raw (.slice none 0 0)])]⟩ (fun s => s.σ = [some (.cells 47 [.raw (.slice none 0 0), flag false, .raw (.slice none 0 0)]), brow M] ∧ Sub s.t [(2, num n), (3, num d), (4, .pin (topoP T) 0), (5, .pin [boolsV own] 0), (8, .ptr 0 0), (12, .own 1)]) := by
        subst hops
        refine WA_step 1 [4] (by kernel_rfl) ?_
        exact WAs_cons rfl rfl (WR_v (y_a rfl) rfl (WR_k [2, 3, 4, 5, 8, 9, 11, 32, 33, 34, 35, 39] rfl m111100010000000)) (WAs_cons rfl rfl (WR_v (y_ix (j) rfl) rfl (WR_k [2, 3, 4, 5, 8, 9, 11, 32, 34, 35, 36, 39] rfl m101110010000000)) (WAs_nil))
      have m101100000000000 : WA Tryz.prog 79 0 ops 12 #[true, false, true, true, false, false, false, false, false, false, false, false, false, false, false] ⟨[(2, num n), (3, num d), (4, .pin (topoP T) 0), (5, .pin [boolsV own] 0), (8, .ptr 0 0), (9, intsV l), (11, num j), (32, topoV T), (34, intsV l), (35, num j)], [some (.cells 47 [.raw (.slice none 0 0), flag false, .raw (.slice none 0 0)])]⟩ (fun s => s.σ = [some (.cells 47 [.raw (.slice none 0 0), flag false, .raw (.slice none 0 0)]), brow M] ∧ Sub s.t [(2, num n), (3, num d), (4, .pin (topoP T) 0), (5, .pin [boolsV own] 0), (8, .ptr 0 0), (12, .own 1)]) := by
        subst hops
        refine WA_step 1 [4, 7] (by kernel_rfl) ?_
        exact WAs_cons rfl rfl (WR_v (y_a rfl) rfl (WR_k [2, 3, 4, 5, 8, 9, 11, 32, 33, 34, 35] rfl m111100000000000)) (WAs_cons rfl rfl (WR_v (y_ix (j) rfl) rfl (WR_k [2, 3, 4, 5, 8, 9, 11, 32, 34, 35, 36] rfl m101110000000000)) (WAs_cons rfl rfl (WR_v (y_a rfl) rfl (WR_k [2, 3, 4, 5, 8, 9, 11, 32, 34, 35, 39] rfl m101100010000000)) (WAs_nil)))
      have m101000010000000 : WA Tryz.prog 79 0 ops 12 #[true, false, true, false, false, false, false, true, false, false, false, false, false, false, false] ⟨[(2, num n), (3, num d), (4, .pin (topoP T) 0), (5, .pin [boolsV own] 0), (8, .ptr 0 0), (9, intsV l), (11, num j), (32, topoV T), (34, intsV l), (39, num d)], [some (.cells 47 [.raw (.slice none 0 0), flag false, .raw (.slice none 0 0)])]⟩ (fun s => s.σ = [some (.cells 47 [.raw (.slice none 0 0), flag false, .raw (.slice none 0 0)]), brow M] ∧ Sub s.t [(2, num n), (3, num d), (4, .pin (topoP T) 0), (5, .pin [boolsV own] 0), (8, .ptr 0 0), (12, .own 1)]) := by
        subst hops
        refine WA_step 1 [3] (by kernel_rfl) ?_
        exact WAs_cons rfl rfl (WR_v (y_a rfl) rfl (WR_k [2, 3, 4, 5, 8, 9, 11, 32, 33, 34, 39] rfl m111000010000000)) (WAs_cons rfl rfl (WR_v (y_a rfl) rfl (WR_k [2, 3, 4, 5, 8, 9, 11, 32, 34, 35, 39] rfl m101100010000000)) (WAs_nil))
      have m101000000000000 : WA Tryz.prog 79 0 ops 13 #[true, false, true, false, false, false, false, false, false, false, false, false, false, false, false] ⟨[(2, num n), (3, num d), (4, .pin (topoP T) 0), (5, .pin [boolsV own] 0), (8, .ptr 0 0), (9, intsV l), (11, num j), (32, topoV T), (34, intsV l)], [some (.cells 47 [.raw (.slice none 0 0), flag false, .raw (.slice none 0 0)])]⟩ (fun s => s.σ = [some (.cells 47 [.raw (.slice none 0 0), flag false, .raw (.slice none 0 0)]), brow M] ∧ Sub s.t [(2, num n), (3, num d), (4, .pin (topoP T) 0), (5, .pin [boolsV own] 0), (8, .ptr 0 0), (12, .own 1)]) := by
        subst hops
        refine WA_step 1 [3, 7] (by kernel_rfl) ?_
        exact WAs_cons rfl rfl (WR_v (y_a rfl) rfl (WR_k [2, 3, 4, 5, 8, 9, 11, 32, 33, 34] rfl m111000000000000)) (WAs_cons rfl rfl (WR_v (y_a rfl) rfl (WR_k [2, 3, 4, 5, 8, 9, 11, 32, 34, 35] rfl m101100000000000)) (WAs_cons rfl rfl (WR_v (y_a rfl) rfl (WR_k [2, 3, 4, 5, 8, 9, 11, 32, 34, 39] rfl m101000010000000)) (WAs_nil)))
      have m100100010000000 : WA Tryz.prog 79 0 ops 12 #[true, false, false, true, false, false, false, true, false, false, false, false, false, false, false] ⟨[(2, num n), (3, num d), (4, .pin (topoP T) 0), (5, .pin [boolsV own] 0), (8, .ptr 0 0), (9, intsV l), (11, num j), (32, topoV T), (35, num j), (39, num d)], [some (.cells 47 [.raw (.slice none 0 0), flag false, .raw (.slice none 0 0)])]⟩ (fun s => s.σ = [some (.cells 47 [.raw (.slice none 0 0), flag false, .raw (.slice none 0 0)]), brow M] ∧ Sub s.t [(2, num n), (3, num d), (4, .pin (topoP T) 0), (5, .pin [boolsV own] 0), (8, .ptr 0 0), (12, .own 1)]) := by
        subst hops
        refine WA_step 1 [2] (by kernel_rfl) ?_
        exact WAs_cons rfl rfl (WR_v (y_a rfl) rfl (WR_k [2, 3, 4, 5, 8, 9, 11, 32, 33, 35, 39] rfl m110100010000000)) (WAs_cons rfl rfl (WR_v (y_a rfl) rfl (WR_k [2, 3, 4, 5, 8, 9, 11, 32, 34, 35, 39] rfl m101100010000000)) (WAs_nil))
      have m100100000000000 : WA Tryz.prog 79 0 ops 13 #[true, false, false, true, false, false, false, false, false, false, false, false, false, false, false] ⟨[(2, num n), (3, num d), (4, .pin (topoP T) 0), (5, .pin [boolsV own] 0), (8, .ptr 0 0), (9, intsV l), (11, num j), (32, topoV T), (35, num j)], [some (.cells 47 [.raw (.slice none 0 0), flag false, .raw (.slice none 0 0)])]⟩ (fun s => s.σ = [some (.cells 47 [.raw (.slice none 0 0), flag false, .raw (.slice none 0 0)]), brow M] ∧ Sub s.t [(2, num n), (3, num d), (4, .pin (topoP T) 0), (5, .pin [boolsV own] 0), (8, .ptr 0 0), (12, .own 1)]) := by
        subst hops
        refine WA_step 1 [2, 7] (by kernel_rfl) ?_
        exact WAs_cons rfl rfl (WR_v (y_a rfl) rfl (WR_k [2, 3, 4, 5, 8, 9, 11, 32, 33, 35] rfl m110100000000000)) (WAs_cons rfl rfl (WR_v (y_a rfl) rfl (WR_k [2, 3, 4, 5, 8, 9, 11, 32, 34, 35] rfl m101100000000000)) (WAs_cons rfl rfl (WR_v (y_a rfl) rfl (WR_k [2, 3, 4, 5, 8, 9, 11, 32, 35, 39] rfl m100100010000000)) (WAs_nil)))
      have m100000010000000 : WA Tryz.prog 79 0 ops 13 #[true, false, false, false, false, false, false, true, false, false, false, false, false, false, false] ⟨[(2, num n), (3, num d), (4, .pin (topoP T) 0), (5, .pin [boolsV own] 0), (8, .ptr 0 0), (9, intsV l), (11, num j), (32, topoV T), (39, num d)], [some (.cells 47 [.raw (.slice none 0 0), flag false, .raw (.slice none 0 0)])]⟩ (fun s => s.σ = [some (.cells 47 [.raw (.slice none 0 0), flag false, .raw (.slice none 0 0)]), brow M] ∧ Sub s.t [(2, num n), (3, num d), (4, .pin (topoP T) 0), (5, .pin [boolsV own] 0), (8, .ptr 0 0), (12, .own 1)]) := by
        subst hops
        refine WA_step 1 [2, 3] (by kernel_rfl) ?_
        exact WAs_cons rfl rfl (WR_v (y_a rfl) rfl (WR_k [2, 3, 4, 5, 8, 9, 11, 32, 33, 39] rfl m110000010000000)) (WAs_cons rfl rfl (WR_v (y_a rfl) rfl (WR_k [2, 3, 4, 5, 8, 9, 11, 32, 34, 39] rfl m101000010000000)) (WAs_cons rfl rfl (WR_v (y_a rfl) rfl (WR_k [2, 3, 4, 5, 8, 9, 11, 32, 35, 39] rfl m100100010000000)) (WAs_nil)))
      have m100000000000000 : WA Tryz.prog 79 0 ops 14 #[true, false, false, false, false, false, false, false, false, false, false, false, false, false, false] ⟨[(2, num n), (3, num d), (4, .pin (topoP T) 0), (5, .pin [boolsV own] 0), (8, .ptr 0 0), (9, intsV l), (11, num j), (32, topoV T)], [some (.cells 47 [.raw (.slice none 0 0), flag false, .raw (.slice none 0 0)])]⟩ (fun s => s.σ = [some (.cells 47 [.raw (.slice none 0 0), flag false, .raw (.slice none 0 0)]), brow M] ∧ Sub s.t [(2, num n), (3, num d), (4, .pin (topoP T) 0), (5, .pin [boolsV own] 0), (8, .ptr 0 0), (12, .own 1)]) := by
        subst hops
        refine WA_step 1 [2, 3, 7] (by kernel_rfl) ?_
        exact WAs_cons rfl rfl (WR_v (y_a rfl) rfl (WR_k [2, 3, 4, 5, 8, 9, 11, 32, 33] rfl m110000000000000)) (WAs_cons rfl rfl (WR_v (y_a rfl) rfl (WR_k [2, 3, 4, 5, 8, 9, 11, 32, 34] rfl m101000000000000)) (WAs_cons rfl rfl (WR_v (y_a rfl) rfl (WR_k [2, 3, 4, 5, 8, 9, 11, 32, 35] rfl m100100000000000)) (WAs_cons rfl rfl (WR_v (y_a rfl) rfl (WR_k [2, 3, 4, 5, 8, 9, 11, 32, 39] rfl m100000010000000)) (WAs_nil))))
      have m011111111000000 : WA Tryz.prog 79 0 ops 7 #[false, true, true, true, true, true, true, true, true, false, false, false, false, false, false] ⟨[(2, num n), (3, num d), (4, .pin (topoP T) 0), (5, .pin [boolsV own] 0), (8, .ptr 0 0), (9, intsV l), (11, num j), (33, topoV T), (34, intsV l), (35, num j), (36, .pin (intsP l) j), (37, num k), (38, .func 132 (asmC (grpN T k) (headN T k) ((k / 2 : Nat) : Int) (wgL T k) (wnL T k))), (39, num d), (40, compV ck cy)], [some (.cells 47 [.raw (.slice none 0 0), flag false, .raw (.slice none 0 0)])]⟩ (fun s => s.σ = [some (.cells 47 [.raw (.slice none 0 0), flag false, .raw (.slice none 0 0)]), brow M] ∧ Sub s.t [(2, num n), (3, num d), (4, .pin (topoP T) 0), (5, .pin [boolsV own] 0), (8, .ptr 0 0), (12, .own 1)]) := by
        subst hops
        refine WA_step 0 [] (by kernel_rfl) ?_
        exact WAs_cons rfl rfl (WR_v (y_a rfl) rfl (WR_k [2, 3, 4, 5, 8, 9, 11, 32, 33, 34, 35, 36, 37, 38, 39, 40] rfl m111111111000000)) (WAs_nil)
      have m011111110000000 : WA Tryz.prog 79 0 ops 8 #[false, true, true, true, true, true, true, true, false, false, false, false, false, false, false] ⟨[(2, num n), (3, num d), (4, .pin (topoP T) 0), (5, .pin [boolsV own] 0), (8, .ptr 0 0), (9, intsV l), (11, num j), (33, topoV T), (34, intsV l), (35, num j), (36, .pin (intsP l) j), (37, num k), (38, .func 132 (asmC (grpN T k) (headN T k) ((k / 2 : Nat) : Int) (wgL T k) (wnL T k))), (39, num d)], [some (.cells 47 [.raw (.slice none 0 0), flag false, .raw (.slice none 0 0)])]⟩ (fun s => s.σ = [some (.cells 47 [.raw (.slice none 0 0), flag false, .raw (.slice none 0 0)]), brow M] ∧ Sub s.t [(2, num n), (3, num d), (4, .pin (topoP T) 0), (5, .pin [boolsV own] 0), (8, .ptr 0 0), (12, .own 1)]) := by
        subst hops
        refine WA_step 0 [8] (by kernel_rfl) ?_
        exact WAs_cons rfl rfl (WR_v (y_a rfl) rfl (WR_k [2, 3, 4, 5, 8, 9, 11, 32, 33, 34, 35, 36, 37, 38, 39] rfl m111111110000000)) (WAs_cons rfl rfl (WR_v (y_c rfl (hcl)) rfl (WR_k [2, 3, 4, 5, 8, 9, 11, 33, 34, 35, 36, 37, 38, 39, 40] rfl m011111111000000)) (WAs_nil))
      have m011111100000000 : WA Tryz.prog 79 0 ops 9 #[false, true, true, true, true, true, true, false, false, false, false, false, false, false, false] ⟨[(2, num n), (3, num d), (4, .pin (topoP T) 0), (5, .pin [boolsV own] 0), (8, .ptr 0 0), (9, intsV l), (11, num j), (33, topoV T), (34, intsV l), (35, num j), (36, .pin (intsP l) j), (37, num k), (38, .func 132 (asmC (grpN T k) (headN T k) ((k / 2 : Nat) : Int) (wgL T k) (wnL T k)))], [some (.cells 47 [.raw (.slice none 0 0), flag false, .raw (.slice none 0 0)])]⟩ (fun s => s.σ = [some (.cells 47 [.raw (.slice none 0 0), flag false, .raw (.slice none 0 0)]), brow M] ∧ Sub s.t [(2, num n), (3, num d), (4, .pin (topoP T) 0), (5, .pin [boolsV own] 0), (8, .ptr 0 0), (12, .own 1)]) := by
        subst hops
        refine WA_step 0 [7] (by kernel_rfl) ?_
        exact WAs_cons rfl rfl (WR_v (y_a rfl) rfl (WR_k [2, 3, 4, 5, 8, 9, 11, 32, 33, 34, 35, 36, 37, 38] rfl m111111100000000)) (WAs_cons rfl rfl (WR_v (y_a rfl) rfl (WR_k [2, 3, 4, 5, 8, 9, 11, 33, 34, 35, 36, 37, 38, 39] rfl m011111110000000)) (WAs_nil))
      have m011111010000000 : WA Tryz.prog 79 0 ops 9 #[false, true, true, true, true, true, false, true, false, false, false, false, false, false, false] ⟨[(2, num n), (3, num d), (4, .pin (topoP T) 0), (5, .pin [boolsV own] 0), (8, .ptr 0 0), (9, intsV l), (11, num j), (33, topoV T), (34, intsV l), (35, num j), (36, .pin (intsP l) j), (37, num k), (39, num d)], [some (.cells 47 [.raw (.slice none 0 0), flag false, .raw (.slice none 0 0)])]⟩ (fun s => s.σ = [some (.cells 47 [.raw (.slice none 0 0), flag false, .raw (.slice none 0 0)]), brow M] ∧ Sub s.t [(2, num n), (3, num d), (4, .pin (topoP T) 0), (5, .pin [boolsV own] 0), (8, .ptr 0 0), (12, .own 1)]) := by
        subst hops
        refine WA_step 0 [6] (by kernel_rfl) ?_
        exact WAs_cons rfl rfl (WR_v (y_a rfl) rfl (WR_k [2, 3, 4, 5, 8, 9, 11, 32, 33, 34, 35, 36, 37, 39] rfl m111111010000000)) (WAs_cons rfl rfl (WR_v (y_c rfl (has)) rfl (WR_k [2, 3, 4, 5, 8, 9, 11, 33, 34, 35, 36, 37, 38, 39] rfl m011111110000000)) (WAs_nil))
      have m011111000000000 : WA Tryz.prog 79 0 ops 10 #[false, true, true, true, true, true, false, false, false, false, false, false, false, false, false] ⟨[(2, num n), (3, num d), (4, .pin (topoP T) 0), (5, .pin [boolsV own] 0), (8, .ptr 0 0), (9, intsV l), (11, num j), (33, topoV T), (34, intsV l), (35, num j), (36, .pin (intsP l) j), (37, num k)], [some (.cells 47 [.raw (.slice none 0 0), flag false, .raw (.slice none 0 0)])]⟩ (fun s => s.σ = [some (.cells 47 [.raw (.slice none 0 0), flag false, .raw (.slice none 0 0)]), brow M] ∧ Sub s.t [(2, num n), (3, num d), (4, .pin (topoP T) 0), (5, .pin [boolsV own] 0), (8, .ptr 0 0), (12, .own 1)]) := by
        subst hops
        refine WA_step 0 [6, 7] (by kernel_rfl) ?_
        exact WAs_cons rfl rfl (WR_v (y_a rfl) rfl (WR_k [2, 3, 4, 5, 8, 9, 11, 32, 33, 34, 35, 36, 37] rfl m111111000000000)) (WAs_cons rfl rfl (WR_v (y_c rfl (has)) rfl (WR_k [2, 3, 4, 5, 8, 9, 11, 33, 34, 35, 36, 37, 38] rfl m011111100000000)) (WAs_cons rfl rfl (WR_v (y_a rfl) rfl (WR_k [2, 3, 4, 5, 8, 9, 11, 33, 34, 35, 36, 37, 39] rfl m011111010000000)) (WAs_nil)))
      have m011110010000000 : WA Tryz.prog 79 0 ops 10 #[false, true, true, true, true, false, false, true, false, false, false, false, false, false, false] ⟨[(2, num n), (3, num d), (4, .pin (topoP T) 0), (5, .pin [boolsV own] 0), (8, .ptr 0 0), (9, intsV l), (11, num j), (33, topoV T), (34, intsV l), (35, num j), (36, .pin (intsP l) j), (39, num d)], [some (.cells 47 [.raw (.slice none 0 0), flag false, .raw (.slice none 0 0)])]⟩ (fun s => s.σ = [some (.cells 47 [.raw (.slice none 0 0), flag false, .raw (.slice none 0 0)]), brow M] ∧ Sub s.t [(2, num n), (3, num d), (4, .pin (topoP T) 0), (5, .pin [boolsV own] 0), (8, .ptr 0 0), (12, .own 1)]) := by
        subst hops
        refine WA_step 0 [5] (by kernel_rfl) ?_
        exact WAs_cons rfl rfl (WR_v (y_a rfl) rfl (WR_k [2, 3, 4, 5, 8, 9, 11, 32, 33, 34, 35, 36, 39] rfl m111110010000000)) (WAs_cons rfl rfl (WR_v (y_ld rfl ((ints_get l j hjl).trans (by rw [hkj]))) rfl (WR_k [2, 3, 4, 5, 8, 9, 11, 33, 34, 35, 36, 37, 39] rfl m011111010000000)) (WAs_nil))
      have m011110000000000 : WA Tryz.prog 79 0 ops 11 #[false, true, true, true, true, false, false, false, false, false, false, false, false, false, false] ⟨[(2, num n), (3, num d), (4, .pin (topoP T) 0), (5, .pin [boolsV own] 0), (8, .ptr 0 0), (9, intsV l), (11, num j), (33, topoV T), (34, intsV l), (35, num j), (36, .pin (intsP l) j)], [some (.cells 47 [.raw (.slice none 0 0), flag false, .raw (.slice none 0 0)])]⟩ (fun s => s.σ = [some (.cells 47 [.raw (.slice none 0 0), flag false, .raw (.slice none 0 0)]), brow M] ∧ Sub s.t [(2, num n), (3, num d), (4, .pin (topoP T) 0), (5, .pin [boolsV own] 0), (8, .ptr 0 0), (12, .own 1)]) := by
        subst hops
        refine WA_step 0 [5, 7] (by kernel_rfl) ?_
        exact WAs_cons rfl rfl (WR_v (y_a rfl) rfl (WR_k [2, 3, 4, 5, 8, 9, 11, 32, 33, 34, 35, 36] rfl m111110000000000)) (WAs_cons rfl rfl (WR_v (y_ld rfl ((ints_get l j hjl).trans (by rw [hkj]))) rfl (WR_k [2, 3, 4, 5, 8, 9, 11, 33, 34, 35, 36, 37] rfl m011111000000000)) (WAs_cons rfl rfl (WR_v (y_a rfl) rfl (WR_k [2, 3, 4, 5, 8, 9, 11, 33, 34, 35, 36, 39] rfl m011110010000000)) (WAs_nil)))
      have m011100010000000 : WA Tryz.prog 79 0 ops 11 #[false, true, true, true, false, false, false, true, false, false, false, false, false, false, false] ⟨[(2, num n), (3, num d), (4, .pin (topoP T) 0), (5, .pin [boolsV own] 0), (8, .ptr 0 0), (9, intsV l), (11, num j), (33, topoV T), (34, intsV l), (35, num j), (39, num d)], [some (.cells 47 [.raw (.slice none 0 0), flag false, .raw (.slice none 0 0)])]⟩ (fun s => s.σ = [some (.cells 47 [.raw (.slice none 0 0), flag false, .raw (.slice none 0 0)]), brow M] ∧ Sub s.t [(2, num n), (3, num d), (4, .pin (topoP T) 0), (5, .pin [boolsV own] 0), (8, .ptr 0 0), (12, .own 1)]) := by
        subst hops
        refine WA_step 0 [4] (by kernel_rfl) ?_
        exact WAs_cons rfl rfl (WR_v (y_a rfl) rfl (WR_k [2, 3, 4, 5, 8, 9, 11, 32, 33, 34, 35, 39] rfl m111100010000000)) (WAs_cons rfl rfl (WR_v (y_ix (j) rfl) rfl (WR_k [2, 3, 4, 5, 8, 9, 11, 33, 34, 35, 36, 39] rfl m011110010000000)) (WAs_nil))
      have m011100000000000 : WA Tryz.prog 79 0 ops 12 #[false, true, true, true, false, false, false, false, false, false, false, false, false, false, false] ⟨[(2, num n), (3, num d), (4, .pin (topoP T) 0), (5, .pin [boolsV own] 0), (8, .ptr 0 0), (9, intsV l), (11, num j), (33, topoV T), (34, intsV l), (35, num j)], [some (.cells 47 [.raw (.slice none 0 0), flag false, .raw (.slice none 0 0)])]⟩ (fun s => s.σ = [some (.cells 47 [.raw (.slice none 0 0), flag false, .raw (.slice none 0 0)]), brow M] ∧ Sub s.t [(2, num n), (3, num d), (4, .pin (topoP T) 0), (5, .pin [boolsV own] 0), (8, .ptr 0 0), (12, .own 1)]) := by
        subst hops
        refine WA_step 0 [4, 7] (by kernel_rfl) ?_
        exact WAs_cons rfl rfl (WR_v (y_a rfl) rfl (WR_k [2, 3, 4, 5, 8, 9, 11, 32, 33, 34, 35] rfl m111100000000000)) (WAs_cons rfl rfl (WR_v (y_ix (j) rfl) rfl (WR_k [2, 3, 4, 5, 8, 9, 11, 33, 34, 35, 36] rfl m011110000000000)) (WAs_cons rfl rfl (WR_v (y_a rfl) rfl (WR_k [2, 3, 4, 5, 8, 9, 11, 33, 34, 35, 39] rfl m011100010000000)) (WAs_nil)))
      have m011000010000000 : WA Tryz.prog 79 0 ops 12 #[false, true, true, false, false, false, false, true, false, false, false, false, false, false, false] ⟨[(2, num n), (3, num d), (4, .pin (topoP T) 0), (5, .pin [boolsV own] 0), (8, .ptr 0 0), (9, intsV l), (11, num j), (33, topoV T), (34, intsV l), (39, num d)], [some (.cells 47 [.raw (.slice none 0 0), flag false, .raw (.slice none 0 0)])]⟩ (fun s => s.σ = [some (.cells 47 [.raw (.slice none 0 0), flag false, .raw (.slice none 0 0)]), brow M] ∧ Sub s.t [(2, num n), (3, num d), (4, .pin (topoP T) 0), (5, .pin [boolsV own] 0), (8, .ptr 0 0), (12, .own 1)]) := by
        subst hops
        refine WA_step 0 [3] (by kernel_rfl) ?_
        exact WAs_cons rfl rfl (WR_v (y_a rfl) rfl (WR_k [2, 3, 4, 5, 8, 9, 11, 32, 33, 34, 39] rfl m111000010000000)) (WAs_cons rfl rfl (WR_v (y_a rfl) rfl (WR_k [2, 3, 4, 5, 8, 9, 11, 33, 34, 35, 39] rfl m011100010000000)) (WAs_nil))
      have m011000000000000 : WA Tryz.prog 79 0 ops 13 #[false, true, true, false, false, false, false, false, false, false, false, false, false, false, false] ⟨[(2, num n), (3, num d), (4, .pin (topoP T) 0), (5, .pin [boolsV own] 0), (8, .ptr 0 0), (9, intsV l), (11, num j), (33, topoV T), (34, intsV l)], [some (.cells 47 [.raw (.slice none 0 0), flag false, .raw (.slice none 0 0)])]⟩ (fun s => s.σ = [some (.cells 47 [.raw (.slice none 0 0), flag false, .raw (.slice none 0 0)]), brow M] ∧ Sub s.t [(2, num n), (3, num d), (4, .pin (topoP T) 0), (5, .pin [boolsV own] 0), (8, .ptr 0 0), (12, .own 1)]) := by
        subst hops
        refine WA_step 0 [3, 7] (by kernel_rfl) ?_
        exact WAs_cons rfl rfl (WR_v (y_a rfl) rfl (WR_k [2, 3, 4, 5, 8, 9, 11, 32, 33, 34] rfl m111000000000000)) (WAs_cons rfl rfl (WR_v (y_a rfl) rfl (WR_k [2, 3, 4, 5, 8, 9, 11, 33, 34, 35] rfl m011100000000000)) (WAs_cons rfl rfl (WR_v (y_a rfl) rfl (WR_k [2, 3, 4, 5, 8, 9, 11, 33, 34, 39] rfl m011000010000000)) (WAs_nil)))
      have m010100010000000 : WA Tryz.prog 79 0 ops 12 #[false, true, false, true, false, false, false, true, false, false, false, false, false, false, false] ⟨[(2, num n), (3, num d), (4, .pin (topoP T) 0), (5, .pin [boolsV own] 0), (8, .ptr 0 0), (9, intsV l), (11, num j), (33, topoV T), (35, num j), (39, num d)], [some (.cells 47 [.raw (.slice none 0 0), flag false, .raw (.slice none 0 0)])]⟩ (fun s => s.σ = [some (.cells 47 [.raw (.slice none 0 0), flag false, .raw (.slice none 0 0)]), brow M] ∧ Sub s.t [(2, num n), (3, num d), (4, .pin (topoP T) 0), (5, .pin [boolsV own] 0), (8, .ptr 0 0), (12, .own 1)]) := by
        subst hops
        refine WA_step 0 [2] (by kernel_rfl) ?_
        exact WAs_cons rfl rfl (WR_v (y_a rfl) rfl (WR_k [2, 3, 4, 5, 8, 9, 11, 32, 33, 35, 39] rfl m110100010000000)) (WAs_cons rfl rfl (WR_v (y_a rfl) rfl (WR_k [2, 3, 4, 5, 8, 9, 11, 33, 34, 35, 39] rfl m011100010000000)) (WAs_nil))
      have m010100000000000 : WA Tryz.prog 79 0 ops 13 #[false, true, false, true, false, false, false, false, false, false, false, false, false, false, false] ⟨[(2, num n), (3, num d), (4, .pin (topoP T) 0), (5, .pin [boolsV own] 0), (8, .ptr 0 0), (9, intsV l), (11, num j), (33, topoV T), (35, num j)], [some (.cells 47 [.raw (.slice none 0 0), flag false, .raw (.slice none 0 0)])]⟩ (fun s => s.σ = [some (.cells 47 [.raw (.slice none 0 0), flag false, .raw (.slice none 0 0)]), brow M] ∧ Sub s.t [(2, num n), (3, num d), (4, .pin (topoP T) 0), (5, .pin [boolsV own] 0), (8, .ptr 0 0), (12, .own 1)]) := by
        subst hops
        refine WA_step 0 [2, 7] (by kernel_rfl) ?_
        exact WAs_cons rfl rfl (WR_v (y_a rfl) rfl (WR_k [2, 3, 4, 5, 8, 9, 11, 32, 33, 35] rfl m110100000000000)) (WAs_cons rfl rfl (WR_v (y_a rfl) rfl (WR_k [2, 3, 4, 5, 8, 9, 11, 33, 34, 35] rfl m011100000000000)) (WAs_cons rfl rfl (WR_v (y_a rfl) rfl (WR_k [2, 3, 4, 5, 8, 9, 11, 33, 35, 39] rfl m010100010000000)) (WAs_nil)))
      have m010000010000000 : WA Tryz.prog 79 0 ops 13 #[false, true, false, false, false, false, false, true, false, false, false, false, false, false, false] ⟨[(2, num n), (3, num d), (4, .pin (topoP T) 0), (5, .pin [boolsV own] 0), (8, .ptr 0 0), (9, intsV l), (11, num j), (33, topoV T), (39, num d)], [some (.cells 47 [.raw (.slice none 0 0), flag false, .raw (.slice none 0 0)])]⟩ (fun s => s.σ = [some (.cells 47 [.raw (.slice none 0 0), flag false, .raw (.slice none 0 0)]), brow M] ∧ Sub s.t [(2, num n), (3, num d), (4, .pin (topoP T) 0), (5, .pin [boolsV own] 0), (8, .ptr 0 0), (12, .own 1)]) := by
        subst hops
        refine WA_step 0 [2, 3] (by kernel_rfl) ?_
        exact WAs_cons rfl rfl (WR_v (y_a rfl) rfl (WR_k [2, 3, 4, 5, 8, 9, 11, 32, 33, 39] rfl m110000010000000)) (WAs_cons rfl rfl (WR_v (y_a rfl) rfl (WR_k [2, 3, 4, 5, 8, 9, 11, 33, 34, 39] rfl m011000010000000)) (WAs_cons rfl rfl (WR_v (y_a rfl) rfl (WR_k [2, 3, 4, 5, 8, 9, 11, 33, 35, 39] rfl m010100010000000)) (WAs_nil)))
      have m010000000000000 : WA Tryz.prog 79 0 ops 14 #[false, true, false, false, false, false, false, false, false, false, false, false, false, false, false] ⟨[(2, num n), (3, num d), (4, .pin (topoP T) 0), (5, .pin [boolsV own] 0), (8, .ptr 0 0), (9, intsV l), (11, num j), (33, topoV T)], [some (.cells 47 [.raw (.slice none 0 0), flag false, .raw (.slice none 0 0)])]⟩ (fun s => s.σ = [some (.cells 47 [.raw (.slice none 0 0), flag false, .raw (.slice none 0 0)]), brow M] ∧ Sub s.t [(2, num n), (3, num d), (4, .pin (topoP T) 0), (5, .pin [boolsV own] 0), (8, .ptr 0 0), (12, .own 1)]) := by
        subst hops
        refine WA_step 0 [2, 3, 7] (by kernel_rfl) ?_
        exact WAs_cons rfl rfl (WR_v (y_a rfl) rfl (WR_k [2, 3, 4, 5, 8, 9, 11, 32, 33] rfl m110000000000000)) (WAs_cons rfl rfl (WR_v (y_a rfl) rfl (WR_k [2, 3, 4, 5, 8, 9, 11, 33, 34] rfl m011000000000000)) (WAs_cons rfl rfl (WR_v (y_a rfl) rfl (WR_k [2, 3, 4, 5, 8, 9, 11, 33, 35] rfl m010100000000000)) (WAs_cons rfl rfl (WR_v (y_a rfl) rfl (WR_k [2, 3, 4, 5, 8, 9, 11, 33, 39] rfl m010000010000000)) (WAs_nil))))
      have m001111010000000 : WA Tryz.prog 79 0 ops 10 #[false, false, true, true, true, true, false, true, false, false, false, false, false, false, false] ⟨[(2, num n), (3, num d), (4, .pin (topoP T) 0), (5, .pin [boolsV own] 0), (8, .ptr 0 0), (9, intsV l), (11, num j), (34, intsV l), (35, num j), (36, .pin (intsP l) j), (37, num k), (39, num d)], [some (.cells 47 [.raw (.slice none 0 0), flag false, .raw (.slice none 0 0)])]⟩ (fun s => s.σ = [some (.cells 47 [.raw (.slice none 0 0), flag false, .raw (.slice none 0 0)]), brow M] ∧ Sub s.t [(2, num n), (3, num d), (4, .pin (topoP T) 0), (5, .pin [boolsV own] 0), (8, .ptr 0 0), (12, .own 1)]) := by
        subst hops
        refine WA_step 0 [1] (by kernel_rfl) ?_
        exact WAs_cons rfl rfl (WR_v (y_a rfl) rfl (WR_k [2, 3, 4, 5, 8, 9, 11, 32, 34, 35, 36, 37, 39] rfl m101111010000000)) (WAs_cons rfl rfl (WR_v (y_a rfl) rfl (WR_k [2, 3, 4, 5, 8, 9, 11, 33, 34, 35, 36, 37, 39] rfl m011111010000000)) (WAs_nil))
      have m001111000000000 : WA Tryz.prog 79 0 ops 11 #[false, false, true, true, true, true, false, false, false, false, false, false, false, false, false] ⟨[(2, num n), (3, num d), (4, .pin (topoP T) 0), (5, .pin [boolsV own] 0), (8, .ptr 0 0), (9, intsV l), (11, num j), (34, intsV l), (35, num j), (36, .pin (intsP l) j), (37, num k)], [some (.cells 47 [.raw (.slice none 0 0), flag false, .raw (.slice none 0 0)])]⟩ (fun s => s.σ = [some (.cells 47 [.raw (.slice none 0 0), flag false, .raw (.slice none 0 0)]), brow M] ∧ Sub s.t [(2, num n), (3, num d), (4, .pin (topoP T) 0), (5, .pin [boolsV own] 0), (8, .ptr 0 0), (12, .own 1)]) := by
        subst hops
        refine WA_step 0 [1, 7] (by kernel_rfl) ?_
        exact WAs_cons rfl rfl (WR_v (y_a rfl) rfl (WR_k [2, 3, 4, 5, 8, 9, 11, 32, 34, 35, 36, 37] rfl m101111000000000)) (WAs_cons rfl rfl (WR_v (y_a rfl) rfl (WR_k [2, 3, 4, 5, 8, 9, 11, 33, 34, 35, 36, 37] rfl m011111000000000)) (WAs_cons rfl rfl (WR_v (y_a rfl) rfl (WR_k [2, 3, 4, 5, 8, 9, 11, 34, 35, 36, 37, 39] rfl m001111010000000)) (WAs_nil)))
      have m001110010000000 : WA Tryz.prog 79 0 ops 11 #[false, false, true, true, true, false, false, true, false, false, false, false, false, false, false] ⟨[(2, num n), (3, num d), (4, .pin (topoP T) 0), (5, .pin [boolsV own] 0), (8, .ptr 0 0), (9, intsV l), (11, num j), (34, intsV l), (35, num j), (36, .pin (intsP l) j), (39, num d)], [some (.cells 47 [.raw (.slice none 0 0), flag false, .raw (.slice none 0 0)])]⟩ (fun s => s.σ = [some (.cells 47 [.raw (.slice none 0 0), flag false, .raw (.slice none 0 0)]), brow M] ∧ Sub s.t [(2, num n), (3, num d), (4, .pin (topoP T) 0), (5, .pin [boolsV own] 0), (8, .ptr 0 0), (12, .own 1)]) := by
        subst hops
        refine WA_step 0 [1, 5] (by kernel_rfl) ?_
        exact WAs_cons rfl rfl (WR_v (y_a rfl) rfl (WR_k [2, 3, 4, 5, 8, 9, 11, 32, 34, 35, 36, 39] rfl m101110010000000)) (WAs_cons rfl rfl (WR_v (y_a rfl) rfl (WR_k [2, 3, 4, 5, 8, 9, 11, 33, 34, 35, 36, 39] rfl m011110010000000)) (WAs_cons rfl rfl (WR_v (y_ld rfl ((ints_get l j hjl).trans (by rw [hkj]))) rfl (WR_k [2, 3, 4, 5, 8, 9, 11, 34, 35, 36, 37, 39] rfl m001111010000000)) (WAs_nil)))
      have m001110000000000 : WA Tryz.prog 79 0 ops 12 #[false, false, true, true, true, false, false, false, false, false, false, false, false, false, false] ⟨[(2, num n), (3, num d), (4, .pin (topoP T) 0), (5, .pin [boolsV own] 0), (8, .ptr 0 0), (9, intsV l), (11, num j), (34, intsV l), (35, num j), (36, .pin (intsP l) j)], [some (.cells 47 [.raw (.slice none 0 0), flag false, .raw (.slice none 0 0)])]⟩ (fun s => s.σ = [some (.cells 47 [.raw (.slice none 0 0), flag false, .raw (.slice none 0 0)]), brow M] ∧ Sub s.t [(2, num n), (3, num d), (4, .pin (topoP T) 0), (5, .pin [boolsV own] 0), (8, .ptr 0 0), (12, .own 1)]) := by
        subst hops
        refine WA_step 0 [1, 5, 7] (by kernel_rfl) ?_
        exact WAs_cons rfl rfl (WR_v (y_a rfl) rfl (WR_k [2, 3, 4, 5, 8, 9, 11, 32, 34, 35, 36] rfl m101110000000000)) (WAs_cons rfl rfl (WR_v (y_a rfl) rfl (WR_k [2, 3, 4, 5, 8, 9, 11, 33, 34, 35, 36] rfl m011110000000000)) (WAs_cons rfl rfl (WR_v (y_ld rfl ((ints_get l j hjl).trans (by rw [hkj]))) rfl (WR_k [2, 3, 4, 5, 8, 9, 11, 34, 35, 36, 37] rfl m001111000000000)) (WAs_cons rfl rfl (WR_v (y_a rfl) rfl (WR_k [2, 3, 4, 5, 8, 9, 11, 34, 35, 36, 39] rfl m001110010000000)) (WAs_nil))))
      have m001100010000000 : WA Tryz.prog 79 0 ops 12 #[false, false, true, true, false, false, false, true, false, false, false, false, false, false, false] ⟨[(2, num n), (3, num d), (4, .pin (topoP T) 0), (5, .pin [boolsV own] 0), (8, .ptr 0 0), (9, intsV l), (11, num j), (34, intsV l), (35, num j), (39, num d)], [some (.cells 47 [.raw (.slice none 0 0), flag false, .raw (.slice none 0 0)])]⟩ (fun s => s.σ = [some (.cells 47 [.raw (.slice none 0 0), flag false, .raw (.slice none 0 0)]), brow M] ∧ Sub s.t [(2, num n), (3, num d), (4, .pin (topoP T) 0), (5, .pin [boolsV own] 0), (8, .ptr 0 0), (12, .own 1)]) := by
        subst hops
        refine WA_step 0 [1, 4] (by kernel_rfl) ?_
        exact WAs_cons rfl rfl (WR_v (y_a rfl) rfl (WR_k [2, 3, 4, 5, 8, 9, 11, 32, 34, 35, 39] rfl m101100010000000)) (WAs_cons rfl rfl (WR_v (y_a rfl) rfl (WR_k [2, 3, 4, 5, 8, 9, 11, 33, 34, 35, 39] rfl m011100010000000)) (WAs_cons rfl rfl (WR_v (y_ix (j) rfl) rfl (WR_k [2, 3, 4, 5, 8, 9, 11, 34, 35, 36, 39] rfl m001110010000000)) (WAs_nil)))
      have m001100000000000 : WA Tryz.prog 79 0 ops 13 #[false, false, true, true, false, false, false, false, false, false, false, false, false, false, false] ⟨[(2, num n), (3, num d), (4, .pin (topoP T) 0), (5, .pin [boolsV own] 0), (8, .ptr 0 0), (9, intsV l), (11, num j), (34, intsV l), (35, num j)], [some (.cells 47 [.raw (.slice none 0 0), flag false, .raw (.slice none 0 0)])]⟩ (fun s => s.σ = [some (.cells 47 [.raw (.slice none 0 0), flag false, .raw (.slice none 0 0)]), brow M] ∧ Sub s.t [(2, num n), (3, num d), (4, .pin (topoP T) 0), (5, .pin [boolsV own] 0), (8, .ptr 0 0), (12, .own 1)]) := by
        subst hops
        refine WA_step 0 [1, 4, 7] (by kernel_rfl) ?_
        exact WAs_cons rfl rfl (WR_v (y_a rfl) rfl (WR_k [2, 3, 4, 5, 8, 9, 11, 32, 34, 35] rfl m101100000000000)) (WAs_cons rfl rfl (WR_v (y_a rfl) rfl (WR_k [2, 3, 4, 5, 8, 9, 11, 33, 34, 35] rfl m011100000000000)) (WAs_cons rfl rfl (WR_v (y_ix (j) rfl) rfl (WR_k [2, 3, 4, 5, 8, 9, 11, 34, 35, 36] rfl m001110000000000)) (WAs_cons rfl rfl (WR_v (y_a rfl) rfl (WR_k [2, 3, 4, 5, 8, 9, 11, 34, 35, 39] rfl m001100010000000)) (WAs_nil))))
      have m001000010000000 : WA Tryz.prog 79 0 ops 13 #[false, false, true, false, false, false, false, true, false, false, false, false, false, false, false] ⟨[(2, num n), (3, num d), (4, .pin (topoP T) 0), (5, .pin [boolsV own] 0), (8, .ptr 0 0), (9, intsV l), (11, num j), (34, intsV l), (39, num d)], [some (.cells 47 [.raw (.slice none 0 0), flag false, .raw (.slice none 0 0)])]⟩ (fun s => s.σ = [some (.cells 47 [.raw (.slice none 0 0), flag false, .raw (.slice none 0 0)]), brow M] ∧ Sub s.t [(2, num n), (3, num d), (4, .pin (topoP T) 0), (5, .pin [boolsV own] 0), (8, .ptr 0 0), (12, .own 1)]) := by
        subst hops
        refine WA_step 0 [1, 3] (by kernel_rfl) ?_
        exact WAs_cons rfl rfl (WR_v (y_a rfl) rfl (WR_k [2, 3, 4, 5, 8, 9, 11, 32, 34, 39] rfl m101000010000000)) (WAs_cons rfl rfl (WR_v (y_a rfl) rfl (WR_k [2, 3, 4, 5, 8, 9, 11, 33, 34, 39] rfl m011000010000000)) (WAs_cons rfl rfl (WR_v (y_a rfl) rfl (WR_k [2, 3, 4, 5, 8, 9, 11, 34, 35, 39] rfl m001100010000000)) (WAs_nil)))
      have m001000000000000 : WA Tryz.prog 79 0 ops 14 #[false, false, true, false, false, false, false, false, false, false, false, false, false, false, false] ⟨[(2, num n), (3, num d), (4, .pin (topoP T) 0), (5, .pin [boolsV own] 0), (8, .ptr 0 0), (9, intsV l), (11, num j), (34, intsV l)], [some (.cells 47 [.raw (.slice none 0 0), flag false, .raw (.slice none 0 0)])]⟩ (fun s => s.σ = [some (.cells 47 [.raw (.slice none 0 0), flag false, .raw (.slice none 0 0)]), brow M] ∧ Sub s.t [(2, num n), (3, num d), (4, .pin (topoP T) 0), (5, .pin [boolsV own] 0), (8, .ptr 0 0), (12, .own 1)]) := by
        subst hops
        refine WA_step 0 [1, 3, 7] (by kernel_rfl) ?_
        exact WAs_cons rfl rfl (WR_v (y_a rfl) rfl (WR_k [2, 3, 4, 5, 8, 9, 11, 32, 34] rfl m101000000000000)) (WAs_cons rfl rfl (WR_v (y_a rfl) rfl (WR_k [2, 3, 4, 5, 8, 9, 11, 33, 34] rfl m011000000000000)) (WAs_cons rfl rfl (WR_v (y_a rfl) rfl (WR_k [2, 3, 4, 5, 8, 9, 11, 34, 35] rfl m001100000000000)) (WAs_cons rfl rfl (WR_v (y_a rfl) rfl (WR_k [2, 3, 4, 5, 8, 9, 11, 34, 39] rfl m001000010000000)) (WAs_nil))))
      have m000100010000000 : WA Tryz.prog 79 0 ops 13 #[false, false, false, true, false, false, false, true, false, false, false, false, false, false, false] ⟨[(2, num n), (3, num d), (4, .pin (topoP T) 0), (5, .pin [boolsV own] 0), (8, .ptr 0 0), (9, intsV l), (11, num j), (35, num j), (39, num d)], [some (.cells 47 [.raw (.slice none 0 0), flag false, .raw (.slice none 0 0)])]⟩ (fun s => s.σ = [some (.cells 47 [.raw (.slice none 0 0), flag false, .raw (.slice none 0 0)]), brow M] ∧ Sub s.t [(2, num n), (3, num d), (4, .pin (topoP T) 0), (5, .pin [boolsV own] 0), (8, .ptr 0 0), (12, .own 1)]) := by
        subst hops
        refine WA_step 0 [1, 2] (by kernel_rfl) ?_
        exact WAs_cons rfl rfl (WR_v (y_a rfl) rfl (WR_k [2, 3, 4, 5, 8, 9, 11, 32, 35, 39] rfl m100100010000000)) (WAs_cons rfl rfl (WR_v (y_a rfl) rfl (WR_k [2, 3, 4, 5, 8, 9, 11, 33, 35, 39] rfl m010100010000000)) (WAs_cons rfl rfl (WR_v (y_a rfl) rfl (WR_k [2, 3, 4, 5, 8, 9, 11, 34, 35, 39] rfl m001100010000000)) (WAs_nil)))
      have m000100000000000 : WA Tryz.prog 79 0 ops 14 #[false, false, false, true, false, false, false, false, false, false, false, false, false, false, false] ⟨[(2, num n), (3, num d), (4, .pin (topoP T) 0), (5, .pin [boolsV own] 0), (8, .ptr 0 0), (9, intsV l), (11, num j), (35, num j)], [some (.cells 47 [.raw (.slice none 0 0), flag false, .raw (.slice none 0 0)])]⟩ (fun s => s.σ = [some (.cells 47 [.raw (.slice none 0 0), flag false, .raw (.slice none 0 0)]), brow M] ∧ Sub s.t [(2, num n), (3, num d), (4, .pin (topoP T) 0), (5, .pin [boolsV own] 0), (8, .ptr 0 0), (12, .own 1)]) := by
        subst hops
        refine WA_step 0 [1, 2, 7] (by kernel_rfl) ?_
        exact WAs_cons rfl rfl (WR_v (y_a rfl) rfl (WR_k [2, 3, 4, 5, 8, 9, 11, 32, 35] rfl m100100000000000)) (WAs_cons rfl rfl (WR_v (y_a rfl) rfl (WR_k [2, 3, 4, 5, 8, 9, 11, 33, 35] rfl m010100000000000)) (WAs_cons rfl rfl (WR_v (y_a rfl) rfl (WR_k [2, 3, 4, 5, 8, 9, 11, 34, 35] rfl m001100000000000)) (WAs_cons rfl rfl (WR_v (y_a rfl) rfl (WR_k [2, 3, 4, 5, 8, 9, 11, 35, 39] rfl m000100010000000)) (WAs_nil))))
      have m000000010000000 : WA Tryz.prog 79 0 ops 14 #[false, false, false, false, false, false, false, true, false, false, false, false, false, false, false] ⟨[(2, num n), (3, num d), (4, .pin (topoP T) 0), (5, .pin [boolsV own] 0), (8, .ptr 0 0), (9, intsV l), (11, num j), (39, num d)], [some (.cells 47 [.raw (.slice none 0 0), flag false, .raw (.slice none 0 0)])]⟩ (fun s => s.σ = [some (.cells 47 [.raw (.slice none 0 0), flag false, .raw (.slice none 0 0)]), brow M] ∧ Sub s.t [(2, num n), (3, num d), (4, .pin (topoP T) 0), (5, .pin [boolsV own] 0), (8, .ptr 0 0), (12, .own 1)]) := by
        subst hops
        refine WA_step 0 [1, 2, 3] (by kernel_rfl) ?_
        exact WAs_cons rfl rfl (WR_v (y_a rfl) rfl (WR_k [2, 3, 4, 5, 8, 9, 11, 32, 39] rfl m100000010000000)) (WAs_cons rfl rfl (WR_v (y_a rfl) rfl (WR_k [2, 3, 4, 5, 8, 9, 11, 33, 39] rfl m010000010000000)) (WAs_cons rfl rfl (WR_v (y_a rfl) rfl (WR_k [2, 3, 4, 5, 8, 9, 11, 34, 39] rfl m001000010000000)) (WAs_cons rfl rfl (WR_v (y_a rfl) rfl (WR_k [2, 3, 4, 5, 8, 9, 11, 35, 39] rfl m000100010000000)) (WAs_nil))))
      have m000000000000000 : WA Tryz.prog 79 0 ops 15 #[false, false, false, false, false, false, false, false, false, false, false, false, false, false, false] ⟨[(2, num n), (3, num d), (4, .pin (topoP T) 0), (5, .pin [boolsV own] 0), (8, .ptr 0 0), (9, intsV l), (11, num j)], [some (.cells 47 [.raw (.slice none 0 0), flag false, .raw (.slice none 0 0)])]⟩ (fun s => s.σ = [some (.cells 47 [.raw (.slice none 0 0), flag false, .raw (.slice none 0 0)]), brow M] ∧ Sub s.t [(2, num n), (3, num d), (4, .pin (topoP T) 0), (5, .pin [boolsV own] 0), (8, .ptr 0 0), (12, .own 1)]) := by
        subst hops
        refine WA_step 0 [1, 2, 3, 7] (by kernel_rfl) ?_
        exact WAs_cons rfl rfl (WR_v (y_a rfl) rfl (WR_k [2, 3, 4, 5, 8, 9, 11, 32] rfl m100000000000000)) (WAs_cons rfl rfl (WR_v (y_a rfl) rfl (WR_k [2, 3, 4, 5, 8, 9, 11, 33] rfl m010000000000000)) (WAs_cons rfl rfl (WR_v (y_a rfl) rfl (WR_k [2, 3, 4, 5, 8, 9, 11, 34] rfl m001000000000000)) (WAs_cons rfl rfl (WR_v (y_a rfl) rfl (WR_k [2, 3, 4, 5, 8, 9, 11, 35] rfl m000100000000000)) (WAs_cons rfl rfl (WR_v (y_a rfl) rfl (WR_k [2, 3, 4, 5, 8, 9, 11, 39] rfl m000000010000000)) (WAs_nil)))))
      subst hops
      exact m000000000000000
    refine W_seq ?_
    refine W_cs (.a 3 rfl <| .k [2, 3, 4, 5, 8, 12, 45, 46] rfl) ?_
    refine W_sto (σ' := [some (.cells 47 [.raw (.slice none 0 0), flag false, .raw (.slice none 0 0)]), brow (orTo T M own 0)]) (by rw [orTo_zero hMl]) ?_
    refine W_block ?_
    refine W_k [2, 3, 4, 5, 8, 12, 45, 46] rfl ?_
    refine W_loop (fun r s => ∃ a, a ≤ 2 * T.links.length ∧ r = 2 * T.links.length - a ∧ s = ⟨[(2, num n), (3, num d), (4, .pin (topoP T) 0), (5, .pin [boolsV own] 0), (8, .ptr 0 0), (12, .own 1), (45, num M.length), (46, num a)], [some (.cells 47 [.raw (.slice none 0 0), flag false, .raw (.slice none 0 0)]), brow (orTo T M own a)]⟩) (2 * T.links.length) ⟨0, by omega, by omega, rfl⟩ ?_
    rintro r s ⟨a, ha2, rfl, rfl⟩
    have hol := orTo_len T M own a
    refine W_cs (.a 1 rfl <| .k [2, 3, 4, 5, 8, 12, 45, 46, 47] rfl) ?_
    refine W_seq ?_
    refine W_cond rfl (fun h4 => ?_) (fun h4 => ?_)
    · have hlt : a < 2 * T.links.length := by have := tt h4; omega
      have hst := orTo_step T M own a
      have hat := orTo_at (T := T) (D := M) (E := own) hlt
      clear h4
      refine W_skip ?_
      refine W_seq ?_
      refine W_block ?_
      refine W_cs (.a 2 rfl <| .k [2, 3, 4, 5, 8, 12, 14, 45, 46] rfl) ?_
      obtain ⟨c1, hc1⟩ : ∃ q, downN M a = q := ⟨_, rfl⟩
      obtain ⟨c2, hc2⟩ : ∃ q, downN own a = q := ⟨_, rfl⟩
      rw [hc1, hc2] at hst
      rw [hc1] at hat
      refine W_midM (Q1 := fun st => st = ⟨[(2, num n), (3, num d), (4, .pin (topoP T) 0), (5, .pin [boolsV own] 0), (8, .ptr 0 0), (12, .own 1), (45, num M.length), (46, num a)], [some (.cells 47 [.raw (.slice none 0 0), flag false, .raw (.slice none 0 0)]), brow (orTo T M own (a + 1))]⟩) ?_ ?_
      · cases c1
        · refine W_region ?_
          refine WR_a 4 rfl <| WR_v (y_ix (a) rfl) rfl <| WR_v (y_ld rfl ((show (boolsP (orTo T M own a))[a]? = some (flag false) by rw [bools_getP _ a (by omega), hat]))) rfl <| WR_a 3 rfl <| WR_v (y_ix (a) rfl) rfl <| WR_v (y_ld rfl ((show (boolsP own)[a]? = some (flag c2) by rw [bools_getP _ a (by omega), downN_get, hc2]))) rfl <| WR_a 1 rfl <| WR_v (y_ix (a) rfl) rfl <| WR_loud0 ((by first | exact l_storeInts rfl (fok.tk.get rfl) rfl rfl rfl (by first | omega | (simp; omega)) | exact l_storeBools rfl (fok.tk.get rfl) rfl rfl rfl (by first | omega | (simp; omega)))) rfl rfl <| WR_k [2, 3, 4, 5, 8, 12, 45, 46] rfl ?_
          rw [← hst]
          unfold brow
          rw [List.length_set]
          rfl
        · refine W_region ?_
          refine WR_a 4 rfl <| WR_v (y_ix (a) rfl) rfl <| WR_v (y_ld rfl ((show (boolsP (orTo T M own a))[a]? = some (flag true) by rw [bools_getP _ a (by omega), hat]))) rfl <| WR_a 6 rfl <| WR_v (y_ix (a) rfl) rfl <| WR_loud0 ((by first | exact l_storeInts rfl (fok.tk.get rfl) rfl rfl rfl (by first | omega | (simp; omega)) | exact l_storeBools rfl (fok.tk.get rfl) rfl rfl rfl (by first | omega | (simp; omega)))) rfl rfl <| WR_k [2, 3, 4, 5, 8, 12, 45, 46] rfl ?_
          rw [← hst]
          unfold brow
          rw [List.length_set]
          rfl
      rintro _ rfl
      refine W_chain (.v (y_ar rfl) rfl <| .a 1 rfl <| .k [2, 3, 4, 5, 8, 12, 45, 46] rfl) ?_
      exact ⟨2 * T.links.length - (a + 1), by omega, a + 1, by omega, rfl, rfl⟩
    · have hae : a = 2 * T.links.length := by have := ff h4; omega
      subst hae
      rw [orTo_all]
      clear h4
      refine W_exit ?_
      refine W_seq ?_
      refine W_seal 12 1 rfl rfl ?_
      refine W_ren [0] (.c 2 <| .c 3 <| .c 4 <| .c 5 <| .c 8 <| .c 12 <| .nil) (.kept rfl (.cells (RenL.c <| RenL.c <| RenL.c <| RenL.nil)) <| .nil) rfl rfl ?_
      obtain ⟨q, hq⟩ : ∃ q, rchB T (orM T M own) n d = q := ⟨_, rfl⟩
      rw [hq] at hmx
      refine W_cs (.a 4 rfl <| .c rfl (hq ▸ preach_can T (orM T M own) n d) rfl <| .a 1 rfl <| .k [2, 3, 4, 5, 8, 12, 68] rfl) ?_
      refine W_cond rfl (fun h5 => ?_) (fun h5 => ?_)
      · have h5 : q = false := by simpa using h5
        rw [h5, if_neg (by simp)] at hmx
        rw [hmx] at hre ⊢
        refine W_chain (.a 2 rfl <| .k [2, 3, 4, 8, 12] rfl) ?_
        refine W_rs ?_
        refine WR_a 4 rfl <| WR_c rfl (hre) rfl <| WR_a 6 rfl <| WR_k [8, 15] rfl ?_
        refine W_rs ?_
        refine WR_a 2 rfl <| WR_k [8] rfl ?_
        refine W_ret ?_
        exact ⟨_, _, ResL.of rfl, Pur.pure (p := entV _), rfl⟩
      · have h5 : q = true := by simpa using h5
        rw [h5, if_pos rfl] at hmx
        rw [hmx] at hre ⊢
        refine W_skip ?_
        refine W_rs ?_
        refine WR_a 4 rfl <| WR_c rfl (hre) rfl <| WR_a 6 rfl <| WR_k [8, 15] rfl ?_
        refine W_rs ?_
        refine WR_a 2 rfl <| WR_k [8] rfl ?_
        refine W_ret ?_
        exact ⟨_, _, ResL.of rfl, Pur.pure (p := entV _), rfl⟩
/-- The mask of the outgoing arcs that are down, in the making. -/
def detT (T : Topo) (M : List Bool) (o : List Int) (i : Nat) : List Bool := (List.range (2 * T.links.length)).map fun (b : Nat) => decide ((b : Int) ∈ o.take i) && downN M b
theorem detT_len (T : Topo) (M : List Bool) (o : List Int) (i : Nat) : (detT T M o i).length = 2 * T.links.length := by simp [detT]
theorem detT_get {T : Topo} {M : List Bool} {o : List Int} {i b : Nat} (h : b < (detT T M o i).length) : (detT T M o i)[b] = (decide ((b : Int) ∈ o.take i) && downN M b) := by simp [detT]
theorem detT_zero (T : Topo) (M : List Bool) (o : List Int) : detT T M o 0 = List.replicate (2 * T.links.length) false := by
  apply List.ext_getElem (by simp [detT])
  intro i h1 h2
  rw [detT_get]
  simp
theorem detT_step {T : Topo} {M : List Bool} {o : List Int} {i k : Nat} (hi : i < o.length) (hk : o.getD i 0 = (k : Int)) (hkl : k < 2 * T.links.length) : detT T M o (i + 1) = if downN M k then (detT T M o i).set k true else detT T M o i := by
  have hmem : ∀ b : Nat, ((b : Int) ∈ o.take (i + 1)) ↔ ((b : Int) ∈ o.take i ∨ b = k) := fun b => by
    rw [take_step o i 0 hi, List.mem_append, List.mem_singleton, hk]
    exact ⟨fun h => h.imp id (fun e => by omega), fun h => h.imp id (fun e => by omega)⟩
  split
  · rename_i hd
    apply List.ext_getElem (by simp [detT])
    intro b h1 h2
    rw [detT_get, List.getElem_set]
    by_cases e : k = b
    · subst e
      rw [if_pos rfl, decide_eq_true ((hmem k).2 (.inr rfl)), hd]
      rfl
    · rw [if_neg e, detT_get]
      congr 1
      exact decide_eq_decide.2 ((hmem b).trans ⟨fun h => h.resolve_right (fun e' => e e'.symm), .inl⟩)
  · rename_i hd
    unfold detT
    refine List.map_congr_left fun b _ => ?_
    by_cases e : b = k
    · subst e
      rw [Bool.eq_false_iff.2 hd]
      simp
    · congr 1
      exact decide_eq_decide.2 ((hmem b).trans ⟨fun h => h.resolve_right e, .inl⟩)
theorem detT_all (T : Topo) (M : List Bool) (n : Int) : detT T M (outL T n) (outL T n).length = ownM T M n := by
  unfold detT ownM
  refine List.map_congr_left fun b hb => ?_
  have hb := List.mem_range.1 hb
  rw [List.take_length, Bool.and_comm]
  congr 1
  refine decide_eq_decide.2 (outL_iff.trans ⟨fun h => by have := h.2; rwa [Int.toNat_natCast] at this, fun h => ⟨arcB_iff.2 (by omega), by rw [Int.toNat_natCast]; exact h⟩⟩)
set_option maxRecDepth 10000 in
set_option maxHeartbeats 2000000 in
theorem prtab_can (T : Topo) (k x n : Int) (h12 : T.nodes ≤ 12) : Can Tryz.prog 37 [topoV T, compV k x, num n] (· = tabE (if maskE T k x = 0 then (if nodeB T n then 0 else 2) else 1) (repT T (maskL T k x) n.toNat)) := by
  have hmk := mask_can T k x
  unfold boolsE at hmk
  refine can_of Tryz.func37 rfl Tryz.ntmps37 rfl ?_
  refine W_rs ?_
  refine WR_a 4 rfl <| WR_k [2, 3, 4, 6] rfl ?_
  refine W_cs (.a 2 rfl <| .c rfl (hmk) rfl <| .a 5 rfl <| .k [2, 3, 6, 8, 9] rfl) ?_
  refine W_seq ?_
  refine W_cs (.a 2 rfl <| .k [2, 3, 6, 8, 9, 22] rfl) ?_
  refine W_cond rfl (fun h1 => ?_) (fun h1 => ?_)
  · have h1 := tt h1
    rw [if_neg h1]
    have h1' := mask_one h1
    rw [h1']
    refine W_rs ?_
    refine WR_a 4 rfl <| WR_k [6, 7] rfl ?_
    refine W_ret ?_
    exact ⟨_, _, ResL.of rfl, Pur.tupleL (PurL.cons (Pur.aggL (PurL.cons Pur.pure <| PurL.cons Pur.nils <| PurL.cons Pur.nils PurL.nil)) (PurL.cons Pur.pure PurL.nil)), rfl⟩
  · have h1 : maskE T k x = 0 := Classical.byContradiction (ff h1)
    obtain ⟨hv, hc⟩ := Bool.and_eq_true_iff.1 (mask_zero h1)
    rw [if_pos h1, if_pos h1]
    have hll := links_le hv
    refine W_skip ?_
    refine W_seq ?_
    refine W_cs (.a 2 rfl <| .c rfl (node_can T n) rfl <| .a 1 rfl <| .k [2, 3, 6, 8, 28] rfl) ?_
    refine W_cond rfl (fun h2 => ?_) (fun h2 => ?_)
    · have hn : nodeB T n = false := by simpa using h2
      rw [hn]
      refine W_rs ?_
      refine WR_a 3 rfl <| WR_k [6, 7] rfl ?_
      refine W_ret ?_
      exact ⟨_, _, ResL.of rfl, Pur.tupleL (PurL.cons (Pur.aggL (PurL.cons Pur.pure <| PurL.cons Pur.nils <| PurL.cons Pur.nils PurL.nil)) (PurL.cons Pur.pure PurL.nil)), rfl⟩
    · have hn : nodeB T n = true := by simpa using h2
      rw [hn, if_pos rfl]
      rw [nodeB_iff] at hn
      obtain ⟨m, rfl⟩ := Int.eq_ofNat_of_zero_le hn.1
      rw [Int.toNat_natCast]
      obtain ⟨N, hN⟩ : ∃ N : Nat, T.nodes = (N : Int) := ⟨T.nodes.toNat, by omega⟩
      have hMl := maskL_len T k x
      obtain ⟨M, hM⟩ : ∃ M, maskL T k x = M := ⟨_, rfl⟩
      rw [hM] at hMl ⊢
      have hol : (outL T m).length ≤ 512 := Nat.le_trans (outTo_len T m _) (by omega)
      clear h2 hmk
      refine W_skip ?_
      refine W_rs ?_
      refine WR_a 4 rfl <| WR_k [2, 3, 6, 8, 10] rfl ?_
      refine W_adoptCell 1 1 47 3 rfl rfl ?_
      refine W_adoptCell 1 2 3 1 rfl rfl ?_
      refine W_rs ?_
      refine WR_a 1 rfl <| WR_c rfl (arcs_can T (by omega)) rfl <| WR_l (l_make rfl (fok.rk.get rfl) rfl rfl (show 2 * (T.links.length : Int) = ((2 * T.links.length : Nat) : Int) by omega) (show 2 * (T.links.length : Int) = ((2 * T.links.length : Nat) : Int) by omega) ⟨by unfold maxLen; omega, by omega⟩) rfl <| WR_a 1 rfl <| WR_k [2, 3, 6, 8, 10, 11] rfl ?_
      refine W_seq ?_
      refine W_cs (.a 2 rfl <| .c rfl (out_can T hll _) rfl <| .a 2 rfl <| .k [2, 3, 6, 8, 10, 11, 37, 38, 39] rfl) ?_
      refine W_block ?_
      refine W_k [2, 3, 6, 8, 10, 11, 37, 38, 39] rfl ?_
      refine W_sto (σ' := [some (.cells 35 [num 0, .raw (.slice none 0 0), .raw (.slice none 0 0)]), some (.cells 35 [num m, .own 2, .own 3]), some (.row 47 3 0 []), some (.row 3 1 0 []), some (.row 4 1 (2 * T.links.length) (boolsP (detT T M (outL T m) 0)))]) (by rw [detT_zero, ← zeros_bools]; rfl) ?_
      refine W_loop (fun r s => ∃ i, i ≤ (outL T m).length ∧ r = (outL T m).length - i ∧ s = ⟨[(2, num m), (3, .pin (topoP T) 0), (6, .ptr 0 0), (8, boolsV M), (10, .ptr 1 0), (11, .own 4), (37, intsV (outL T m)), (38, num (outL T m).length), (39, num i)], [some (.cells 35 [num 0, .raw (.slice none 0 0), .raw (.slice none 0 0)]), some (.cells 35 [num m, .own 2, .own 3]), some (.row 47 3 0 []), some (.row 3 1 (downL M ((outL T m).take i)).length (intsP (downL M ((outL T m).take i)))), some (.row 4 1 (2 * T.links.length) (boolsP (detT T M (outL T m) i)))]⟩) (outL T m).length ⟨0, by omega, by omega, rfl⟩ ?_
      rintro r s ⟨i, hi, rfl, rfl⟩
      skip
      refine W_cs (.a 1 rfl <| .k [2, 3, 6, 8, 10, 11, 37, 38, 39, 40] rfl) ?_
      refine W_seq ?_
      refine W_cond rfl (fun h3 => ?_) (fun h3 => ?_)
      · have hlt : i < (outL T m).length := by have := tt h3; omega
        obtain ⟨a0, a1⟩ := outL_mem (getD_mem (d := 0) hlt)
        obtain ⟨a, ha⟩ := Int.eq_ofNat_of_zero_le a0
        have hal : a < 2 * T.links.length := by omega
        have hstep : downL M ((outL T m).take (i + 1)) = downL M ((outL T m).take i) ++ (if downN M a then [(a : Int)] else []) := by
          unfold downL
          rw [take_step _ i 0 hlt, List.filter_append, ha]
          simp only [List.filter_cons, List.filter_nil, Int.toNat_natCast]
        have hdl : (downL M ((outL T m).take i)).length ≤ 1000 := Nat.le_trans (List.length_filter_le _ _) (by rw [List.length_take]; omega)
        have hds := detT_step (T := T) (M := M) hlt ha hal
        have hdn := detT_len T M (outL T m) i
        obtain ⟨q, hq⟩ : ∃ q, downN M a = q := ⟨_, rfl⟩
        rw [hq] at hstep hds
        clear h3
        refine W_skip ?_
        refine W_seq ?_
        refine W_block ?_
        refine W_cs (.v (y_ix (i) rfl) rfl <| .v (y_ld rfl ((ints_get _ i hlt).trans (by rw [ha]))) rfl <| .a 1 rfl <| .k [2, 3, 6, 8, 10, 11, 13, 37, 38, 39] rfl) ?_
        refine W_cs (.a 2 rfl <| .v (y_ix (a) rfl) rfl <| .v (y_ld rfl ((show (boolsP M)[a]? = some (flag q) by rw [bools_getP _ a (by omega), downN_get, hq]))) rfl <| .k [2, 3, 6, 8, 10, 11, 13, 37, 38, 39, 46] rfl) ?_
        refine W_cond rfl (fun h4 => ?_) (fun h4 => ?_)
        · subst h4
          rw [if_pos rfl] at hstep hds
          refine W_rs ?_
          refine WR_a 2 rfl <| WR_v (y_ix (a) rfl) rfl <| WR_loud0 ((by first | exact l_storeInts rfl (fok.tk.get rfl) rfl rfl rfl (by first | omega | (simp; omega)) | exact l_storeBools rfl (fok.tk.get rfl) rfl rfl rfl (by first | omega | (simp; omega)))) rfl rfl <| WR_k [2, 3, 6, 8, 10, 11, 13, 37, 38, 39] rfl ?_
          refine W_region ?_
          refine WR_a 4 rfl <| WR_l (l_append rfl (fok.rk.get rfl) rfl rfl rfl rfl (by unfold maxLen; omega)) rfl <| WR_a 2 rfl ?_
          refine WR_ren [0, 1, 2, 5, 4] (.c 2 <| .c 3 <| .c 6 <| .c 8 <| .c 10 <| .c 11 <| .c 37 <| .c 38 <| .c 39 <| .nil) (.kept rfl (.cells (RenL.c <| RenL.c <| RenL.c <| RenL.nil)) <| .kept rfl (.cells (RenL.c <| RenL.c <| RenL.c <| RenL.nil)) <| .kept rfl (.row RenL.pure) <| .kept rfl (.rowP rfl (intsP_snoc _ _)) <| .kept rfl (.row RenL.pure) <| .nil) rfl rfl (WR_nil ?_)
          refine W_chain (.v (y_ar rfl) rfl <| .a 1 rfl <| .k [2, 3, 6, 8, 10, 11, 37, 38, 39] rfl) ?_
          refine ⟨(outL T m).length - (i + 1), by omega, i + 1, by omega, rfl, ?_⟩
          rw [hstep, hds]
          first
            | rfl
            | (simp only [List.length_append, List.length_singleton]; rfl)
        · subst h4
          rw [if_neg (by simp), List.append_nil] at hstep
          rw [if_neg (by simp)] at hds
          refine W_skip ?_
          refine W_chain (.v (y_ar rfl) rfl <| .a 1 rfl <| .k [2, 3, 6, 8, 10, 11, 37, 38, 39] rfl) ?_
          refine ⟨(outL T m).length - (i + 1), by omega, i + 1, by omega, rfl, ?_⟩
          rw [hstep, hds]
          first
            | rfl
            | (simp only [List.length_append, List.length_singleton]; rfl)
      · have hie : i = (outL T m).length := by have := ff h3; omega
        subst hie
        rw [detT_all, List.take_length]
        clear h3
        refine W_exit ?_
        refine W_seq ?_
        have hown : (ownM T M m).length = 2 * T.links.length := by simp [ownM]
        unfold repT
        obtain ⟨own, howe⟩ : ∃ own, ownM T M m = own := ⟨_, rfl⟩
        rw [howe] at hown ⊢
        obtain ⟨dl, hdl⟩ : ∃ dl, downL M (outL T m) = dl := ⟨_, rfl⟩
        rw [hdl]
        refine W_ren [0, 1, 2, 3, 4] (.c 2 <| .c 3 <| .c 6 <| .c 10 <| .c 11 <| .nil) (.kept rfl (.cells (RenL.c <| RenL.c <| RenL.c <| RenL.nil)) <| .kept rfl (.cells (RenL.c <| RenL.c <| RenL.c <| RenL.nil)) <| .kept rfl (.row RenL.pure) <| .kept rfl (.row RenL.pure) <| .kept rfl (.rowP (show 2 * T.links.length = own.length by omega) rfl) <| .nil) rfl rfl ?_
        refine W_seal 11 4 rfl rfl ?_
        refine W_ren [0, 1, 2, 3] (.c 2 <| .c 3 <| .c 6 <| .c 10 <| .c 11 <| .nil) (.kept rfl (.cells (RenL.c <| RenL.c <| RenL.c <| RenL.nil)) <| .kept rfl (.cells (RenL.c <| RenL.c <| RenL.c <| RenL.nil)) <| .kept rfl (.row RenL.pure) <| .kept rfl (.row RenL.pure) <| .nil) rfl rfl ?_
        refine W_cs (.a 1 rfl <| .v (y_ld rfl ((show some (num T.nodes) = some (num (N : Int)) by rw [hN]))) rfl <| .a 1 rfl <| .k [2, 3, 6, 10, 11, 58, 59] rfl) ?_
        refine W_block ?_
        refine W_k [2, 3, 6, 10, 11, 58, 59] rfl ?_
        refine W_loop (fun r s => ∃ j, j ≤ N ∧ r = N - j ∧ s = ⟨[(2, num m), (3, .pin (topoP T) 0), (6, .ptr 0 0), (10, .ptr 1 0), (11, boolsV own), (58, num N), (59, num j)], [some (.cells 35 [num 0, .raw (.slice none 0 0), .raw (.slice none 0 0)]), some (.cells 35 [num m, .own 2, .own 3]), some (.row 47 3 j (entsP (repL T own m j))), some (.row 3 1 dl.length (intsP dl))]⟩) N ⟨0, by omega, by omega, rfl⟩ ?_
        rintro r s ⟨j, hj, rfl, rfl⟩
        refine W_cs (.a 1 rfl <| .k [2, 3, 6, 10, 11, 58, 59, 60] rfl) ?_
        refine W_seq ?_
        refine W_cond rfl (fun h3 => ?_) (fun h3 => ?_)
        · have hlt : j < N := by have := tt h3; omega
          have hre := prep_can T own m j hv hown hn.2 (by omega) h12
          refine W_skip ?_
          refine W_seq ?_
          refine W_block ?_
          refine W_cs (.a 2 rfl <| .k [2, 3, 6, 10, 11, 14, 58, 59] rfl) ?_
          refine W_drawFlt 8 20 mixed (
            .val [10] rfl (y_a rfl) rfl rfl <|
            .val [62] rfl (y_a rfl) rfl rfl <|
            .val [3] rfl (y_a rfl) rfl rfl <|
            .val [11] rfl (y_a rfl) rfl rfl <|
            .val [2] rfl (y_a rfl) rfl rfl <|
            .val [14] rfl (y_a rfl) rfl rfl <|
            .val [64, 65, 66, 67] rfl (y_c rfl (hre)) rfl rfl <|
            .val [68] rfl (y_a rfl) rfl rfl <|
            .nil) (by kernel_rfl) rfl rfl (keepT_sub (ks := [2, 3, 6, 10, 11, 58, 59, 63, 69]) rfl) ?_
          refine WR_l (l_append rfl (fok.rk.get rfl) rfl rfl rfl rfl (by unfold maxLen; omega)) rfl <| WR_a 2 rfl ?_
          refine WR_ren [0, 1, 4, 3] (.c 2 <| .c 3 <| .c 6 <| .c 10 <| .c 11 <| .c 58 <| .c 59 <| .nil) (.kept rfl (.cells (RenL.c <| RenL.c <| RenL.c <| RenL.nil)) <| .kept rfl (.cells (RenL.c <| RenL.c <| RenL.c <| RenL.nil)) <| .kept rfl (.rowP rfl (show _ = entsP (repL T own m (j + 1)) by rw [repL_step]; exact entsP_snoc _ _)) <| .kept rfl (.row RenL.pure) <| .nil) rfl rfl (WR_nil ?_)
          refine W_chain (.v (y_ar rfl) rfl <| .a 1 rfl <| .k [2, 3, 6, 10, 11, 58, 59] rfl) ?_
          exact ⟨N - (j + 1), by omega, j + 1, by omega, rfl, rfl⟩
        · have hje : j = N := by have := ff h3; omega
          subst hje
          refine W_exit ?_
          refine W_rs ?_
          refine WR_v (y_loadPtrAgg (ys := [num m, .own 2, .own 3]) rfl (fok.tk.get rfl) rfl rfl rfl rfl) rfl <| WR_a 2 rfl <| WR_k [6, 7] rfl ?_
          refine W_ret ?_
          refine ⟨_, _, ResL.of rfl, Pur.tupleL (PurL.cons (Pur.aggL (PurL.cons Pur.pure <| PurL.cons (Pur.ownL rfl PurL.pure) <| PurL.cons (Pur.ownL rfl PurL.pure) PurL.nil)) (PurL.cons Pur.pure PurL.nil)), ?_⟩
          unfold tabE tabV tabP entsV intsV
          rw [if_pos rfl, repL_len, show T.nodes.toNat = j by omega]
end PW
end Go.Proofs.YtbpgndbjbaoolaaGreat

/- Distances, paths, lists and entries, reckoned: for examples. No program in sight. -/
namespace Go.Proofs.YtbpgndbjbaoolaaGreat
set_option linter.unusedVariables false
set_option linter.unusedSimpArgs false
namespace PW
open Go.RowKit Reg Mem Net Rng

namespace Cmp
def relax (T : Topo) (D : List Bool) (d : Nat) (L : List Int) (a : Nat) : List Int :=
  if (!downN D a) && decide (0 ≤ L.getD (headN T a).toNat 0) && (decide (headN T a = (d : Int)) || !overN T (headN T a).toNat) && (decide (L.getD (tailN T a).toNat 0 < 0) || decide (L.getD (headN T a).toNat 0 + costN T a < L.getD (tailN T a).toNat 0))
  then L.set (tailN T a).toNat (L.getD (headN T a).toNat 0 + costN T a) else L
def dC (T : Topo) (D : List Bool) (d : Nat) : List Int := (List.range T.nodes.toNat).foldl (fun L _ => (List.range (2 * T.links.length)).foldl (relax T D d) L) ((List.replicate T.nodes.toNat (-1)).set d 0)
def wayC (T : Topo) (D : List Bool) (n : Nat) (out : List Int) (a : Nat) : Bool := !downN D a && decide (0 ≤ at' out (arcY T false a)) && (decide (arcY T false a = (n : Int)) || !overN T (arcY T false a).toNat)
def chkD (T : Topo) (D : List Bool) (n : Nat) (out : List Int) : Bool :=
  decide (out.length = T.nodes.toNat) && decide (at' out (n : Int) = 0) && (List.range T.nodes.toNat).all (fun x => decide (-1 ≤ at' out (x : Int))) &&
  (List.range (2 * T.links.length)).all (fun a => !wayC T D n out a || (decide (0 ≤ at' out (arcX T false a)) && decide (at' out (arcX T false a) ≤ at' out (arcY T false a) + costN T a))) &&
  (List.range T.nodes.toNat).all (fun x => decide (x = n) || decide (at' out (x : Int) < 0) || (List.range (2 * T.links.length)).any fun a => decide (arcX T false a = (x : Int)) && wayC T D n out a && decide (at' out (x : Int) = at' out (arcY T false a) + costN T a))
def chk (T : Topo) (D : List Bool) : Bool := (List.range T.nodes.toNat).all fun d => chkD T D d (dC T D d)
theorem way_iff (T : Topo) (D : List Bool) (n : Nat) (out : List Int) (a : Nat) : Net.Way T D n false out a ↔ wayC T D n out a = true := by
  unfold Net.Way wayC
  simp [and_assoc]
theorem dist_of {T : Topo} {D : List Bool} (hv : validB T = true) {n : Nat} {out : List Int} (h : chkD T D n out = true) : IsDist T D n false out := by
  have hN := (sound_of hv).nodes
  simp only [chkD, Bool.and_eq_true, decide_eq_true_eq, List.all_eq_true, List.mem_range, Bool.or_eq_true, Bool.not_eq_true', List.any_eq_true] at h
  obtain ⟨⟨⟨⟨h1, h2⟩, h3⟩, h4⟩, h5⟩ := h
  refine ⟨by rw [h1]; omega, h2, fun x hx => h3 x (by omega), fun a ha hw => ?_, fun x hx h0 => ?_⟩
  · rcases h4 a ha with h | h
    · rw [(way_iff T D n out a).1 hw] at h; cases h
    · exact h
  · rcases h5 x (by omega) with (h | h) | ⟨a, ha, ⟨h6, h7⟩, h8⟩
    · exact .inl h
    · omega
    · exact .inr ⟨a, ha, h6, (way_iff T D n out a).2 h7, h8⟩
theorem dist {T : Topo} {D : List Bool} (hv : validB T = true) (h : chk T D = true) {d : Nat} (hd : (d : Int) < T.nodes) : distL T D d false = dC T D d := by
  refine distL_eq (sound_of hv) (dist_of hv ?_)
  simp only [chk, List.all_eq_true, List.mem_range] at h
  exact h d (by omega)
def nextC (T : Topo) (D : List Bool) (n d : Nat) : List Int := if n = d ∨ (dC T D d).getD n 0 < 0 then [] else passL T D (dC T D d) ((dC T D d).getD n 0) d (outL T n)
theorem next {T : Topo} {D : List Bool} (hv : validB T = true) (h : chk T D = true) {n d : Nat} (hd : (d : Int) < T.nodes) : nextL T D n d = nextC T D n d := by
  unfold nextL nextC; rw [dist hv h hd]
def firstC (T : Topo) (D : List Bool) (d : Nat) : Nat → Nat → List Int
  | 0, _ => []
  | f + 1, n => match nextC T D n d with
    | [] => []
    | a :: _ => a :: firstC T D d f (headN T a.toNat).toNat
def spathC (T : Topo) (D : List Bool) (n d : Nat) : List Int := firstC T D d ((dC T D d).getD n 0).toNat n
theorem first {T : Topo} {D : List Bool} (hv : validB T = true) (h : chk T D = true) {d : Nat} (hd : (d : Int) < T.nodes) : ∀ f n, firstP T D d f n = firstC T D d f n
  | 0, _ => rfl
  | f + 1, n => by
    simp only [firstP, firstC, next hv h hd]
    cases nextC T D n d with
    | nil => rfl
    | cons a l => simp only [first hv h hd f]
theorem spath {T : Topo} {D : List Bool} (hv : validB T = true) (h : chk T D = true) {n d : Nat} (hd : (d : Int) < T.nodes) : spathL T D n d = spathC T D n d := by
  unfold spathL spathC dN; rw [dist hv h hd, first hv h hd]
def spC (T : Topo) (D : List Bool) (s d : Int) : Int := if nodeE T D s d = 0 then (if (dC T D d.toNat).getD s.toNat 0 < 0 then 11 else 0) else nodeE T D s d
theorem node_lt {T : Topo} {D : List Bool} {s d : Int} (h : nodeE T D s d = 0) : (d.toNat : Int) < T.nodes ∧ 0 ≤ d := by
  obtain ⟨_, _, _, h4⟩ := nodeE_zero h
  rw [nodeB_iff] at h4
  omega
theorem spe {T : Topo} {D : List Bool} (hv : validB T = true) (h : chk T D = true) (s d : Int) : spE T D s d = spC T D s d := by
  unfold spE spC dN
  by_cases h0 : nodeE T D s d = 0
  · rw [if_pos h0, if_pos h0, dist hv h (node_lt h0).1]
  · rw [if_neg h0, if_neg h0]
def cntC (T : Topo) (D : List Bool) (d : Nat) : Nat → Nat → Int
  | 0, m => if m = d then 1 else 0
  | f + 1, m => if m = d then 1 else (nextC T D m d).foldl (fun c a => min 2 (c + cntC T D d f (headN T a.toNat).toNat)) 0
theorem cnt {T : Topo} {D : List Bool} (hv : validB T = true) (h : chk T D = true) {d : Nat} (hd : (d : Int) < T.nodes) : ∀ f m, cntF T D d f m = cntC T D d f m
  | 0, _ => rfl
  | f + 1, m => by
    simp only [cntF, cntC, next hv h hd]
    split
    · rfl
    · exact foldl_congr fun c a _ => by rw [cnt hv h hd f]
def covC (T : Topo) (D : List Bool) (n : Int) (p : List Int) (i j : Nat) : Bool :=
  decide ((dC T D (endL T n (p.take j)).toNat).getD (endL T n (p.take i)).toNat 0 = costL T (p.take j) - costL T (p.take i)) && (decide (nodeE T D (endL T n (p.take i)) (endL T n (p.take j)) = 0) && decide (cntC T D (endL T n (p.take j)).toNat ((dC T D (endL T n (p.take j)).toNat).getD (endL T n (p.take i)).toNat 0).toNat (endL T n (p.take i)).toNat = 1))
theorem cov {T : Topo} {D : List Bool} (hv : validB T = true) (h : chk T D = true) (n : Int) (p : List Int) (i j : Nat) : covB T D n p i j = covC T D n p i j := by
  unfold covB covC uniqB cntS dN
  by_cases h0 : nodeE T D (endL T n (p.take i)) (endL T n (p.take j)) = 0
  · rw [dist hv h (node_lt h0).1, cnt hv h (node_lt h0).1]
  · rw [decide_eq_false h0]; simp
def lstC (T : Topo) (D : List Bool) (n : Int) (p : List Int) : Nat → Nat → List Seg
  | 0, _ => []
  | f + 1, i => if i < p.length then (match topD (covC T D n p i) i p.length with
    | some j => ⟨1, endL T n (p.take j)⟩ :: lstC T D n p f j
    | none => ⟨2, p.getD i 0⟩ :: lstC T D n p f (i + 1)) else []
theorem lst {T : Topo} {D : List Bool} (hv : validB T = true) (h : chk T D = true) (n : Int) (p : List Int) : ∀ f i, lstF T D n p f i = lstC T D n p f i
  | 0, _ => rfl
  | f + 1, i => by
    have : covB T D n p i = covC T D n p i := funext fun j => cov hv h n p i j
    simp only [lstF, lstC, this]
    split
    · cases topD (covC T D n p i) i p.length with
      | none => simp only [lst hv h n p f]
      | some j => simp only [lst hv h n p f]
    · rfl
def entC (T : Topo) (D : List Bool) (n d : Int) : Ent :=
  if spC T D n d = 0 ∧ n ≠ d then ⟨[(spathC T D n.toNat d.toNat).getD 0 0], true, cutL (lstC T [] n (spathC T D n.toNat d.toNat) (spathC T D n.toNat d.toNat).length 0)⟩ else ⟨[], false, []⟩
theorem ent {T : Topo} {D : List Bool} (hv : validB T = true) (h0 : chk T [] = true) (h : chk T D = true) (n d : Int) : entX T D n d = entC T D n d := by
  unfold entX entC
  rw [spe hv h]
  by_cases hd : (d.toNat : Int) < T.nodes
  · unfold lstL
    rw [spath hv h hd, lst hv h0]
  · have : ¬ spC T D n d = 0 := by
      unfold spC
      intro hh
      split at hh
      · rename_i h1; exact hd (node_lt h1).1
      · rename_i h1; exact h1 hh
    rw [if_neg (fun hh => this hh.1), if_neg (fun hh => this hh.1)]
def asmC (T : Topo) (a : Nat) (d : Int) : Int × Int :=
  if (decide (0 < grpN T a) && decide (spC T (maskL T 3 (grpN T a)) (tailN T a) d = 0)) = true then (3, grpN T a)
  else if (decide (headN T a ≠ d) && decide (spC T (maskL T 2 (headN T a)) (tailN T a) d = 0)) = true then (2, headN T a)
  else (1, ((a / 2 : Nat) : Int))
theorem asm {T : Topo} (hv : validB T = true) {a : Nat} (h3 : chk T (maskL T 3 (grpN T a)) = true) (h2 : chk T (maskL T 2 (headN T a)) = true) (d : Int) : asmF T a d = asmC T a d := by
  unfold asmF asmC rchB
  rw [spe hv h3, spe hv h2]
end Cmp
end PW
end Go.Proofs.YtbpgndbjbaoolaaGreat

/- Tables reckoned, for examples; the ring after a failure. No program in sight. -/
namespace Go.Proofs.YtbpgndbjbaoolaaGreat
set_option linter.unusedVariables false
set_option linter.unusedSimpArgs false
namespace PW
open Go.RowKit Reg Mem Net Rng
namespace Cmp
def routesC (T : Topo) (D : List Bool) (n : Nat) : Tab := ⟨n, (List.range T.nodes.toNat).map fun (d : Nat) => ⟨nextC T D n d, false, []⟩, downL D (outL T n)⟩
theorem routes {T : Topo} {D : List Bool} (hv : validB T = true) (h : chk T D = true) (n : Nat) : routesT T D n = routesC T D n := by
  have hN := (sound_of hv).nodes
  unfold routesT routesC toL
  congr 1
  refine List.map_congr_left fun d hd => ?_
  have := List.mem_range.1 hd
  rw [next hv h (by omega)]
end Cmp
def ringD1 : List Bool := [true, true, false, false, false, false, false, false]
theorem ring_mask : maskL ringT 1 0 = ringD1 := by kernel_rfl
theorem ring_chk0 : Cmp.chk ringT [] = true := by kernel_rfl
end PW
end Go.Proofs.YtbpgndbjbaoolaaGreat

/- Tables of the state Repair reckoned, for examples; the ring's. No program in sight. -/
namespace Go.Proofs.YtbpgndbjbaoolaaGreat
set_option linter.unusedVariables false
set_option linter.unusedSimpArgs false
namespace PW
open Go.RowKit Reg Mem Net Rng
namespace Cmp
def mixC (T : Topo) (own : List Bool) (n d : Int) (a : Nat) : List Bool :=
  if spC T (orM T (maskL T (asmC T a d).1 (asmC T a d).2) own) n d = 0 then orM T (maskL T (asmC T a d).1 (asmC T a d).2) own else own
def repC (T : Topo) (own : List Bool) (n d : Nat) : Ent := match hitL own (nextC T [] n d) with
  | none => ⟨nextC T [] n d, false, []⟩
  | some a => entC T (mixC T own n d a.toNat) n d
def chkR (T : Topo) (own : List Bool) (n d : Nat) : Bool := match hitL own (nextC T [] n d) with
  | none => true
  | some a => chk T (maskL T 3 (grpN T a.toNat)) && chk T (maskL T 2 (headN T a.toNat)) && chk T (orM T (maskL T (asmC T a.toNat d).1 (asmC T a.toNat d).2) own) && chk T (mixC T own n d a.toNat)
theorem rep {T : Topo} {own : List Bool} {n d : Nat} (hv : validB T = true) (h0 : chk T [] = true) (hd : (d : Int) < T.nodes) (h : chkR T own n d = true) : repX T own n d = repC T own n d := by
  unfold repX repC
  unfold chkR at h
  rw [next hv h0 hd]
  cases hh : hitL own (nextC T [] n d) with
  | none => rfl
  | some a =>
    rw [hh] at h
    simp only [Bool.and_eq_true] at h
    obtain ⟨⟨⟨h1, h2⟩, h3⟩, h4⟩ := h
    have hm : mixM T own n d a.toNat = mixC T own n d a.toNat := by
      unfold mixM mixC rchB
      rw [asm hv h1 h2, spe hv h3]
      by_cases e : spC T (orM T (maskL T (asmC T a.toNat (d : Int)).1 (asmC T a.toNat (d : Int)).2) own) n d = 0
      · rw [if_pos (by simpa using e), if_pos e]
      · rw [if_neg (by simpa using e), if_neg e]
    simp only []
    rw [hm, ent hv h0 h4]
def repTC (T : Topo) (M : List Bool) (n : Nat) : Tab := ⟨n, (List.range T.nodes.toNat).map fun d => repC T (ownM T M n) n d, downL M (outL T n)⟩
theorem repTab {T : Topo} {M : List Bool} {n : Nat} (hv : validB T = true) (h0 : chk T [] = true) (h : ((List.range T.nodes.toNat).all fun d => chkR T (ownM T M n) n d) = true) : repT T M n = repTC T M n := by
  have hN := (sound_of hv).nodes
  unfold repT repTC repL
  congr 1
  refine List.map_congr_left fun d hd => ?_
  have hd' := List.mem_range.1 hd
  exact rep hv h0 (by omega) (List.all_eq_true.1 h d hd)
end Cmp
def ringR : Tab := ⟨0, [⟨[], false, []⟩, ⟨[7], true, [⟨1, 3⟩, ⟨1, 2⟩, ⟨1, 1⟩]⟩, ⟨[7], true, [⟨1, 3⟩, ⟨1, 2⟩]⟩, ⟨[7], false, []⟩], [0]⟩
theorem ring_rep : repT ringT ringD1 0 = ringR := (Cmp.repTab ring_valid ring_chk0 (by kernel_rfl)).trans (by kernel_rfl)
theorem ring_asm : asmF ringT 0 2 = (2, 1) := (Cmp.asm ring_valid (by kernel_rfl) (by kernel_rfl) 2).trans (by kernel_rfl)
end PW
end Go.Proofs.YtbpgndbjbaoolaaGreat
