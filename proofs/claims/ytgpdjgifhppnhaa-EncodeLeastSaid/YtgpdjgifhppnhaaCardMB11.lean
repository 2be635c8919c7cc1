/- EncodeLeast returns true for every input: Least returns the least number of segments, which is that of List. No conditions. -/
import Derived.Test.YtgpdjgifhppnhaaCardMB10
/- The least number of segments: package encode's Least, the reference's; the law EncodeLeast, walked. -/
namespace Go.Proofs.Ytgpdjgifhppnhaa
set_option linter.unusedVariables false
set_option linter.unusedSimpArgs false
namespace PW
open Go.RowKit Reg Mem Net

def numE (e : Int) (k : Int) : PV := .tuple [num (if e = 0 then k else 0), num e]
set_option maxRecDepth 10000 in
set_option maxHeartbeats 2000000 in
theorem eleast_can (T : Topo) (D : List Bool) (p : List Int) (n : Int) (hp : p.length ≤ 1000) (hlk : T.links.length ≤ 256) (h12 : T.nodes ≤ 12) : Can Try.prog 20 [topoV T, boolsV D, intsV p, num n] (· = numE (folE T D n p) (gN T D n p 0)) := by
  have hl := elist_can T D p n hp hlk h12
  have hg : gN T D n p 0 = (lstL T D n p).length := by unfold gN lstL; rfl
  refine can_of Try.func20 rfl Try.ntmps20 rfl ?_
  refine W_cs (.a 3 rfl <| .k [1, 2, 3, 4] rfl) ?_
  refine W_cs (.a 4 rfl <| .c rfl (hl) rfl <| .a 5 rfl <| .k [10, 11] rfl) ?_
  refine W_cs (.a 5 rfl <| .k [8, 9] rfl) ?_
  refine W_ret ?_
  refine ⟨_, _, ResL.of rfl, Pur.pure, ?_⟩
  unfold numE
  rw [hg]
  by_cases he : folE T D n p = 0
  · simp only [if_pos he]; rfl
  · simp only [if_neg he]; rfl
/-- The row of least numbers: those behind i are right. -/
structure LeaI (T : Topo) (D : List Bool) (n : Int) (p ls : List Int) (i : Nat) : Prop where
  len : ls.length = p.length + 1
  val : ∀ k, i < k → k ≤ p.length → ls.getD k 0 = gN T D n p k
set_option maxRecDepth 10000 in
set_option maxHeartbeats 2000000 in
theorem rleast_can (T : Topo) (D : List Bool) (p : List Int) (n : Int) (hp : p.length ≤ 1000) (h12 : T.nodes ≤ 12) : Can Try.prog 21 [topoV T, boolsV D, intsV p, num n] (· = numE (folE T D n p) (gN T D n p 0)) := by
  refine can_of Try.func21 rfl Try.ntmps21 rfl ?_
  refine W_cs (.a 3 rfl <| .k [1, 2, 3, 4] rfl) ?_
  refine W_cs (.a 4 rfl <| .c rfl (rcheck_can T D p n hp) rfl <| .a 1 rfl <| .k [1, 2, 4, 10] rfl) ?_
  refine W_seq ?_
  refine W_cs (.a 2 rfl <| .k [1, 2, 4, 10, 20] rfl) ?_
  refine W_cond rfl (fun hc => ?_) (fun hc => ?_)
  · have he : folE T D n p ≠ 0 := tt hc
    refine W_cs (.a 3 rfl <| .k [8, 9] rfl) ?_
    refine W_ret ?_
    exact ⟨_, _, ResL.of rfl, Pur.pure, by unfold numE; rw [if_neg he]; rfl⟩
  · have he : folE T D n p = 0 := Classical.byContradiction (ff hc)
    have hF := fol_of he
    have hv := hF.valid
    have ha := hF.arcs
    rw [he]
    clear hc
    have hgl : ∀ i, gN T D n p i ≤ p.length := fun i => by
      have h1 := gN_mono hF p.length 0 i (by omega) (by omega)
      have h2 : ∀ f i, (lstF T D n p f i).length ≤ f := fun f => by
        induction f with
        | zero => intro i; simp [lstF]
        | succ f ih =>
          intro i
          simp only [lstF]
          split
          · split
            · have := ih ‹Nat›; simp only [List.length_cons]; omega
            · have := ih (i + 1); simp only [List.length_cons]; omega
          · simp
      have := h2 (p.length - 0) 0
      unfold gN at h1 ⊢
      omega
    refine W_skip ?_
    refine W_rs ?_
    refine WR_a 2 rfl <| WR_v (y_ar rfl) rfl <| WR_l (l_make rfl (fok.rk.get rfl) rfl rfl (show (p.length : Int) + 1 = ((p.length + 1 : Nat) : Int) by omega) (show (p.length : Int) + 1 = ((p.length + 1 : Nat) : Int) by omega) ⟨by unfold maxLen; omega, by omega⟩) rfl <| WR_a 1 rfl <| WR_k [1, 2, 4, 11] rfl ?_
    refine W_sto (σ' := [irow (List.replicate (p.length + 1) 0)]) (by unfold irow; rw [List.length_replicate, ← zeros_ints]; rfl) ?_
    refine W_seq ?_
    refine W_cs (.a 2 rfl <| .v (y_ar rfl) rfl <| .a 1 rfl <| .k [1, 2, 4, 11, 12] rfl) ?_
    refine W_block ?_
    refine W_k [1, 2, 4, 11, 12] rfl ?_
    refine W_loop (fun r st => ∃ (ls : List Int) (m : Nat), m ≤ p.length ∧ ls.length = p.length + 1 ∧ (∀ k, m ≤ k → k ≤ p.length → ls.getD k 0 = gN T D n p k) ∧ r = m ∧ st = ⟨[(1, boolsV D), (2, intsV p), (4, .pin (topoP T) 0), (11, .own 0), (12, num ((m : Int) - 1))], [irow ls]⟩) p.length ⟨List.replicate (p.length + 1) 0, p.length, by omega, by simp, fun k h1 h2 => by rw [gN_end h1, List.getD_eq_getElem?_getD, List.getElem?_replicate]; split <;> rfl, rfl, rfl⟩ ?_
    rintro r st ⟨ls, m, hm, hll, hval, rfl, rfl⟩
    refine W_seq ?_
    refine W_cs (.a 2 rfl <| .k [1, 2, 4, 11, 12, 30] rfl) ?_
    refine W_cond rfl (fun h1 => ?_) (fun h1 => ?_)
    · obtain ⟨i, rfl⟩ : ∃ i, r = i + 1 := ⟨r - 1, by have := tt h1; omega⟩
      have hi : i < p.length := by omega
      obtain ⟨x, hx, hxN⟩ := end_node hv hF.node ha i (by omega)
      have htl := part_tail hF hi hx
      have hs1 := hval (i + 1) (Nat.le_refl _) (by omega)
      have hb1 := hgl (i + 1)
      rw [show ((i + 1 : Nat) : Int) - 1 = (i : Int) by omega]
      refine W_skip ?_
      refine W_seq ?_
      refine W_block ?_
      refine W_rs ?_
      refine WR_a 4 rfl <| WR_v (y_ar rfl) rfl <| WR_v (y_ix ((i + 1)) rfl) rfl <| WR_v (y_ld rfl ((ints_get ls (i + 1) (by omega)).trans (by rw [hs1]))) rfl <| WR_v (y_ar rfl) rfl <| WR_v (y_ix (i) rfl) rfl <| WR_loud0 ((by first | exact l_storeInts rfl (fok.tk.get rfl) rfl rfl rfl (by first | omega | (simp; omega)) | exact l_storeBools rfl (fok.tk.get rfl) rfl rfl rfl (by first | omega | (simp; omega)))) rfl rfl <| WR_k [1, 2, 4, 11, 12] rfl ?_
      refine W_cs (.a 1 rfl <| .v (y_ar rfl) rfl <| .a 1 rfl <| .k [1, 2, 4, 11, 12, 13] rfl) ?_
      refine W_block ?_
      refine W_k [1, 2, 4, 11, 12, 13] rfl ?_
      refine W_loop (fun r st => ∃ (m : Nat) (v : Nat), i ≤ m ∧ m ≤ p.length ∧ v ≤ p.length + 1 ∧ r = p.length - m ∧ gN T D n p i ≤ v ∧ v ≤ 1 + gN T D n p (i + 1) ∧ (∀ k, i < k → k ≤ m → covB T D n p i k = true → v ≤ 1 + gN T D n p k) ∧ st = ⟨[(1, boolsV D), (2, intsV p), (4, .pin (topoP T) 0), (11, .own 0), (12, num i), (13, num ((m + 1 : Nat) : Int))], [irow (ls.set i v)]⟩) (p.length - i) ⟨i, 1 + gN T D n p (i + 1), by omega, by omega, by omega, rfl, gN_le hF hi (.inl rfl), Nat.le_refl _, fun k h2 h3 => by omega, ?_⟩ ?_
      · unfold irow
        simp only [List.length_set, Int.natCast_add]
        rfl
      rintro r st ⟨m, v, him, hm2, hvb, rfl, hv1, hv2, hv3, rfl⟩
      refine W_seq ?_
      refine W_cs (.a 4 rfl <| .k [1, 2, 4, 11, 12, 13, 47] rfl) ?_
      refine W_cond rfl (fun h2 => ?_) (fun h2 => ?_)
      · have hlt2 : m + 1 ≤ p.length := by have := tt h2; omega
        obtain ⟨y, hy, hyN⟩ := end_node hv hF.node ha (m + 1) hlt2
        have hed := endL_step T n p m (by omega)
        have hcr := cov_ref hF (i := i) (k := m + 1) (by omega) hlt2 hx hy
        have hpl := part_len p (show i ≤ m + 1 by omega) hlt2
        have hco := rcovers_can T D (partL p i (m + 1)) hv h12 (by omega) (by omega) (fun a h => ha a (part_mem h)) x y (by rw [part_first p (by omega) hlt2]; exact htl) (by rw [hpl, part_get p (by omega), show i + (m + 1 - i - 1) = m by omega, ← hed]; exact hy)
        rw [hcr] at hco
        have hsm := hval (m + 1) (by omega) hlt2
        have hbm := hgl (m + 1)
        have hg1 : (ls.set i (v : Int)).getD (m + 1) 0 = gN T D n p (m + 1) := by rw [← hsm, List.getD_eq_getElem?_getD, List.getElem?_set, if_neg (by omega), ← List.getD_eq_getElem?_getD]
        have hg2 : (ls.set i (v : Int)).getD i 0 = v := by rw [List.getD_eq_getElem?_getD, List.getElem?_set, if_pos rfl, if_pos (by omega)]; rfl
        refine W_skip ?_
        refine W_seq ?_
        refine W_block ?_
        refine W_drs mixed (by kernel_rfl) (.a 5 rfl <| .v [52, 53, 54] (y_part rfl (fok.el.get rfl) rfl rfl rfl (by omega) hlt2) rfl rfl <| .v [50, 51, 55] (y_c rfl (hco)) rfl rfl <| .k [1, 2, 4, 11, 12, 13, 56] rfl) ?_
        refine W_cond rfl (fun h3 => ?_) (fun h3 => ?_)
        · have hle := gN_le hF hi (.inr ⟨by omega, hlt2, h3⟩)
          refine W_drawFlt 13 8 mixed (
            .val [11] rfl (y_a rfl) rfl rfl <|
            .val [12] rfl (y_a rfl) rfl rfl <|
            .val [11] rfl (y_a rfl) rfl rfl <|
            .val [12] rfl (y_a rfl) rfl rfl <|
            .val [59, 60] rfl (y_ix (i) rfl (by omega) (by simp only [List.length_set]; omega)) rfl rfl <|
            .val [61] rfl (y_ld rfl ((ints_get _ i (by simp only [List.length_set]; omega)).trans (by rw [hg2]))) rfl rfl <|
            .val [11] rfl (y_a rfl) rfl rfl <|
            .val [13] rfl (y_a rfl) rfl rfl <|
            .val [63, 64] rfl (y_ix ((m + 1)) rfl (by omega) (by simp only [List.length_set]; omega)) rfl rfl <|
            .val [65] rfl (y_ld rfl ((ints_get _ (m + 1) (by simp only [List.length_set]; omega)).trans (by rw [hg1]))) rfl rfl <|
            .val [66] rfl (y_ar rfl) rfl rfl <|
            .val [62, 67] rfl (y_min (c := ((min v (1 + gN T D n p (m + 1)) : Nat) : Int)) rfl rfl rfl (by omega)) rfl rfl <|
            .val [57, 58] rfl (y_ix (i) rfl (by omega) (by simp only [List.length_set]; omega)) rfl rfl <|
            .nil) (by kernel_rfl) rfl rfl (keepT_sub (ks := [1, 2, 4, 11, 12, 13, 68, 69]) rfl) ?_
          refine WR_loud0 ((by first | exact l_storeInts rfl (fok.tk.get rfl) rfl rfl rfl (by first | omega | (simp; omega)) | exact l_storeBools rfl (fok.tk.get rfl) rfl rfl rfl (by first | omega | (simp; omega)))) rfl rfl <| WR_k [1, 2, 4, 11, 12, 13] rfl ?_
          refine W_chain (.a 1 rfl <| .v (y_ar rfl) rfl <| .a 1 rfl <| .k [1, 2, 4, 11, 12, 13] rfl) ?_
          first
            | (refine ⟨p.length - (m + 1), by omega, m + 1, min v (1 + gN T D n p (m + 1)), by omega, hlt2, by omega, rfl, by omega, by omega, fun k h4 h5 h6 => ?_, ?_⟩
               · by_cases e : k = m + 1
                 · subst e; omega
                 · have := hv3 k h4 (by omega) h6; omega
               · unfold irow
                 simp only [List.length_set, List.set_set]
                 rfl)
            | (refine ⟨p.length - (m + 1), by omega, m + 1, v, by omega, hlt2, hvb, rfl, hv1, hv2, fun k h4 h5 h6 => ?_, rfl⟩
               by_cases e : k = m + 1
               · subst e; rw [h3] at h6; cases h6
               · exact hv3 k h4 (by omega) h6)
        · skip
          refine W_skip ?_
          refine W_chain (.a 1 rfl <| .v (y_ar rfl) rfl <| .a 1 rfl <| .k [1, 2, 4, 11, 12, 13] rfl) ?_
          first
            | (refine ⟨p.length - (m + 1), by omega, m + 1, min v (1 + gN T D n p (m + 1)), by omega, hlt2, by omega, rfl, by omega, by omega, fun k h4 h5 h6 => ?_, ?_⟩
               · by_cases e : k = m + 1
                 · subst e; omega
                 · have := hv3 k h4 (by omega) h6; omega
               · unfold irow
                 simp only [List.length_set, List.set_set]
                 rfl)
            | (refine ⟨p.length - (m + 1), by omega, m + 1, v, by omega, hlt2, hvb, rfl, hv1, hv2, fun k h4 h5 h6 => ?_, rfl⟩
               by_cases e : k = m + 1
               · subst e; rw [h3] at h6; cases h6
               · exact hv3 k h4 (by omega) h6)
      · have hme : m = p.length := by have := ff h2; omega
        have hve : v = gN T D n p i := by
          rcases gN_get (T := T) (D := D) (n := n) hi with h | ⟨k, h3, h4, h5, h6⟩
          · omega
          · have := hv3 k h3 (by omega) h5
            omega
        refine W_exit ?_
        refine W_chain (.a 1 rfl <| .v (y_ar rfl) rfl <| .a 1 rfl <| .k [1, 2, 4, 11, 12] rfl) ?_
        refine ⟨i, by omega, ls.set i v, i, by omega, by simpa using hll, fun k h4 h5 => ?_, rfl, rfl⟩
        rw [List.getD_eq_getElem?_getD, List.getElem?_set]
        by_cases e : i = k
        · subst e; rw [if_pos rfl, if_pos (by omega), hve]; rfl
        · rw [if_neg e, ← List.getD_eq_getElem?_getD]; exact hval k (by omega) h5
    · have hr0 : r = 0 := by have := ff h1; omega
      subst hr0
      have hs0 := hval 0 (by omega) (by omega)
      refine W_exit ?_
      refine W_cs (.a 1 rfl <| .v (y_ix (0) rfl) rfl <| .v (y_ld rfl ((ints_get ls 0 (by omega)).trans (by rw [hs0]))) rfl <| .a 2 rfl <| .k [8, 9] rfl) ?_
      refine W_ret ?_
      exact ⟨_, _, ResL.of rfl, Pur.pure, by unfold numE; rw [if_pos rfl]; rfl⟩
set_option maxRecDepth 10000 in
set_option maxHeartbeats 1000000 in
theorem lawLeast_can (c : Cas) : Can Try.prog 5 [casV c] (· = flag true) := by
  refine can_of Try.func5 rfl Try.ntmps5 rfl ?_
  refine W_cs (.a 2 rfl <| .k [1] rfl) ?_
  refine W_seq ?_
  refine W_cs (.c rfl (awake20_can) rfl <| .a 1 rfl <| .k [1, 10] rfl) ?_
  refine W_cond rfl (fun hc => ?_) (fun hc => ?_)
  · cases hc
  · refine W_skip ?_
    refine W_seq ?_
    refine W_cs (.a 1 rfl <| .c rfl (large_can c) rfl <| .k [1, 12] rfl) ?_
    refine W_cond rfl (fun hy => ?_) (fun hy => ?_)
    · skip
      refine W_cs (.a 1 rfl <| .k [2] rfl) ?_
      refine W_ret ?_
      exact ⟨_, _, ResL.of rfl, Pur.pure, rfl⟩
    · obtain ⟨s1, s2, s3, s4, s5, s6⟩ := large_small hy
      have hgl : gN c.T c.D c.n c.p 0 = (lstL c.T c.D c.n c.p).length := rfl
      obtain ⟨L, hL⟩ : ∃ L, (if folE c.T c.D c.n c.p = 0 then lstL c.T c.D c.n c.p else []) = L := ⟨_, rfl⟩
      obtain ⟨k, hk⟩ : ∃ k : Int, (if folE c.T c.D c.n c.p = 0 then ((gN c.T c.D c.n c.p 0 : Nat) : Int) else 0) = k := ⟨_, rfl⟩
      have hLk : (L.length : Int) = k := by
        rw [← hL, ← hk]
        by_cases he : folE c.T c.D c.n c.p = 0
        · rw [if_pos he, if_pos he, hgl]
        · rw [if_neg he, if_neg he]; rfl
      have he1 : Can Try.prog 13 [topoV c.T, boolsV c.D, intsV c.p, num c.n] (· = .tuple [segsV L, num (folE c.T c.D c.n c.p)]) := hL ▸ elist_can c.T c.D c.p c.n (by omega) (by omega) s4
      have he2 : Can Try.prog 20 [topoV c.T, boolsV c.D, intsV c.p, num c.n] (· = .tuple [num k, num (folE c.T c.D c.n c.p)]) := hk ▸ eleast_can c.T c.D c.p c.n (by omega) (by omega) s4
      have he3 : Can Try.prog 21 [topoV c.T, boolsV c.D, intsV c.p, num c.n] (· = .tuple [num k, num (folE c.T c.D c.n c.p)]) := hk ▸ rleast_can c.T c.D c.p c.n (by omega) s4
      obtain ⟨q1, h1⟩ : ∃ q, decide (folE c.T c.D c.n c.p = folE c.T c.D c.n c.p) = q := ⟨_, rfl⟩
      have hq1 : q1 = true := by rw [← h1]; exact decide_eq_true rfl
      obtain ⟨q2, h2⟩ : ∃ q, decide (k = k) = q := ⟨_, rfl⟩
      have hq2 : q2 = true := by rw [← h2]; exact decide_eq_true rfl
      obtain ⟨q3, h3⟩ : ∃ q, decide ((L.length : Int) = k) = q := ⟨_, rfl⟩
      have hq3 : q3 = true := by rw [← h3]; exact decide_eq_true hLk
      refine W_skip ?_
      refine W_cs (.a 8 rfl <| .c rfl (he2) rfl <| .a 5 rfl <| .k [1, 3, 4] rfl) ?_
      refine W_cs (.a 8 rfl <| .c rfl (he3) rfl <| .a 5 rfl <| .k [1, 3, 4, 5, 6] rfl) ?_
      refine W_cs (.a 8 rfl <| .c rfl (he1) rfl <| .a 5 rfl <| .k [3, 4, 5, 6, 7, 8] rfl) ?_
      refine W_csK 2 (.raw (.bool ((((q1 && q2) && q1) && q3)))) [] rfl ?_ ?_
      · refine .a 2 rfl <| .v (y_q rfl (h1)) rfl <| .a 1 rfl <| ?_
        cases q1
        · exact .a 16 rfl <| .k [2] rfl
        · refine .a 2 rfl <| .v (y_q rfl (h2)) rfl <| .a 2 rfl <| ?_
          cases q2
          · exact .a 11 rfl <| .k [2] rfl
          · exact .a 2 rfl <| .v (y_q rfl (h1)) rfl <| .a 5 rfl <| .v (y_q rfl (h3)) rfl <| .a 2 rfl <| .k [2] rfl
      refine W_ret ?_
      exact ⟨_, _, ResL.of rfl, Pur.pure, by rw [hq1, hq2, hq3]; rfl⟩
end PW
end Go.Proofs.Ytgpdjgifhppnhaa

namespace Go.Proofs.Ytgpdjgifhppnhaa.encodeLeast
set_option linter.unusedVariables false
set_option linter.unusedSimpArgs false
open Go.ChangeShapes Go.WideShapes Go.ChangeAt Go.RowKit
open Reg Mem PW

set_option maxRecDepth 100000 in
theorem lifted (os : Os) (started : os.Started) (H : Type) (enc : TypeId × Value → H) :
    ReturnsInHanded {} Try.checked os 5 .any (Rows.encodeLeastSpec.pre6 enc Try.prog Try.f5 Rows.encodeLeastRow.domain false) (Rows.encodeLeastSpec.post enc Try.prog Try.f5 false true false false) := by
  refine returnsInHanded_of_change (C := Try.checked) own started (by kernel_rfl) Try.func5
    (ChangeSpec.witness6 (enc := enc) (C := Try.checked) false ⟨#[], #[.agg #[.int .i64 0, .slice none 0 0, .slice none 0 0, .slice none 0 0, .int .i64 0, .slice none 0 0, .slice none 0 0]], []⟩ 8 (by kernel_rfl) (by kernel_rfl) (by kernel_rfl) (by kernel_rfl)) ?_
  intro W base args ds gs before hval0 hW hcnd _
  have hval : ∀ (j : Nat) t v, Try.f5.params[j]? = some t → args[j]? = some v → Value.okWide Try.prog W .any base t v := hval0
  have hW' := hW
  obtain ⟨p, q, hA0, hV, rfl, hfz, hnd⟩ := hW
  have hA : DataW.TrodAll enc Try.prog W 0 (fun _ => true) true Try.f5.params.toList args.toList ds p := hA0
  rw [Try.params5] at hA hval
  obtain ⟨v0, vs0, d0, ds0, p0, q0, hargs, rfl, rfl, h0, r0⟩ := trodAll_cons hA
  obtain ⟨rfl, rfl, rfl⟩ := trodAll_nil r0
  obtain rfl : args = #[v0] := by cases args; simp_all
  obtain ⟨rfl, rfl⟩ := trodVars_none hV
  have lt0 := lt_of h0
  obtain ⟨c, R0⟩ := rd_case (hval 0 29 v0 rfl rfl) h0
  clear hA0 hval0
  refine ((lawLeast_can c) (fun _ => False) W #[v0] (fun _ h => h.elim) (noGlob _ W) (RepL.cons R0 (RepL.nil _ _))).mono fun e W' ⟨x, he, bel, r, hr, hx⟩ => ?_
  subst hr
  cases hx
  subst he
  exact ⟨_, rfl, _, _, _, [], _, [], hW', trodAll_mk1 (shut_bool Try.underlying4 _), (trodAll_cons_mk (Below.trod laidOut (by kernel_rfl) (of_decide_eq_true (by kernel_rfl)) h0 bel lt0) trodAll_mk0), rfl, bel.frame _, fun h => by cases h⟩

theorem over : Rows.encodeLeastRow.holds Try.pinned (OpenSpec.ofChange Rows.encodeLeastSpec) :=
  OpenClaim.holds_of_wide 5 Try.f5 rfl rfl rfl rfl rfl rfl rfl ⟨rfl, rfl, rfl, rfl, rfl⟩ rfl rfl rfl rfl rfl (by kernel_rfl) Try.func5 (by kernel_rfl)
    (of_decide_eq_true (by kernel_rfl)) (by unfold Func.isWrapper; first | (rw [if_pos (by decide +kernel)]; kernel_rfl) | (rw [if_neg (by decide +kernel)]; exact ⟨rfl, rfl⟩))
    (fun os started H enc _ => lifted os started H enc)

theorem proved : Rows.EncodeLeastSaid := over
end Go.Proofs.Ytgpdjgifhppnhaa.encodeLeast
