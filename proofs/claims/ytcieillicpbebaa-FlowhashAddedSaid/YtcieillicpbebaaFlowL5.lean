/- FlowhashAdded returns true for every input: if an arc is added, the choice is the same or the new arc. No conditions. -/
import Derived.Test.YtcieillicpbebaaFlowOpen
import Derived.Test.YtcieillicpbebaaFlowMax
import Derived.Deep.RegionHeld3
namespace Go.Proofs.Ytcieillicpbebaa.flowhashAdded
open Go.ChangeShapes Go.WideShapes Go.ChangeAt Go.RowKit
open Flow Reg Mem
set_option linter.unusedVariables false

theorem info_int : (Try.prog.info? 3).map (fun i => (i.zero, i.size, i.bytes)) = some (some (.int .i64 0), 1, 8) := by kernel_rfl
theorem size_int (w : World) : (sizeOf 3).run Try.prog w = .ok 1 w := by kernel_rfl

theorem added_row {w : World} {B : Nat} {v : Value} {L : List Int} {k : Int} (h : w.ownsRow B 3 1 v (0 + L.length + 1) ([] ++ ints L ++ [.int .i64 k])) : Ints w v (L ++ [k]) := by
  have := Row.owns h
  unfold Ints
  rw [show (L ++ [k]).length = 0 + L.length + 1 by simp, show ints (L ++ [k]) = [] ++ ints L ++ [.int .i64 k] by simp [ints]]
  exact this

set_option maxHeartbeats 2000000 in
theorem walk (f n k : Int) (v : Value) (L : List Int) (w : World) (h : Ints w v L) : Calls Try.prog 7 #[.agg #[.int .i64 f, .int .i64 n], v, .int .i64 k] w (Ret (fun v _ => v = .bool true) w) := by
  obtain ⟨a, m, c, rfl, hm⟩ : ∃ a m c, v = .slice a m c ∧ m = L.length := by
    rcases h.cases with ⟨rfl, a, c, rfl, _⟩ | ⟨_, b, off, c, rfl, _⟩
    · exact ⟨_, _, _, rfl, rfl⟩
    · exact ⟨_, _, _, rfl, rfl⟩
  have H := Lib.hid h
  have HM := Lib.hid hm
  clear h hm
  by_cases h60 : (60 : Int) < (m : Int)
  · go_enter Try.func7, Try.ntmps7
    go_wp2_with fail
    refine (awake_any _).mono ?_
    rintro e w1 ⟨x, rfl, hE1, rfl⟩
    go_wp2_with fail
    refine (awake_any _).mono ?_
    rintro e w2 ⟨x, rfl, hE2, rfl⟩
    go_wp2_with fail
    go_ret
    exact ⟨_, rfl, ((Ext.refl w).alloc _).trans (hE1.trans hE2), rfl⟩
  · by_cases hk0 : m = 0
    · have hk0' : ((m : Int) == 0) = true := by simp [hk0]
      clear hk0
      go_enter Try.func7, Try.ntmps7
      go_wp2_with fail
      refine (awake_any _).mono ?_
      rintro e w1 ⟨x, rfl, hE1, rfl⟩
      go_wp2_with fail
      refine (awake_any _).mono ?_
      rintro e w2 ⟨x, rfl, hE2, rfl⟩
      go_wp2_with fail
      go_ret
      exact ⟨_, rfl, ((Ext.refl w).alloc _).trans (hE1.trans hE2), rfl⟩
    · have hk0' : ((m : Int) == 0) = false := by simp; omega
      go_enter Try.func7, Try.ntmps7
      go_wp2_with fail
      refine (awake_any _).mono ?_
      rintro e w1 ⟨x, rfl, hE1, rfl⟩
      have hb0 : w1.cell? ⟨w.heap.size, 0, none⟩ = some (.int .i64 f) := hE1.cell (by simp [go_sem])
      have hb1 : w1.cell? ⟨w.heap.size, 1, none⟩ = some (.int .i64 n) := hE1.cell (by simp [go_sem])
      have hlt : w.heap.size < w1.heap.size := by have := hE1.size; simp at this; omega
      have HE := Lib.hid (show Ext w w1 from ((Ext.refl w).alloc _).trans hE1)
      clear hE1
      go_wp2_with fail
      have hs2 : w.heap.size < w1.heap.size := Ext.lt hb0
      have hm60 : m ≤ 60 := by omega
      have HX := Lib.hid (H.out.mono HE.out)
      obtain ⟨B0, hB⟩ : ∃ B, w.heap.size = B := ⟨_, rfl⟩
      rw [hB] at hb0 hb1 hs2 ⊢
      clear hB hlt
      have HOA := Lib.hid ((World.ownsRow_lit (base := w1.heap.size) (e := 3) (size := 1) w1 #[] 0 (Nat.le_refl _) (by decide) rfl).drew)
      have HOB := Lib.hid (((World.ownsRow_lit (base := w1.heap.size) (e := 3) (size := 1) w1 #[] 0 (Nat.le_refl _) (by decide) rfl).alloc (.cells #[.int .i64 k] 3)).drew)
      have HOC : Hid (((w1.alloc (.cells #[.int .i64 k] 3)).alloc (.cells #[] 3)).drew.ownsRow w1.heap.size 3 1 (.slice (some ⟨w1.heap.size + 1, 0, none⟩) 0 0) 0 []) := by
        have := (World.ownsRow_lit (base := w1.heap.size) (e := 3) (size := 1) (w1.alloc (.cells #[.int .i64 k] 3)) #[] 0 (by simp) (by decide) rfl).drew
        rw [show (w1.alloc (.cells #[.int .i64 k] 3)).heap.size = w1.heap.size + 1 by simp] at this
        exact this
      have HRB : Hid (Row ((w1.alloc (.cells #[] 3)).alloc (.cells #[.int .i64 k] 3)).drew (.slice (some ⟨w1.heap.size + 1, 0, none⟩) 1 1) 1 [.int .i64 k]) := by
        have := (Row.lit (w := w1.alloc (.cells #[] 3)) 3 (.int .i64 k)).drew
        rw [show (w1.alloc (.cells #[] 3)).heap.size = w1.heap.size + 1 by simp] at this
        exact this
      have HEA := Lib.hid (((Ext.refl w1).alloc (.cells #[] 3)).drew)
      have HEB := Lib.hid ((((Ext.refl w1).alloc (.cells #[] 3)).alloc (.cells #[.int .i64 k] 3)).drew)
      have HEC := Lib.hid ((((Ext.refl w1).alloc (.cells #[.int .i64 k] 3)).alloc (.cells #[] 3)).drew)
      go_region_held3 (fun w' => w'.cell? ⟨B0, 0, none⟩ = some (.int .i64 f) ∧ w'.cell? ⟨B0, 1, none⟩ = some (.int .i64 n))
            (first
              | go_keep
              | (exact ⟨(Ext.of HB3.out).cell hb0, (Ext.of HB3.out).cell hb1⟩)
              | (exact ⟨((Ext.of HB3.out).alloc _).cell hb0, ((Ext.of HB3.out).alloc _).cell hb1⟩)
              | (exact ⟨(Ext.of HB4.out).cell hb0, (Ext.of HB4.out).cell hb1⟩)
              | (exact ⟨((Ext.of HB4.out).trans hE5).cell hb0, ((Ext.of HB4.out).trans hE5).cell hb1⟩))
            (first
              | (refine step_append_row (by rfl) (.tmp 25) (.tmp 26) 26 (by rfl) w1.heap.size 3 Try.underlying26 info_int rfl (by decide) (by rfl) HOA.out (xv := .slice a m c) (by rfl) (HX.out.mono HEA.out) (by simp [ints_len]) (ints_one L) (by rw [← HM.out]; unfold maxLen; omega) (by rw [← HM.out]; omega) (by simp) ?_; intro v3 w3 hown3 hg3; have H3 := Lib.hid hown3; have HB3 := Lib.hid (grown_below HEA.out HOA.out (Nat.le_refl _) (by simp) hg3); have HR3 := Lib.hid (Row.lit (w := w3) 3 (.int .i64 k)); have H3' := Lib.hid (hown3.alloc (.cells #[.int .i64 k] 3)); have HB3' := Lib.hid ((Ext.of HB3.out).alloc (.cells #[.int .i64 k] 3)); clear hown3 hg3)
              | (refine step_append_row (by rfl) (.tmp 25) (.tmp 26) 26 (by rfl) w1.heap.size 3 Try.underlying26 info_int rfl (by decide) (by rfl) HOB.out (xv := .slice a m c) (by rfl) (HX.out.mono HEB.out) (by simp [ints_len]) (ints_one L) (by rw [← HM.out]; unfold maxLen; omega) (by rw [← HM.out]; omega) (by simp; omega) ?_; intro v3 w3 hown3 hg3; have H3' := Lib.hid hown3; have HB3 := Lib.hid (grown_below HEB.out HOB.out (Nat.le_refl _) (by simp; omega) hg3); have HB3' := HB3; have HR3 := Lib.hid (Row.grown HRB.out hg3 (by simp [Value.ownBlock])); clear hown3 hg3)
              | (refine step_append_row (by rfl) (.tmp 25) (.tmp 26) 26 (by rfl) w1.heap.size 3 Try.underlying26 info_int rfl (by decide) (by rfl) HOC.out (xv := .slice a m c) (by rfl) (HX.out.mono HEC.out) (by simp [ints_len]) (ints_one L) (by rw [← HM.out]; unfold maxLen; omega) (by rw [← HM.out]; omega) (by simp; omega) ?_; intro v3 w3 hown3 hg3; have H3' := Lib.hid hown3; have HB3 := Lib.hid (grown_below HEC.out HOC.out (Nat.le_refl _) (by simp; omega) hg3); have HB3' := HB3; have HR3 := Lib.hid (Row.grown ((Row.lit (w := w1) 3 (.int .i64 k)).mono (((Ext.refl _).alloc (.cells #[] 3)).drew)) hg3 (by simp [Value.ownBlock])); clear hown3 hg3)
              | (refine step_append_row (by rfl) (.tmp 27) (.tmp 29) 26 (by rfl) w1.heap.size 3 Try.underlying26 info_int rfl (by decide) (v := v3) (by rfl) H3'.out (by rfl) HR3.out (by simp) (by simp [Value.oneCell']) (by rw [← HM.out]; unfold maxLen; omega) (by rw [← HM.out]; omega) HB3'.out.size ?_; intro v4 w4 hown4 hg4; have H4 := Lib.hid hown4; have HB4 := Lib.hid (grown_below HB3'.out H3'.out (Nat.le_refl _) HB3'.out.size hg4); clear hown4 hg4)
              | (go_at_call 12; refine (choose_any _ _ _ (L ++ [k]) _ (added_row H4.out)).mono ?_; rintro e w5 ⟨x, rfl, hE5, rfl⟩))
      all_goals
        have HF := Lib.hid ((Ext.of HB4.out).trans hE5)
        have hc0 := HF.out.cell hb0
        have hc1 := HF.out.cell hb1
        have HI5 := Lib.hid (HX.out.mono HF.out)
        have HD := Lib.hid (choose_added f n L k (fun e => by have := HM.out; rw [e] at this; simp at this; omega))
        clear hb0 hb1 HOA HOB HOC HRB HEA HEB HEC HB4 hE5 H4
        generalize Flow.choose f n (L ++ [k]) = q at *
        by_cases hq : q = k
        · have hq' : (q == k) = true := by simp [hq]
          clear hq HD
          go_wp2_with fail
          go_ret
          exact ⟨_, rfl, HE.out.trans HF.out, rfl⟩
        · have hq' : (q == k) = false := by simp [hq]
          obtain rfl : q = Flow.choose f n L := HD.out.resolve_left hq
          clear hq HD
          go_wp2_with fail
          refine (choose_any _ _ _ L _ HI5.out).mono ?_
          rintro e w6 ⟨x, rfl, hE6, rfl⟩
          generalize Flow.choose f n L = q at *
          go_wp2_with fail
          go_ret
          exact ⟨_, rfl, HE.out.trans (HF.out.trans hE6), rfl⟩

set_option maxRecDepth 100000 in
theorem lifted (os : Os) (started : os.Started) (H : Type) (enc : TypeId × Value → H) :
    ReturnsInHanded {} Try.checked os 7 .any (Rows.flowhashAddedSpec.pre6 enc Try.prog Try.f7 Rows.flowhashAddedRow.domain false) (Rows.flowhashAddedSpec.post enc Try.prog Try.f7 false true false false) := by
  refine returnsInHanded_of_change (C := Try.checked) own started (by kernel_rfl) Try.func7
    (ChangeSpec.witness6 (enc := enc) (C := Try.checked) false ⟨#[], #[.agg #[.int .i64 0, .int .i64 0], .slice none 0 0, .int .i64 0], []⟩ 8 (by kernel_rfl) (by kernel_rfl) (by kernel_rfl) (by kernel_rfl)) ?_
  intro W base args ds gs before hval0 hW hcnd _
  have hval : ∀ (j : Nat) t v, Try.f7.params[j]? = some t → args[j]? = some v → Value.okWide Try.prog W .any base t v := hval0
  have hW' := hW
  obtain ⟨p, q, hA0, hV, rfl, hfz, hnd⟩ := hW
  have hA : DataW.TrodAll enc Try.prog W 0 (fun _ => true) true Try.f7.params.toList args.toList ds p := hA0
  rw [Try.params7] at hA hval
  obtain ⟨v0, vs0, d0, ds0, p0, q0, hargs, rfl, rfl, h0, r0⟩ := trodAll_cons hA
  obtain ⟨v1, vs1, d1, ds1, p1, q1, rfl, rfl, rfl, h1, r1⟩ := trodAll_cons r0
  obtain ⟨v2, vs2, d2, ds2, p2, q2, rfl, rfl, rfl, h2, r2⟩ := trodAll_cons r1
  obtain ⟨rfl, rfl, rfl⟩ := trodAll_nil r2
  obtain rfl : args = #[v0, v1, v2] := by cases args; simp_all
  obtain ⟨rfl, rfl⟩ := trodVars_none hV
  have lt0 := lt_of h0
  obtain ⟨f, n, rfl, wf, wn⟩ := flow_of (hval 0 30 v0 rfl rfl) h0
  have lt1 := lt_of h1
  obtain ⟨L, hI, _⟩ := ints_of (hval 1 26 v1 rfl rfl) h1
  have lt2 := lt_of h2
  obtain ⟨k, rfl, wk⟩ := int_of (hval 2 3 v2 rfl rfl) h2
  clear hA0 hval0
  refine (walk f n k v1 L W hI).mono fun e W' ⟨x, he, bel, hx⟩ => ?_
  subst hx
  subst he
  exact ⟨_, rfl, _, _, _, [], _, [], hW', trodAll_mk1 (shut_bool Try.underlying4 _), (trodAll_cons_mk (Below.trod laidOut (by kernel_rfl) (of_decide_eq_true (by kernel_rfl)) h0 bel lt0) (trodAll_cons_mk (Below.trod laidOut (by kernel_rfl) (of_decide_eq_true (by kernel_rfl)) h1 bel lt1) (trodAll_cons_mk (Below.trod laidOut (by kernel_rfl) (of_decide_eq_true (by kernel_rfl)) h2 bel lt2) trodAll_mk0))), rfl, bel.frame _, fun h => by cases h⟩

theorem over : Rows.flowhashAddedRow.holds Try.pinned (OpenSpec.ofChange Rows.flowhashAddedSpec) :=
  OpenClaim.holds_of_wide 7 Try.f7 rfl rfl rfl rfl rfl rfl rfl ⟨rfl, rfl, rfl, rfl, rfl⟩ rfl rfl rfl rfl rfl (by kernel_rfl) Try.func7 (by kernel_rfl)
    (of_decide_eq_true (by kernel_rfl)) (by unfold Func.isWrapper; first | (rw [if_pos (by decide +kernel)]; kernel_rfl) | (rw [if_neg (by decide +kernel)]; exact ⟨rfl, rfl⟩))
    (fun os started H enc _ => lifted os started H enc)

theorem proved : Rows.FlowhashAddedSaid := over

end Go.Proofs.Ytcieillicpbebaa.flowhashAdded
