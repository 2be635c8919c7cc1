/- FlowhashOrder returns true for every input: the choice depends neither on the order nor on repetitions. No conditions. -/
import Derived.Test.YtcieillicpbebaaFlowOpen
import Derived.Test.YtcieillicpbebaaFlowMax
import Derived.Deep.RegionHeld3
namespace Go.Proofs.Ytcieillicpbebaa.flowhashOrder
open Go.ChangeShapes Go.WideShapes Go.ChangeAt Go.RowKit
open Flow Reg Mem
set_option linter.unusedVariables false

theorem info_int : (Try.prog.info? 3).map (fun i => (i.zero, i.size, i.bytes)) = some (some (.int .i64 0), 1, 8) := by kernel_rfl
theorem size_int (w : World) : (sizeOf 3).run Try.prog w = .ok 1 w := by kernel_rfl

set_option maxHeartbeats 1000000 in
theorem walk (f n k : Int) (v : Value) (L : List Int) (w : World) (h : Ints w v L) : Calls Try.prog 5 #[.agg #[.int .i64 f, .int .i64 n], v, .int .i64 k] w (Ret (fun v _ => v = .bool true) w) := by
  obtain ⟨a, m, c, rfl, hm⟩ : ∃ a m c, v = .slice a m c ∧ m = L.length := by
    rcases h.cases with ⟨rfl, a, c, rfl, _⟩ | ⟨_, b, off, c, rfl, _⟩
    · exact ⟨_, _, _, rfl, rfl⟩
    · exact ⟨_, _, _, rfl, rfl⟩
  have H := Lib.hid h
  have HM := Lib.hid hm
  clear h hm
  by_cases h60 : (60 : Int) < (m : Int)
  · go_enter Try.func5, Try.ntmps5
    go_wp2_with fail
    refine (awake_any _).mono ?_
    rintro e w1 ⟨x, rfl, hE1, rfl⟩
    go_wp2_with fail
    refine (awake_any _).mono ?_
    rintro e w2 ⟨x, rfl, hE2, rfl⟩
    go_wp2_with fail
    go_ret
    exact ⟨_, rfl, ((Ext.refl w).alloc _).trans (hE1.trans hE2), rfl⟩
  · by_cases hk0 : k < 0
    · go_enter Try.func5, Try.ntmps5
      go_wp2_with fail
      refine (awake_any _).mono ?_
      rintro e w1 ⟨x, rfl, hE1, rfl⟩
      go_wp2_with fail
      refine (awake_any _).mono ?_
      rintro e w2 ⟨x, rfl, hE2, rfl⟩
      go_wp2_with fail
      go_ret
      exact ⟨_, rfl, ((Ext.refl w).alloc _).trans (hE1.trans hE2), rfl⟩
    · by_cases hkm : (m : Int) < k
      · go_enter Try.func5, Try.ntmps5
        go_wp2_with fail
        refine (awake_any _).mono ?_
        rintro e w1 ⟨x, rfl, hE1, rfl⟩
        go_wp2_with fail
        refine (awake_any _).mono ?_
        rintro e w2 ⟨x, rfl, hE2, rfl⟩
        go_wp2_with fail
        go_ret
        exact ⟨_, rfl, ((Ext.refl w).alloc _).trans (hE1.trans hE2), rfl⟩
      · obtain ⟨k, rfl⟩ := Int.eq_ofNat_of_zero_le (by omega : 0 ≤ k)
        have hrun := run_lowOf (P := Try.prog) .i64 k Try.underlying26 size_int H.out (by rw [← HM.out]; omega)
        have hlow := fun w' (h : Ints w' (.slice a m c) L) => Row.low (size := 1) k h (by simp [ints_len]) (by rw [← HM.out]; omega)
        generalize lowOf 1 k (.slice a m c) = V at *
        have HL := Lib.hid hlow
        clear hlow
        go_enter Try.func5, Try.ntmps5
        go_wp2_with fail
        refine (awake_any _).mono ?_
        rintro e w1 ⟨x, rfl, hE1, rfl⟩
        have hb0 : w1.cell? ⟨w.heap.size, 0, none⟩ = some (.int .i64 f) := hE1.cell (by simp [go_sem])
        have hb1 : w1.cell? ⟨w.heap.size, 1, none⟩ = some (.int .i64 n) := hE1.cell (by simp [go_sem])
        have hlt : w.heap.size < w1.heap.size := by have := hE1.size; simp at this; omega
        have HE := Lib.hid (show Ext w w1 from ((Ext.refl w).alloc _).trans hE1)
        clear hE1
        have hown1 : (w1.alloc (.cells #[] 3)).ownsRow w1.heap.size 3 1 (.slice (some ⟨w1.heap.size, 0, none⟩) 0 0) 0 [] := World.ownsRow_lit w1 #[] 0 (Nat.le_refl _) (by decide) rfl
        have H1 := Lib.hid hown1
        clear hown1
        have hm60 : m ≤ 60 := by omega
        have HEa := Lib.hid (HE.out.alloc (.cells #[] 3))
        have HBa := Lib.hid (show Below w1.heap.size w1 (w1.alloc (.cells #[] 3)) from (Below.refl _ _).alloc (Nat.le_refl _) _)
        have HB1 := HBa
        have hwb : w.heap.size ≤ w1.heap.size := by omega
        go_wp2_with (at_builtin; refine wpList_append_row rfl (.tmp 26) (.tmp 29) 26 rfl w1.heap.size 3 Try.underlying26 info_int rfl (by decide) (v := .slice (some ⟨w1.heap.size, 0, none⟩) 0 0) rfl H1.out (xv := V) rfl (HL.out _ (H.out.mono HEa.out)) (by simp [ints_len]) (fun u hu => ints_one L u (List.mem_of_mem_drop hu)) (by rw [← HM.out]; unfold maxLen; omega) (by rw [← HM.out]; omega) (by simp) ?_)
        intro v2 w2 hown2 hg2
        have H2 := Lib.hid hown2
        have HB2 := Lib.hid (grown_below HB1.out H1.out (Nat.le_refl _) (by simp) hg2)
        have hs2 : w1.heap.size ≤ w2.heap.size := by have := hg2.size; simp at this; omega
        clear hown2 hg2
        go_wp2_with (at_builtin; refine wpList_append_row rfl (.tmp 30) (.tmp 31) 26 rfl w1.heap.size 3 Try.underlying26 info_int rfl (by decide) (v := v2) rfl H2.out (xv := .slice a m c) rfl (Row.mono H.out (HE.out.trans (Ext.of HB2.out))) (by simp [ints_len]) (ints_one L) (by rw [← HM.out]; unfold maxLen; omega) (by rw [← HM.out]; omega) hs2 ?_)
        intro v3 w3 hown3 hg3
        have HI3 := Lib.hid (show Ints w3 v3 (L.drop k ++ L) from by
          have := Row.owns hown3
          try simp only [Nat.zero_add] at this
          try simp only [List.nil_append] at this
          try simp only [Nat.mul_one] at this
          unfold Ints
          rw [show (L.drop k ++ L).length = L.length - k + L.length by simp, ← ints_append]
          rw [show ints (L.drop k) = (ints L).drop k by simp [ints]]
          exact this)
        have HB3 := Lib.hid (grown_below HB2.out H2.out (Nat.le_refl _) (by omega) hg3)
        clear hown3 hg3
        go_wp2_with fail
        have hc0 := (Ext.of HB3.out).cell hb0
        have hc1 := (Ext.of HB3.out).cell hb1
        have hI := H.out.mono (HE.out.trans (Ext.of HB3.out))
        have hI3 := HI3.out
        have HF := Lib.hid (HE.out.trans (Ext.of HB3.out))
        obtain ⟨B0, hB⟩ : ∃ B, w.heap.size = B := ⟨_, rfl⟩
        rw [hB] at hc0 hc1 ⊢
        clear hB
        refine Reg.wp_region_abs (fun w => (w.cell? ⟨B0, 0, none⟩ = some (.int .i64 f)) ∧ (w.cell? ⟨B0, 1, none⟩ = some (.int .i64 n)) ∧ (Ints w (.slice a m c) L) ∧ (Ints w v3 (L.drop k ++ L))) [33, 34, 35, 36, 37, 38, 39, 40, 41, 42, 43, 44, 45, 6] (fun w w' hE h => ⟨hE.cell h.1, hE.cell h.2.1, h.2.2.1.mono hE, h.2.2.2.mono hE⟩) (⟨by assumption, by assumption, by assumption, by assumption⟩) (by kernel_rfl) (by kernel_rfl) (by kernel_rfl) ?_
        refine Reg.wpAbs_ex ?_
        apply Exists.intro
        refine ⟨?_, ?_⟩
        · intro ρ w₁ hρ hC hs
          have e3 := hs 3 (by decide)
          have hc := hρ.const
          have hf := hρ.func
          have hg := hρ.glob
          clear hs hρ
          change ρ (.tmp 3) = _ at e3
          obtain ⟨hE, ⟨hS1, hS2, hS3, hS4⟩⟩ := hC
          refine Reg.step_plain rfl ?_
          clear hf
          go_simp
          exact ⟨Reg.Ext.refl _, rfl⟩
        refine Reg.wpAbs_ex ?_
        apply Exists.intro
        refine ⟨?_, ?_⟩
        · intro ρ w₁ hρ hC hs
          have e33 := hs 33 (by decide)
          have hc := hρ.const
          have hf := hρ.func
          have hg := hρ.glob
          clear hs hρ
          change ρ (.tmp 33) = _ at e33
          obtain ⟨hE, ⟨hS1, hS2, hS3, hS4⟩⟩ := hC
          refine Reg.step_plain rfl ?_
          clear hf
          go_simp
          exact ⟨Reg.Ext.refl _, rfl⟩
        refine Reg.wpAbs_ex ?_
        apply Exists.intro
        refine ⟨?_, ?_⟩
        · intro ρ w₁ hρ hC hs
          have e3 := hs 3 (by decide)
          have hc := hρ.const
          have hf := hρ.func
          have hg := hρ.glob
          clear hs hρ
          change ρ (.tmp 3) = _ at e3
          obtain ⟨hE, ⟨hS1, hS2, hS3, hS4⟩⟩ := hC
          refine Reg.step_plain rfl ?_
          clear hf
          go_simp
          exact ⟨Reg.Ext.refl _, rfl⟩
        refine Reg.wpAbs_ex ?_
        apply Exists.intro
        refine ⟨?_, ?_⟩
        · intro ρ w₁ hρ hC hs
          have e35 := hs 35 (by decide)
          have hc := hρ.const
          have hf := hρ.func
          have hg := hρ.glob
          clear hs hρ
          change ρ (.tmp 35) = _ at e35
          obtain ⟨hE, ⟨hS1, hS2, hS3, hS4⟩⟩ := hC
          refine Reg.step_plain rfl ?_
          clear hf
          go_simp
          exact ⟨Reg.Ext.refl _, rfl⟩
        refine Reg.wpAbs_ex ?_
        apply Exists.intro
        refine ⟨?_, ?_⟩
        · intro ρ w₁ hρ hC hs
          have e1 := hs 1 (by decide)
          have hc := hρ.const
          have hf := hρ.func
          have hg := hρ.glob
          clear hs hρ
          change ρ (.tmp 1) = _ at e1
          obtain ⟨hE, ⟨hS1, hS2, hS3, hS4⟩⟩ := hC
          refine Reg.step_plain rfl ?_
          clear hf
          go_simp
          exact ⟨Reg.Ext.refl _, rfl⟩
        refine Reg.wpAbs_ex ?_
        apply Exists.intro
        refine ⟨?_, ?_⟩
        · intro ρ w₁ hρ hC hs
          have e34 := hs 34 (by decide)
          have e36 := hs 36 (by decide)
          have e37 := hs 37 (by decide)
          have hc := hρ.const
          have hf := hρ.func
          have hg := hρ.glob
          clear hs hρ
          change ρ (.tmp 34) = _ at e34
          change ρ (.tmp 36) = _ at e36
          change ρ (.tmp 37) = _ at e37
          obtain ⟨hE, ⟨hS1, hS2, hS3, hS4⟩⟩ := hC
          refine Reg.step_plain rfl ?_
          rw [Reg.execOp_callR hf]
          clear hf
          go_simp
          exact ⟨Reg.Ext.refl _, choose_any _ _ _ L _ hS3⟩
        refine Reg.wpAbs_ex ?_
        apply Exists.intro
        refine ⟨?_, ?_⟩
        · intro ρ w₁ hρ hC hs
          have e3 := hs 3 (by decide)
          have hc := hρ.const
          have hf := hρ.func
          have hg := hρ.glob
          clear hs hρ
          change ρ (.tmp 3) = _ at e3
          obtain ⟨hE, ⟨hS1, hS2, hS3, hS4⟩⟩ := hC
          refine Reg.step_plain rfl ?_
          clear hf
          go_simp
          exact ⟨Reg.Ext.refl _, rfl⟩
        refine Reg.wpAbs_ex ?_
        apply Exists.intro
        refine ⟨?_, ?_⟩
        · intro ρ w₁ hρ hC hs
          have e39 := hs 39 (by decide)
          have hc := hρ.const
          have hf := hρ.func
          have hg := hρ.glob
          clear hs hρ
          change ρ (.tmp 39) = _ at e39
          obtain ⟨hE, ⟨hS1, hS2, hS3, hS4⟩⟩ := hC
          refine Reg.step_plain rfl ?_
          clear hf
          go_simp
          exact ⟨Reg.Ext.refl _, rfl⟩
        refine Reg.wpAbs_ex ?_
        apply Exists.intro
        refine ⟨?_, ?_⟩
        · intro ρ w₁ hρ hC hs
          have e3 := hs 3 (by decide)
          have hc := hρ.const
          have hf := hρ.func
          have hg := hρ.glob
          clear hs hρ
          change ρ (.tmp 3) = _ at e3
          obtain ⟨hE, ⟨hS1, hS2, hS3, hS4⟩⟩ := hC
          refine Reg.step_plain rfl ?_
          clear hf
          go_simp
          exact ⟨Reg.Ext.refl _, rfl⟩
        refine Reg.wpAbs_ex ?_
        apply Exists.intro
        refine ⟨?_, ?_⟩
        · intro ρ w₁ hρ hC hs
          have e41 := hs 41 (by decide)
          have hc := hρ.const
          have hf := hρ.func
          have hg := hρ.glob
          clear hs hρ
          change ρ (.tmp 41) = _ at e41
          obtain ⟨hE, ⟨hS1, hS2, hS3, hS4⟩⟩ := hC
          refine Reg.step_plain rfl ?_
          clear hf
          go_simp
          exact ⟨Reg.Ext.refl _, rfl⟩
        refine Reg.wpAbs_ex ?_
        apply Exists.intro
        refine ⟨?_, ?_⟩
        · intro ρ w₁ hρ hC hs
          have e7 := hs 7 (by decide)
          have hc := hρ.const
          have hf := hρ.func
          have hg := hρ.glob
          clear hs hρ
          change ρ (.tmp 7) = _ at e7
          obtain ⟨hE, ⟨hS1, hS2, hS3, hS4⟩⟩ := hC
          refine Reg.step_plain rfl ?_
          clear hf
          go_simp
          exact ⟨Reg.Ext.refl _, rfl⟩
        refine Reg.wpAbs_ex ?_
        apply Exists.intro
        refine ⟨?_, ?_⟩
        · intro ρ w₁ hρ hC hs
          have e40 := hs 40 (by decide)
          have e42 := hs 42 (by decide)
          have e43 := hs 43 (by decide)
          have hc := hρ.const
          have hf := hρ.func
          have hg := hρ.glob
          clear hs hρ
          change ρ (.tmp 40) = _ at e40
          change ρ (.tmp 42) = _ at e42
          change ρ (.tmp 43) = _ at e43
          obtain ⟨hE, ⟨hS1, hS2, hS3, hS4⟩⟩ := hC
          refine Reg.step_plain rfl ?_
          rw [Reg.execOp_callR hf]
          clear hf
          go_simp
          exact ⟨Reg.Ext.refl _, (by have := choose_any f n _ _ w₁ hS4; rw [choose_turned] at this; exact this)⟩
        refine Reg.wpAbs_ex ?_
        apply Exists.intro
        refine ⟨?_, ?_⟩
        · intro ρ w₁ hρ hC hs
          have e38 := hs 38 (by decide)
          have e44 := hs 44 (by decide)
          have hc := hρ.const
          have hf := hρ.func
          have hg := hρ.glob
          clear hs hρ
          change ρ (.tmp 38) = _ at e38
          change ρ (.tmp 44) = _ at e44
          obtain ⟨hE, ⟨hS1, hS2, hS3, hS4⟩⟩ := hC
          refine Reg.step_plain rfl ?_
          clear hf
          go_simp
          exact ⟨Reg.Ext.refl _, rfl⟩
        refine Reg.wpAbs_ex ?_
        apply Exists.intro
        refine ⟨?_, ?_⟩
        · intro ρ w₁ hρ hC hs
          have e45 := hs 45 (by decide)
          have hc := hρ.const
          have hf := hρ.func
          have hg := hρ.glob
          clear hs hρ
          change ρ (.tmp 45) = _ at e45
          obtain ⟨hE, ⟨hS1, hS2, hS3, hS4⟩⟩ := hC
          refine Reg.step_plain rfl ?_
          clear hf
          go_simp
          exact ⟨Reg.Ext.refl _, rfl⟩
        refine Reg.wpAbs_nil ?_
        intro w₁ hE hS
        obtain ⟨hS1, hS2, hS3, hS4⟩ := hS
        refine Reg.wpFin_fix _ rfl ?_
        refine Reg.wpFin_fix _ rfl ?_
        refine Reg.wpFin_fix _ rfl ?_
        refine Reg.wpFin_fix _ rfl ?_
        refine Reg.wpFin_fix _ rfl ?_
        refine Reg.wpFin_fix _ rfl ?_
        refine Reg.wpFin_fix _ rfl ?_
        refine Reg.wpFin_fix _ rfl ?_
        refine Reg.wpFin_fix _ rfl ?_
        refine Reg.wpFin_fix _ rfl ?_
        refine Reg.wpFin_fix _ rfl ?_
        refine Reg.wpFin_fix _ rfl ?_
        refine Reg.wpFin_fix _ rfl ?_
        refine Reg.wpFin_fix _ rfl ?_
        show _
        simp only [Reg.wpFin, List.setIfInBounds_toArray, List.set_cons_succ, List.set_cons_zero]
        go_wp2_with fail
        go_ret
        exact ⟨_, rfl, HF.out.trans hE, rfl⟩

set_option maxRecDepth 100000 in
theorem lifted (os : Os) (started : os.Started) (H : Type) (enc : TypeId × Value → H) :
    ReturnsInHanded {} Try.checked os 5 .any (Rows.flowhashOrderSpec.pre6 enc Try.prog Try.f5 Rows.flowhashOrderRow.domain false) (Rows.flowhashOrderSpec.post enc Try.prog Try.f5 false true false false) := by
  refine returnsInHanded_of_change (C := Try.checked) own started (by kernel_rfl) Try.func5
    (ChangeSpec.witness6 (enc := enc) (C := Try.checked) false ⟨#[], #[.agg #[.int .i64 0, .int .i64 0], .slice none 0 0, .int .i64 0], []⟩ 8 (by kernel_rfl) (by kernel_rfl) (by kernel_rfl) (by kernel_rfl)) ?_
  intro W base args ds gs before hval0 hW hcnd _
  have hval : ∀ (j : Nat) t v, Try.f5.params[j]? = some t → args[j]? = some v → Value.okWide Try.prog W .any base t v := hval0
  have hW' := hW
  obtain ⟨p, q, hA0, hV, rfl, hfz, hnd⟩ := hW
  have hA : DataW.TrodAll enc Try.prog W 0 (fun _ => true) true Try.f5.params.toList args.toList ds p := hA0
  rw [Try.params5] at hA hval
  obtain ⟨v0, vs0, d0, ds0, p0, q0, hargs, rfl, rfl, h0, r0⟩ := trodAll_cons hA
  obtain ⟨v1, vs1, d1, ds1, p1, q1, rfl, rfl, rfl, h1, r1⟩ := trodAll_cons r0
  obtain ⟨v2, vs2, d2, ds2, p2, q2, rfl, rfl, rfl, h2, r2⟩ := trodAll_cons r1
  obtain ⟨rfl, rfl, rfl⟩ := trodAll_nil r2
  obtain rfl : args = #[v0, v1, v2] := by cases args; simp_all
  obtain ⟨rfl, rfl⟩ := trodVars_none hV
  have lt0 := lt_of h0
  obtain ⟨f, n, rfl, wf, wn⟩ := flow_of (hval 0 30 v0 rfl rfl) h0
  have lt1 := lt_of h1
  obtain ⟨L, hI, _⟩ := ints_of (hval 1 26 v1 rfl rfl) h1
  have lt2 := lt_of h2
  obtain ⟨k, rfl, wk⟩ := int_of (hval 2 3 v2 rfl rfl) h2
  clear hA0 hval0
  refine (walk f n k v1 L W hI).mono fun e W' ⟨x, he, bel, hx⟩ => ?_
  subst hx
  subst he
  exact ⟨_, rfl, _, _, _, [], _, [], hW', trodAll_mk1 (shut_bool Try.underlying4 _), (trodAll_cons_mk (Below.trod laidOut (by kernel_rfl) (of_decide_eq_true (by kernel_rfl)) h0 bel lt0) (trodAll_cons_mk (Below.trod laidOut (by kernel_rfl) (of_decide_eq_true (by kernel_rfl)) h1 bel lt1) (trodAll_cons_mk (Below.trod laidOut (by kernel_rfl) (of_decide_eq_true (by kernel_rfl)) h2 bel lt2) trodAll_mk0))), rfl, bel.frame _, fun h => by cases h⟩

theorem over : Rows.flowhashOrderRow.holds Try.pinned (OpenSpec.ofChange Rows.flowhashOrderSpec) :=
  OpenClaim.holds_of_wide 5 Try.f5 rfl rfl rfl rfl rfl rfl rfl ⟨rfl, rfl, rfl, rfl, rfl⟩ rfl rfl rfl rfl rfl (by kernel_rfl) Try.func5 (by kernel_rfl)
    (of_decide_eq_true (by kernel_rfl)) (by unfold Func.isWrapper; first | (rw [if_pos (by decide +kernel)]; kernel_rfl) | (rw [if_neg (by decide +kernel)]; exact ⟨rfl, rfl⟩))
    (fun os started H enc _ => lifted os started H enc)

theorem proved : Rows.FlowhashOrderSaid := over

end Go.Proofs.Ytcieillicpbebaa.flowhashOrder
