/- FlowhashDistinct returns true for every input: different arcs, and different flows, have different weights. No conditions. -/
import Derived.Test.YtcieillicpbebaaFlowOpen
import Derived.Test.YtcieillicpbebaaFlowMax
import Derived.Deep.RegionHeld3
namespace Go.Proofs.Ytcieillicpbebaa.flowhashDistinct
open Go.ChangeShapes Go.WideShapes Go.ChangeAt Go.RowKit
open Flow Reg Mem
set_option linter.unusedVariables false

set_option maxHeartbeats 1000000 in
theorem walk (f n a b : Int) (ha : -9223372036854775808 ≤ a ∧ a ≤ 9223372036854775807) (hb : -9223372036854775808 ≤ b ∧ b ≤ 9223372036854775807) (w : World) : Calls Try.prog 8 #[.agg #[.int .i64 f, .int .i64 n], .int .i64 a, .int .i64 b] w (Ret (fun v _ => v = .bool true) w) := by
  by_cases hab : a = b
  · subst hab
    clear ha hb
    go_enter Try.func8, Try.ntmps8
    go_wp2_with fail
    refine (awake_any _).mono ?_
    rintro e w1 ⟨x, rfl, hE1, rfl⟩
    have hb0 : w1.cell? ⟨w.heap.size, 0, none⟩ = some (.int .i64 f) := hE1.cell (by simp [go_sem])
    have hb1 : w1.cell? ⟨w.heap.size, 1, none⟩ = some (.int .i64 n) := hE1.cell (by simp [go_sem])
    obtain ⟨B, hB⟩ : ∃ B, w.heap.size = B := ⟨_, rfl⟩
    rw [hB] at hb0 hb1
    have HE := Lib.hid (show Ext w w1 from ((Ext.refl w).alloc _).trans hE1)
    clear hE1
    go_wp2_with fail
    clear hB
    refine Reg.wp_region_abs (fun w => (w.cell? ⟨B, 0, none⟩ = some (.int .i64 f)) ∧ (w.cell? ⟨B, 1, none⟩ = some (.int .i64 n))) [9, 10, 11, 12, 13, 14, 15, 16, 17, 18, 19, 20, 21, 22, 23, 24, 25, 26, 27, 28, 29, 30, 31, 32, 33, 34, 35, 36, 37, 38, 39, 40, 6] (fun w w' hE h => ⟨hE.cell h.1, hE.cell h.2⟩) (⟨by assumption, by assumption⟩) (by kernel_rfl) (by kernel_rfl) (by kernel_rfl) ?_
    refine Reg.wpAbs_ex ?_
    apply Exists.intro
    refine ⟨?_, ?_⟩
    · intro ρ w₁ hρ hC hs
      have e3 := hs 3 (by decide)
      have hc := hρ.const
      have hf := hρ.func
      have hg := hρ.glob
      clear hs hρ
      change ρ (.tmp 3) = _ at e3
      obtain ⟨hE, ⟨hS1, hS2⟩⟩ := hC
      refine Reg.step_plain rfl ?_
      clear hf
      go_simp
      exact ⟨Reg.Ext.refl _, rfl⟩
    refine Reg.wpAbs_ex ?_
    apply Exists.intro
    refine ⟨?_, ?_⟩
    · intro ρ w₁ hρ hC hs
      have e9 := hs 9 (by decide)
      have hc := hρ.const
      have hf := hρ.func
      have hg := hρ.glob
      clear hs hρ
      change ρ (.tmp 9) = _ at e9
      obtain ⟨hE, ⟨hS1, hS2⟩⟩ := hC
      refine Reg.step_plain rfl ?_
      clear hf
      go_simp
      exact ⟨Reg.Ext.refl _, rfl⟩
    refine Reg.wpAbs_ex ?_
    apply Exists.intro
    refine ⟨?_, ?_⟩
    · intro ρ w₁ hρ hC hs
      have e3 := hs 3 (by decide)
      have hc := hρ.const
      have hf := hρ.func
      have hg := hρ.glob
      clear hs hρ
      change ρ (.tmp 3) = _ at e3
      obtain ⟨hE, ⟨hS1, hS2⟩⟩ := hC
      refine Reg.step_plain rfl ?_
      clear hf
      go_simp
      exact ⟨Reg.Ext.refl _, rfl⟩
    refine Reg.wpAbs_ex ?_
    apply Exists.intro
    refine ⟨?_, ?_⟩
    · intro ρ w₁ hρ hC hs
      have e11 := hs 11 (by decide)
      have hc := hρ.const
      have hf := hρ.func
      have hg := hρ.glob
      clear hs hρ
      change ρ (.tmp 11) = _ at e11
      obtain ⟨hE, ⟨hS1, hS2⟩⟩ := hC
      refine Reg.step_plain rfl ?_
      clear hf
      go_simp
      exact ⟨Reg.Ext.refl _, rfl⟩
    refine Reg.wpAbs_ex ?_
    apply Exists.intro
    refine ⟨?_, ?_⟩
    · intro ρ w₁ hρ hC hs
      have e1 := hs 1 (by decide)
      have hc := hρ.const
      have hf := hρ.func
      have hg := hρ.glob
      clear hs hρ
      change ρ (.tmp 1) = _ at e1
      obtain ⟨hE, ⟨hS1, hS2⟩⟩ := hC
      refine Reg.step_plain rfl ?_
      clear hf
      go_simp
      exact ⟨Reg.Ext.refl _, rfl⟩
    refine Reg.wpAbs_ex ?_
    apply Exists.intro
    refine ⟨?_, ?_⟩
    · intro ρ w₁ hρ hC hs
      have e10 := hs 10 (by decide)
      have e12 := hs 12 (by decide)
      have e13 := hs 13 (by decide)
      have hc := hρ.const
      have hf := hρ.func
      have hg := hρ.glob
      clear hs hρ
      change ρ (.tmp 10) = _ at e10
      change ρ (.tmp 12) = _ at e12
      change ρ (.tmp 13) = _ at e13
      obtain ⟨hE, ⟨hS1, hS2⟩⟩ := hC
      refine Reg.step_plain rfl ?_
      rw [Reg.execOp_callR hf]
      clear hf
      go_simp
      exact ⟨Reg.Ext.refl _, ret_same (weight_any _ _ _ _)⟩
    refine Reg.wpAbs_ex ?_
    apply Exists.intro
    refine ⟨?_, ?_⟩
    · intro ρ w₁ hρ hC hs
      have e3 := hs 3 (by decide)
      have hc := hρ.const
      have hf := hρ.func
      have hg := hρ.glob
      clear hs hρ
      change ρ (.tmp 3) = _ at e3
      obtain ⟨hE, ⟨hS1, hS2⟩⟩ := hC
      refine Reg.step_plain rfl ?_
      clear hf
      go_simp
      exact ⟨Reg.Ext.refl _, rfl⟩
    refine Reg.wpAbs_ex ?_
    apply Exists.intro
    refine ⟨?_, ?_⟩
    · intro ρ w₁ hρ hC hs
      have e15 := hs 15 (by decide)
      have hc := hρ.const
      have hf := hρ.func
      have hg := hρ.glob
      clear hs hρ
      change ρ (.tmp 15) = _ at e15
      obtain ⟨hE, ⟨hS1, hS2⟩⟩ := hC
      refine Reg.step_plain rfl ?_
      clear hf
      go_simp
      exact ⟨Reg.Ext.refl _, rfl⟩
    refine Reg.wpAbs_ex ?_
    apply Exists.intro
    refine ⟨?_, ?_⟩
    · intro ρ w₁ hρ hC hs
      have e3 := hs 3 (by decide)
      have hc := hρ.const
      have hf := hρ.func
      have hg := hρ.glob
      clear hs hρ
      change ρ (.tmp 3) = _ at e3
      obtain ⟨hE, ⟨hS1, hS2⟩⟩ := hC
      refine Reg.step_plain rfl ?_
      clear hf
      go_simp
      exact ⟨Reg.Ext.refl _, rfl⟩
    refine Reg.wpAbs_ex ?_
    apply Exists.intro
    refine ⟨?_, ?_⟩
    · intro ρ w₁ hρ hC hs
      have e17 := hs 17 (by decide)
      have hc := hρ.const
      have hf := hρ.func
      have hg := hρ.glob
      clear hs hρ
      change ρ (.tmp 17) = _ at e17
      obtain ⟨hE, ⟨hS1, hS2⟩⟩ := hC
      refine Reg.step_plain rfl ?_
      clear hf
      go_simp
      exact ⟨Reg.Ext.refl _, rfl⟩
    refine Reg.wpAbs_ex ?_
    apply Exists.intro
    refine ⟨?_, ?_⟩
    · intro ρ w₁ hρ hC hs
      have e2 := hs 2 (by decide)
      have hc := hρ.const
      have hf := hρ.func
      have hg := hρ.glob
      clear hs hρ
      change ρ (.tmp 2) = _ at e2
      obtain ⟨hE, ⟨hS1, hS2⟩⟩ := hC
      refine Reg.step_plain rfl ?_
      clear hf
      go_simp
      exact ⟨Reg.Ext.refl _, rfl⟩
    refine Reg.wpAbs_ex ?_
    apply Exists.intro
    refine ⟨?_, ?_⟩
    · intro ρ w₁ hρ hC hs
      have e16 := hs 16 (by decide)
      have e18 := hs 18 (by decide)
      have e19 := hs 19 (by decide)
      have hc := hρ.const
      have hf := hρ.func
      have hg := hρ.glob
      clear hs hρ
      change ρ (.tmp 16) = _ at e16
      change ρ (.tmp 18) = _ at e18
      change ρ (.tmp 19) = _ at e19
      obtain ⟨hE, ⟨hS1, hS2⟩⟩ := hC
      refine Reg.step_plain rfl ?_
      rw [Reg.execOp_callR hf]
      clear hf
      go_simp
      exact ⟨Reg.Ext.refl _, ret_same (weight_any _ _ _ _)⟩
    refine Reg.wpAbs_ex ?_
    apply Exists.intro
    refine ⟨?_, ?_⟩
    · intro ρ w₁ hρ hC hs
      have e14 := hs 14 (by decide)
      have e20 := hs 20 (by decide)
      have hc := hρ.const
      have hf := hρ.func
      have hg := hρ.glob
      clear hs hρ
      change ρ (.tmp 14) = _ at e14
      change ρ (.tmp 20) = _ at e20
      obtain ⟨hE, ⟨hS1, hS2⟩⟩ := hC
      refine Reg.step_plain rfl ?_
      clear hf
      go_simp
      exact ⟨Reg.Ext.refl _, rfl⟩
    refine Reg.wpAbs_ex ?_
    apply Exists.intro
    refine ⟨?_, ?_⟩
    · intro ρ w₁ hρ hC hs
      have e1 := hs 1 (by decide)
      have hc := hρ.const
      have hf := hρ.func
      have hg := hρ.glob
      clear hs hρ
      change ρ (.tmp 1) = _ at e1
      obtain ⟨hE, ⟨hS1, hS2⟩⟩ := hC
      refine Reg.step_plain rfl ?_
      clear hf
      go_simp
      exact ⟨Reg.Ext.refl _, rfl⟩
    refine Reg.wpAbs_ex ?_
    apply Exists.intro
    refine ⟨?_, ?_⟩
    · intro ρ w₁ hρ hC hs
      have e2 := hs 2 (by decide)
      have hc := hρ.const
      have hf := hρ.func
      have hg := hρ.glob
      clear hs hρ
      change ρ (.tmp 2) = _ at e2
      obtain ⟨hE, ⟨hS1, hS2⟩⟩ := hC
      refine Reg.step_plain rfl ?_
      clear hf
      go_simp
      exact ⟨Reg.Ext.refl _, rfl⟩
    refine Reg.wpAbs_ex ?_
    apply Exists.intro
    refine ⟨?_, ?_⟩
    · intro ρ w₁ hρ hC hs
      have e22 := hs 22 (by decide)
      have e23 := hs 23 (by decide)
      have hc := hρ.const
      have hf := hρ.func
      have hg := hρ.glob
      clear hs hρ
      change ρ (.tmp 22) = _ at e22
      change ρ (.tmp 23) = _ at e23
      obtain ⟨hE, ⟨hS1, hS2⟩⟩ := hC
      refine Reg.step_plain rfl ?_
      clear hf
      go_simp
      exact ⟨Reg.Ext.refl _, rfl⟩
    refine Reg.wpAbs_ex ?_
    apply Exists.intro
    refine ⟨?_, ?_⟩
    · intro ρ w₁ hρ hC hs
      have e21 := hs 21 (by decide)
      have e24 := hs 24 (by decide)
      have hc := hρ.const
      have hf := hρ.func
      have hg := hρ.glob
      clear hs hρ
      change ρ (.tmp 21) = _ at e21
      change ρ (.tmp 24) = _ at e24
      obtain ⟨hE, ⟨hS1, hS2⟩⟩ := hC
      refine Reg.step_plain rfl ?_
      clear hf
      go_simp
      exact ⟨Reg.Ext.refl _, rfl⟩
    refine Reg.wpAbs_ex ?_
    apply Exists.intro
    refine ⟨?_, ?_⟩
    · intro ρ w₁ hρ hC hs
      have e25 := hs 25 (by decide)
      have hc := hρ.const
      have hf := hρ.func
      have hg := hρ.glob
      clear hs hρ
      change ρ (.tmp 25) = _ at e25
      obtain ⟨hE, ⟨hS1, hS2⟩⟩ := hC
      refine Reg.step_plain rfl ?_
      clear hf
      go_simp
      exact ⟨Reg.Ext.refl _, rfl⟩
    refine Reg.wpAbs_ex ?_
    apply Exists.intro
    refine ⟨?_, ?_⟩
    · intro ρ w₁ hρ hC hs
      have e1 := hs 1 (by decide)
      have e26 := hs 26 (by decide)
      have hc := hρ.const
      have hf := hρ.func
      have hg := hρ.glob
      clear hs hρ
      change ρ (.tmp 1) = _ at e1
      change ρ (.tmp 26) = _ at e26
      obtain ⟨hE, ⟨hS1, hS2⟩⟩ := hC
      refine Reg.step_want (t := 26) rfl rfl e26 ?_
      clear hf
      go_simp
      exact ⟨Reg.Ext.refl _, rfl⟩
    refine Reg.wpAbs_ex ?_
    apply Exists.intro
    refine ⟨?_, ?_⟩
    · intro ρ w₁ hρ hC hs
      have e3 := hs 3 (by decide)
      have e26 := hs 26 (by decide)
      have hc := hρ.const
      have hf := hρ.func
      have hg := hρ.glob
      clear hs hρ
      change ρ (.tmp 3) = _ at e3
      change ρ (.tmp 26) = _ at e26
      obtain ⟨hE, ⟨hS1, hS2⟩⟩ := hC
      refine Reg.step_want (t := 26) rfl rfl e26 ?_
      clear hf
      go_simp
      exact ⟨Reg.Ext.refl _, rfl⟩
    refine Reg.wpAbs_ex ?_
    apply Exists.intro
    refine ⟨?_, ?_⟩
    · intro ρ w₁ hρ hC hs
      have e28 := hs 28 (by decide)
      have e26 := hs 26 (by decide)
      have hc := hρ.const
      have hf := hρ.func
      have hg := hρ.glob
      clear hs hρ
      change ρ (.tmp 28) = _ at e28
      change ρ (.tmp 26) = _ at e26
      obtain ⟨hE, ⟨hS1, hS2⟩⟩ := hC
      refine Reg.step_want (t := 26) rfl rfl e26 ?_
      clear hf
      go_simp
      exact ⟨Reg.Ext.refl _, rfl⟩
    refine Reg.wpAbs_ex ?_
    apply Exists.intro
    refine ⟨?_, ?_⟩
    · intro ρ w₁ hρ hC hs
      have e27 := hs 27 (by decide)
      have e29 := hs 29 (by decide)
      have e26 := hs 26 (by decide)
      have hc := hρ.const
      have hf := hρ.func
      have hg := hρ.glob
      clear hs hρ
      change ρ (.tmp 27) = _ at e27
      change ρ (.tmp 29) = _ at e29
      change ρ (.tmp 26) = _ at e26
      obtain ⟨hE, ⟨hS1, hS2⟩⟩ := hC
      refine Reg.step_want (t := 26) rfl rfl e26 ?_
      rw [Reg.execOp_callR hf]
      clear hf
      go_simp
      exact ⟨Reg.Ext.refl _, ret_same (weight_any _ _ _ _)⟩
    refine Reg.wpAbs_ex ?_
    apply Exists.intro
    refine ⟨?_, ?_⟩
    · intro ρ w₁ hρ hC hs
      have e2 := hs 2 (by decide)
      have e26 := hs 26 (by decide)
      have hc := hρ.const
      have hf := hρ.func
      have hg := hρ.glob
      clear hs hρ
      change ρ (.tmp 2) = _ at e2
      change ρ (.tmp 26) = _ at e26
      obtain ⟨hE, ⟨hS1, hS2⟩⟩ := hC
      refine Reg.step_want (t := 26) rfl rfl e26 ?_
      clear hf
      go_simp
      exact ⟨Reg.Ext.refl _, rfl⟩
    refine Reg.wpAbs_ex ?_
    apply Exists.intro
    refine ⟨?_, ?_⟩
    · intro ρ w₁ hρ hC hs
      have e3 := hs 3 (by decide)
      have e26 := hs 26 (by decide)
      have hc := hρ.const
      have hf := hρ.func
      have hg := hρ.glob
      clear hs hρ
      change ρ (.tmp 3) = _ at e3
      change ρ (.tmp 26) = _ at e26
      obtain ⟨hE, ⟨hS1, hS2⟩⟩ := hC
      refine Reg.step_want (t := 26) rfl rfl e26 ?_
      clear hf
      go_simp
      exact ⟨Reg.Ext.refl _, rfl⟩
    refine Reg.wpAbs_ex ?_
    apply Exists.intro
    refine ⟨?_, ?_⟩
    · intro ρ w₁ hρ hC hs
      have e32 := hs 32 (by decide)
      have e26 := hs 26 (by decide)
      have hc := hρ.const
      have hf := hρ.func
      have hg := hρ.glob
      clear hs hρ
      change ρ (.tmp 32) = _ at e32
      change ρ (.tmp 26) = _ at e26
      obtain ⟨hE, ⟨hS1, hS2⟩⟩ := hC
      refine Reg.step_want (t := 26) rfl rfl e26 ?_
      clear hf
      go_simp
      exact ⟨Reg.Ext.refl _, rfl⟩
    refine Reg.wpAbs_ex ?_
    apply Exists.intro
    refine ⟨?_, ?_⟩
    · intro ρ w₁ hρ hC hs
      have e31 := hs 31 (by decide)
      have e33 := hs 33 (by decide)
      have e26 := hs 26 (by decide)
      have hc := hρ.const
      have hf := hρ.func
      have hg := hρ.glob
      clear hs hρ
      change ρ (.tmp 31) = _ at e31
      change ρ (.tmp 33) = _ at e33
      change ρ (.tmp 26) = _ at e26
      obtain ⟨hE, ⟨hS1, hS2⟩⟩ := hC
      refine Reg.step_want (t := 26) rfl rfl e26 ?_
      rw [Reg.execOp_callR hf]
      clear hf
      go_simp
      exact ⟨Reg.Ext.refl _, ret_same (weight_any _ _ _ _)⟩
    refine Reg.wpAbs_ex ?_
    apply Exists.intro
    refine ⟨?_, ?_⟩
    · intro ρ w₁ hρ hC hs
      have e30 := hs 30 (by decide)
      have e34 := hs 34 (by decide)
      have e26 := hs 26 (by decide)
      have hc := hρ.const
      have hf := hρ.func
      have hg := hρ.glob
      clear hs hρ
      change ρ (.tmp 30) = _ at e30
      change ρ (.tmp 34) = _ at e34
      change ρ (.tmp 26) = _ at e26
      obtain ⟨hE, ⟨hS1, hS2⟩⟩ := hC
      refine Reg.step_want (t := 26) rfl rfl e26 ?_
      clear hf
      go_simp
      exact ⟨Reg.Ext.refl _, rfl⟩
    refine Reg.wpAbs_ex ?_
    apply Exists.intro
    refine ⟨?_, ?_⟩
    · intro ρ w₁ hρ hC hs
      have e1 := hs 1 (by decide)
      have e26 := hs 26 (by decide)
      have hc := hρ.const
      have hf := hρ.func
      have hg := hρ.glob
      clear hs hρ
      change ρ (.tmp 1) = _ at e1
      change ρ (.tmp 26) = _ at e26
      obtain ⟨hE, ⟨hS1, hS2⟩⟩ := hC
      refine Reg.step_want (t := 26) rfl rfl e26 ?_
      clear hf
      go_simp
      exact ⟨Reg.Ext.refl _, rfl⟩
    refine Reg.wpAbs_ex ?_
    apply Exists.intro
    refine ⟨?_, ?_⟩
    · intro ρ w₁ hρ hC hs
      have e2 := hs 2 (by decide)
      have e26 := hs 26 (by decide)
      have hc := hρ.const
      have hf := hρ.func
      have hg := hρ.glob
      clear hs hρ
      change ρ (.tmp 2) = _ at e2
      change ρ (.tmp 26) = _ at e26
      obtain ⟨hE, ⟨hS1, hS2⟩⟩ := hC
      refine Reg.step_want (t := 26) rfl rfl e26 ?_
      clear hf
      go_simp
      exact ⟨Reg.Ext.refl _, rfl⟩
    refine Reg.wpAbs_ex ?_
    apply Exists.intro
    refine ⟨?_, ?_⟩
    · intro ρ w₁ hρ hC hs
      have e36 := hs 36 (by decide)
      have e37 := hs 37 (by decide)
      have e26 := hs 26 (by decide)
      have hc := hρ.const
      have hf := hρ.func
      have hg := hρ.glob
      clear hs hρ
      change ρ (.tmp 36) = _ at e36
      change ρ (.tmp 37) = _ at e37
      change ρ (.tmp 26) = _ at e26
      obtain ⟨hE, ⟨hS1, hS2⟩⟩ := hC
      refine Reg.step_want (t := 26) rfl rfl e26 ?_
      clear hf
      go_simp
      exact ⟨Reg.Ext.refl _, rfl⟩
    refine Reg.wpAbs_ex ?_
    apply Exists.intro
    refine ⟨?_, ?_⟩
    · intro ρ w₁ hρ hC hs
      have e35 := hs 35 (by decide)
      have e38 := hs 38 (by decide)
      have e26 := hs 26 (by decide)
      have hc := hρ.const
      have hf := hρ.func
      have hg := hρ.glob
      clear hs hρ
      change ρ (.tmp 35) = _ at e35
      change ρ (.tmp 38) = _ at e38
      change ρ (.tmp 26) = _ at e26
      obtain ⟨hE, ⟨hS1, hS2⟩⟩ := hC
      refine Reg.step_want (t := 26) rfl rfl e26 ?_
      clear hf
      go_simp
      exact ⟨Reg.Ext.refl _, rfl⟩
    refine Reg.wpAbs_ex ?_
    apply Exists.intro
    refine ⟨?_, ?_⟩
    · intro ρ w₁ hρ hC hs
      have e26 := hs 26 (by decide)
      have e39 := hs 39 (by decide)
      have hc := hρ.const
      have hf := hρ.func
      have hg := hρ.glob
      clear hs hρ
      change ρ (.tmp 26) = _ at e26
      change ρ (.tmp 39) = _ at e39
      obtain ⟨hE, ⟨hS1, hS2⟩⟩ := hC
      refine Reg.step_plain rfl ?_
      clear hf
      go_simp
      exact ⟨Reg.Ext.refl _, rfl⟩
    refine Reg.wpAbs_ex ?_
    apply Exists.intro
    refine ⟨?_, ?_⟩
    · intro ρ w₁ hρ hC hs
      have e40 := hs 40 (by decide)
      have hc := hρ.const
      have hf := hρ.func
      have hg := hρ.glob
      clear hs hρ
      change ρ (.tmp 40) = _ at e40
      obtain ⟨hE, ⟨hS1, hS2⟩⟩ := hC
      refine Reg.step_plain rfl ?_
      clear hf
      go_simp
      exact ⟨Reg.Ext.refl _, rfl⟩
    refine Reg.wpAbs_nil ?_
    intro w₁ hE hS
    obtain ⟨hS1, hS2⟩ := hS
    refine Reg.wpFin_fix _ rfl ?_
    refine Reg.wpFin_fix _ rfl ?_
    refine Reg.wpFin_fix _ rfl ?_
    refine Reg.wpFin_fix _ rfl ?_
    refine Reg.wpFin_fix _ rfl ?_
    refine Reg.wpFin_fix _ rfl ?_
    refine Reg.wpFin_fix _ rfl ?_
    refine Reg.wpFin_fix _ rfl ?_
    refine Reg.wpFin_fix _ rfl ?_
    refine Reg.wpFin_fix _ rfl ?_
    refine Reg.wpFin_fix _ rfl ?_
    refine Reg.wpFin_fix _ rfl ?_
    refine Reg.wpFin_fix _ rfl ?_
    refine Reg.wpFin_fix _ rfl ?_
    refine Reg.wpFin_fix _ rfl ?_
    refine Reg.wpFin_fix _ rfl ?_
    refine Reg.wpFin_fix _ rfl ?_
    refine Reg.wpFin_fix _ rfl ?_
    refine Reg.wpFin_fix _ rfl ?_
    refine Reg.wpFin_fix _ rfl ?_
    refine Reg.wpFin_fix _ rfl ?_
    refine Reg.wpFin_fix _ rfl ?_
    refine Reg.wpFin_fix _ rfl ?_
    refine Reg.wpFin_fix _ rfl ?_
    refine Reg.wpFin_fix _ rfl ?_
    refine Reg.wpFin_fix _ rfl ?_
    refine Reg.wpFin_fix _ rfl ?_
    refine Reg.wpFin_fix _ rfl ?_
    refine Reg.wpFin_fix _ rfl ?_
    refine Reg.wpFin_fix _ rfl ?_
    refine Reg.wpFin_fix _ rfl ?_
    refine Reg.wpFin_fix _ rfl ?_
    refine Reg.wpFin_fix _ rfl ?_
    show _
    simp only [Reg.wpFin, List.setIfInBounds_toArray, List.set_cons_succ, List.set_cons_zero]
    go_wp2_with fail
    go_ret
    exact ⟨_, rfl, HE.out.trans hE, rfl⟩
  · have q1 : (wt f n a == wt f n b) = false := by rw [beq_eq_false_iff_ne]; exact fun h => hab (wt_arc f n a b ha hb h)
    have q2 : (a == b) = false := by rw [beq_eq_false_iff_ne]; exact hab
    have q3 : (wt a n 3 == wt b n 3) = false := by rw [beq_eq_false_iff_ne]; exact fun h => hab (wt_flow n 3 a b ha hb h)
    clear ha hb hab
    go_enter Try.func8, Try.ntmps8
    go_wp2_with fail
    refine (awake_any _).mono ?_
    rintro e w1 ⟨x, rfl, hE1, rfl⟩
    have hb0 : w1.cell? ⟨w.heap.size, 0, none⟩ = some (.int .i64 f) := hE1.cell (by simp [go_sem])
    have hb1 : w1.cell? ⟨w.heap.size, 1, none⟩ = some (.int .i64 n) := hE1.cell (by simp [go_sem])
    obtain ⟨B, hB⟩ : ∃ B, w.heap.size = B := ⟨_, rfl⟩
    rw [hB] at hb0 hb1
    have HE := Lib.hid (show Ext w w1 from ((Ext.refl w).alloc _).trans hE1)
    clear hE1
    go_wp2_with fail
    clear hB
    refine Reg.wp_region_abs (fun w => (w.cell? ⟨B, 0, none⟩ = some (.int .i64 f)) ∧ (w.cell? ⟨B, 1, none⟩ = some (.int .i64 n))) [9, 10, 11, 12, 13, 14, 15, 16, 17, 18, 19, 20, 21, 22, 23, 24, 25, 26, 27, 28, 29, 30, 31, 32, 33, 34, 35, 36, 37, 38, 39, 40, 6] (fun w w' hE h => ⟨hE.cell h.1, hE.cell h.2⟩) (⟨by assumption, by assumption⟩) (by kernel_rfl) (by kernel_rfl) (by kernel_rfl) ?_
    refine Reg.wpAbs_ex ?_
    apply Exists.intro
    refine ⟨?_, ?_⟩
    · intro ρ w₁ hρ hC hs
      have e3 := hs 3 (by decide)
      have hc := hρ.const
      have hf := hρ.func
      have hg := hρ.glob
      clear hs hρ
      change ρ (.tmp 3) = _ at e3
      obtain ⟨hE, ⟨hS1, hS2⟩⟩ := hC
      refine Reg.step_plain rfl ?_
      clear hf
      go_simp
      exact ⟨Reg.Ext.refl _, rfl⟩
    refine Reg.wpAbs_ex ?_
    apply Exists.intro
    refine ⟨?_, ?_⟩
    · intro ρ w₁ hρ hC hs
      have e9 := hs 9 (by decide)
      have hc := hρ.const
      have hf := hρ.func
      have hg := hρ.glob
      clear hs hρ
      change ρ (.tmp 9) = _ at e9
      obtain ⟨hE, ⟨hS1, hS2⟩⟩ := hC
      refine Reg.step_plain rfl ?_
      clear hf
      go_simp
      exact ⟨Reg.Ext.refl _, rfl⟩
    refine Reg.wpAbs_ex ?_
    apply Exists.intro
    refine ⟨?_, ?_⟩
    · intro ρ w₁ hρ hC hs
      have e3 := hs 3 (by decide)
      have hc := hρ.const
      have hf := hρ.func
      have hg := hρ.glob
      clear hs hρ
      change ρ (.tmp 3) = _ at e3
      obtain ⟨hE, ⟨hS1, hS2⟩⟩ := hC
      refine Reg.step_plain rfl ?_
      clear hf
      go_simp
      exact ⟨Reg.Ext.refl _, rfl⟩
    refine Reg.wpAbs_ex ?_
    apply Exists.intro
    refine ⟨?_, ?_⟩
    · intro ρ w₁ hρ hC hs
      have e11 := hs 11 (by decide)
      have hc := hρ.const
      have hf := hρ.func
      have hg := hρ.glob
      clear hs hρ
      change ρ (.tmp 11) = _ at e11
      obtain ⟨hE, ⟨hS1, hS2⟩⟩ := hC
      refine Reg.step_plain rfl ?_
      clear hf
      go_simp
      exact ⟨Reg.Ext.refl _, rfl⟩
    refine Reg.wpAbs_ex ?_
    apply Exists.intro
    refine ⟨?_, ?_⟩
    · intro ρ w₁ hρ hC hs
      have e1 := hs 1 (by decide)
      have hc := hρ.const
      have hf := hρ.func
      have hg := hρ.glob
      clear hs hρ
      change ρ (.tmp 1) = _ at e1
      obtain ⟨hE, ⟨hS1, hS2⟩⟩ := hC
      refine Reg.step_plain rfl ?_
      clear hf
      go_simp
      exact ⟨Reg.Ext.refl _, rfl⟩
    refine Reg.wpAbs_ex ?_
    apply Exists.intro
    refine ⟨?_, ?_⟩
    · intro ρ w₁ hρ hC hs
      have e10 := hs 10 (by decide)
      have e12 := hs 12 (by decide)
      have e13 := hs 13 (by decide)
      have hc := hρ.const
      have hf := hρ.func
      have hg := hρ.glob
      clear hs hρ
      change ρ (.tmp 10) = _ at e10
      change ρ (.tmp 12) = _ at e12
      change ρ (.tmp 13) = _ at e13
      obtain ⟨hE, ⟨hS1, hS2⟩⟩ := hC
      refine Reg.step_plain rfl ?_
      rw [Reg.execOp_callR hf]
      clear hf
      go_simp
      exact ⟨Reg.Ext.refl _, ret_same (weight_any _ _ _ _)⟩
    refine Reg.wpAbs_ex ?_
    apply Exists.intro
    refine ⟨?_, ?_⟩
    · intro ρ w₁ hρ hC hs
      have e3 := hs 3 (by decide)
      have hc := hρ.const
      have hf := hρ.func
      have hg := hρ.glob
      clear hs hρ
      change ρ (.tmp 3) = _ at e3
      obtain ⟨hE, ⟨hS1, hS2⟩⟩ := hC
      refine Reg.step_plain rfl ?_
      clear hf
      go_simp
      exact ⟨Reg.Ext.refl _, rfl⟩
    refine Reg.wpAbs_ex ?_
    apply Exists.intro
    refine ⟨?_, ?_⟩
    · intro ρ w₁ hρ hC hs
      have e15 := hs 15 (by decide)
      have hc := hρ.const
      have hf := hρ.func
      have hg := hρ.glob
      clear hs hρ
      change ρ (.tmp 15) = _ at e15
      obtain ⟨hE, ⟨hS1, hS2⟩⟩ := hC
      refine Reg.step_plain rfl ?_
      clear hf
      go_simp
      exact ⟨Reg.Ext.refl _, rfl⟩
    refine Reg.wpAbs_ex ?_
    apply Exists.intro
    refine ⟨?_, ?_⟩
    · intro ρ w₁ hρ hC hs
      have e3 := hs 3 (by decide)
      have hc := hρ.const
      have hf := hρ.func
      have hg := hρ.glob
      clear hs hρ
      change ρ (.tmp 3) = _ at e3
      obtain ⟨hE, ⟨hS1, hS2⟩⟩ := hC
      refine Reg.step_plain rfl ?_
      clear hf
      go_simp
      exact ⟨Reg.Ext.refl _, rfl⟩
    refine Reg.wpAbs_ex ?_
    apply Exists.intro
    refine ⟨?_, ?_⟩
    · intro ρ w₁ hρ hC hs
      have e17 := hs 17 (by decide)
      have hc := hρ.const
      have hf := hρ.func
      have hg := hρ.glob
      clear hs hρ
      change ρ (.tmp 17) = _ at e17
      obtain ⟨hE, ⟨hS1, hS2⟩⟩ := hC
      refine Reg.step_plain rfl ?_
      clear hf
      go_simp
      exact ⟨Reg.Ext.refl _, rfl⟩
    refine Reg.wpAbs_ex ?_
    apply Exists.intro
    refine ⟨?_, ?_⟩
    · intro ρ w₁ hρ hC hs
      have e2 := hs 2 (by decide)
      have hc := hρ.const
      have hf := hρ.func
      have hg := hρ.glob
      clear hs hρ
      change ρ (.tmp 2) = _ at e2
      obtain ⟨hE, ⟨hS1, hS2⟩⟩ := hC
      refine Reg.step_plain rfl ?_
      clear hf
      go_simp
      exact ⟨Reg.Ext.refl _, rfl⟩
    refine Reg.wpAbs_ex ?_
    apply Exists.intro
    refine ⟨?_, ?_⟩
    · intro ρ w₁ hρ hC hs
      have e16 := hs 16 (by decide)
      have e18 := hs 18 (by decide)
      have e19 := hs 19 (by decide)
      have hc := hρ.const
      have hf := hρ.func
      have hg := hρ.glob
      clear hs hρ
      change ρ (.tmp 16) = _ at e16
      change ρ (.tmp 18) = _ at e18
      change ρ (.tmp 19) = _ at e19
      obtain ⟨hE, ⟨hS1, hS2⟩⟩ := hC
      refine Reg.step_plain rfl ?_
      rw [Reg.execOp_callR hf]
      clear hf
      go_simp
      exact ⟨Reg.Ext.refl _, ret_same (weight_any _ _ _ _)⟩
    refine Reg.wpAbs_ex ?_
    apply Exists.intro
    refine ⟨?_, ?_⟩
    · intro ρ w₁ hρ hC hs
      have e14 := hs 14 (by decide)
      have e20 := hs 20 (by decide)
      have hc := hρ.const
      have hf := hρ.func
      have hg := hρ.glob
      clear hs hρ
      change ρ (.tmp 14) = _ at e14
      change ρ (.tmp 20) = _ at e20
      obtain ⟨hE, ⟨hS1, hS2⟩⟩ := hC
      refine Reg.step_plain rfl ?_
      clear hf
      go_simp
      exact ⟨Reg.Ext.refl _, rfl⟩
    refine Reg.wpAbs_ex ?_
    apply Exists.intro
    refine ⟨?_, ?_⟩
    · intro ρ w₁ hρ hC hs
      have e1 := hs 1 (by decide)
      have hc := hρ.const
      have hf := hρ.func
      have hg := hρ.glob
      clear hs hρ
      change ρ (.tmp 1) = _ at e1
      obtain ⟨hE, ⟨hS1, hS2⟩⟩ := hC
      refine Reg.step_plain rfl ?_
      clear hf
      go_simp
      exact ⟨Reg.Ext.refl _, rfl⟩
    refine Reg.wpAbs_ex ?_
    apply Exists.intro
    refine ⟨?_, ?_⟩
    · intro ρ w₁ hρ hC hs
      have e2 := hs 2 (by decide)
      have hc := hρ.const
      have hf := hρ.func
      have hg := hρ.glob
      clear hs hρ
      change ρ (.tmp 2) = _ at e2
      obtain ⟨hE, ⟨hS1, hS2⟩⟩ := hC
      refine Reg.step_plain rfl ?_
      clear hf
      go_simp
      exact ⟨Reg.Ext.refl _, rfl⟩
    refine Reg.wpAbs_ex ?_
    apply Exists.intro
    refine ⟨?_, ?_⟩
    · intro ρ w₁ hρ hC hs
      have e22 := hs 22 (by decide)
      have e23 := hs 23 (by decide)
      have hc := hρ.const
      have hf := hρ.func
      have hg := hρ.glob
      clear hs hρ
      change ρ (.tmp 22) = _ at e22
      change ρ (.tmp 23) = _ at e23
      obtain ⟨hE, ⟨hS1, hS2⟩⟩ := hC
      refine Reg.step_plain rfl ?_
      clear hf
      go_simp
      exact ⟨Reg.Ext.refl _, rfl⟩
    refine Reg.wpAbs_ex ?_
    apply Exists.intro
    refine ⟨?_, ?_⟩
    · intro ρ w₁ hρ hC hs
      have e21 := hs 21 (by decide)
      have e24 := hs 24 (by decide)
      have hc := hρ.const
      have hf := hρ.func
      have hg := hρ.glob
      clear hs hρ
      change ρ (.tmp 21) = _ at e21
      change ρ (.tmp 24) = _ at e24
      obtain ⟨hE, ⟨hS1, hS2⟩⟩ := hC
      refine Reg.step_plain rfl ?_
      clear hf
      go_simp
      exact ⟨Reg.Ext.refl _, rfl⟩
    refine Reg.wpAbs_ex ?_
    apply Exists.intro
    refine ⟨?_, ?_⟩
    · intro ρ w₁ hρ hC hs
      have e25 := hs 25 (by decide)
      have hc := hρ.const
      have hf := hρ.func
      have hg := hρ.glob
      clear hs hρ
      change ρ (.tmp 25) = _ at e25
      obtain ⟨hE, ⟨hS1, hS2⟩⟩ := hC
      refine Reg.step_plain rfl ?_
      clear hf
      go_simp
      exact ⟨Reg.Ext.refl _, rfl⟩
    refine Reg.wpAbs_ex ?_
    apply Exists.intro
    refine ⟨?_, ?_⟩
    · intro ρ w₁ hρ hC hs
      have e1 := hs 1 (by decide)
      have e26 := hs 26 (by decide)
      have hc := hρ.const
      have hf := hρ.func
      have hg := hρ.glob
      clear hs hρ
      change ρ (.tmp 1) = _ at e1
      change ρ (.tmp 26) = _ at e26
      obtain ⟨hE, ⟨hS1, hS2⟩⟩ := hC
      refine Reg.step_want (t := 26) rfl rfl e26 ?_
      clear hf
      go_simp
      exact ⟨Reg.Ext.refl _, rfl⟩
    refine Reg.wpAbs_ex ?_
    apply Exists.intro
    refine ⟨?_, ?_⟩
    · intro ρ w₁ hρ hC hs
      have e3 := hs 3 (by decide)
      have e26 := hs 26 (by decide)
      have hc := hρ.const
      have hf := hρ.func
      have hg := hρ.glob
      clear hs hρ
      change ρ (.tmp 3) = _ at e3
      change ρ (.tmp 26) = _ at e26
      obtain ⟨hE, ⟨hS1, hS2⟩⟩ := hC
      refine Reg.step_want (t := 26) rfl rfl e26 ?_
      clear hf
      go_simp
      exact ⟨Reg.Ext.refl _, rfl⟩
    refine Reg.wpAbs_ex ?_
    apply Exists.intro
    refine ⟨?_, ?_⟩
    · intro ρ w₁ hρ hC hs
      have e28 := hs 28 (by decide)
      have e26 := hs 26 (by decide)
      have hc := hρ.const
      have hf := hρ.func
      have hg := hρ.glob
      clear hs hρ
      change ρ (.tmp 28) = _ at e28
      change ρ (.tmp 26) = _ at e26
      obtain ⟨hE, ⟨hS1, hS2⟩⟩ := hC
      refine Reg.step_want (t := 26) rfl rfl e26 ?_
      clear hf
      go_simp
      exact ⟨Reg.Ext.refl _, rfl⟩
    refine Reg.wpAbs_ex ?_
    apply Exists.intro
    refine ⟨?_, ?_⟩
    · intro ρ w₁ hρ hC hs
      have e27 := hs 27 (by decide)
      have e29 := hs 29 (by decide)
      have e26 := hs 26 (by decide)
      have hc := hρ.const
      have hf := hρ.func
      have hg := hρ.glob
      clear hs hρ
      change ρ (.tmp 27) = _ at e27
      change ρ (.tmp 29) = _ at e29
      change ρ (.tmp 26) = _ at e26
      obtain ⟨hE, ⟨hS1, hS2⟩⟩ := hC
      refine Reg.step_want (t := 26) rfl rfl e26 ?_
      rw [Reg.execOp_callR hf]
      clear hf
      go_simp
      exact ⟨Reg.Ext.refl _, ret_same (weight_any _ _ _ _)⟩
    refine Reg.wpAbs_ex ?_
    apply Exists.intro
    refine ⟨?_, ?_⟩
    · intro ρ w₁ hρ hC hs
      have e2 := hs 2 (by decide)
      have e26 := hs 26 (by decide)
      have hc := hρ.const
      have hf := hρ.func
      have hg := hρ.glob
      clear hs hρ
      change ρ (.tmp 2) = _ at e2
      change ρ (.tmp 26) = _ at e26
      obtain ⟨hE, ⟨hS1, hS2⟩⟩ := hC
      refine Reg.step_want (t := 26) rfl rfl e26 ?_
      clear hf
      go_simp
      exact ⟨Reg.Ext.refl _, rfl⟩
    refine Reg.wpAbs_ex ?_
    apply Exists.intro
    refine ⟨?_, ?_⟩
    · intro ρ w₁ hρ hC hs
      have e3 := hs 3 (by decide)
      have e26 := hs 26 (by decide)
      have hc := hρ.const
      have hf := hρ.func
      have hg := hρ.glob
      clear hs hρ
      change ρ (.tmp 3) = _ at e3
      change ρ (.tmp 26) = _ at e26
      obtain ⟨hE, ⟨hS1, hS2⟩⟩ := hC
      refine Reg.step_want (t := 26) rfl rfl e26 ?_
      clear hf
      go_simp
      exact ⟨Reg.Ext.refl _, rfl⟩
    refine Reg.wpAbs_ex ?_
    apply Exists.intro
    refine ⟨?_, ?_⟩
    · intro ρ w₁ hρ hC hs
      have e32 := hs 32 (by decide)
      have e26 := hs 26 (by decide)
      have hc := hρ.const
      have hf := hρ.func
      have hg := hρ.glob
      clear hs hρ
      change ρ (.tmp 32) = _ at e32
      change ρ (.tmp 26) = _ at e26
      obtain ⟨hE, ⟨hS1, hS2⟩⟩ := hC
      refine Reg.step_want (t := 26) rfl rfl e26 ?_
      clear hf
      go_simp
      exact ⟨Reg.Ext.refl _, rfl⟩
    refine Reg.wpAbs_ex ?_
    apply Exists.intro
    refine ⟨?_, ?_⟩
    · intro ρ w₁ hρ hC hs
      have e31 := hs 31 (by decide)
      have e33 := hs 33 (by decide)
      have e26 := hs 26 (by decide)
      have hc := hρ.const
      have hf := hρ.func
      have hg := hρ.glob
      clear hs hρ
      change ρ (.tmp 31) = _ at e31
      change ρ (.tmp 33) = _ at e33
      change ρ (.tmp 26) = _ at e26
      obtain ⟨hE, ⟨hS1, hS2⟩⟩ := hC
      refine Reg.step_want (t := 26) rfl rfl e26 ?_
      rw [Reg.execOp_callR hf]
      clear hf
      go_simp
      exact ⟨Reg.Ext.refl _, ret_same (weight_any _ _ _ _)⟩
    refine Reg.wpAbs_ex ?_
    apply Exists.intro
    refine ⟨?_, ?_⟩
    · intro ρ w₁ hρ hC hs
      have e30 := hs 30 (by decide)
      have e34 := hs 34 (by decide)
      have e26 := hs 26 (by decide)
      have hc := hρ.const
      have hf := hρ.func
      have hg := hρ.glob
      clear hs hρ
      change ρ (.tmp 30) = _ at e30
      change ρ (.tmp 34) = _ at e34
      change ρ (.tmp 26) = _ at e26
      obtain ⟨hE, ⟨hS1, hS2⟩⟩ := hC
      refine Reg.step_want (t := 26) rfl rfl e26 ?_
      clear hf
      go_simp
      exact ⟨Reg.Ext.refl _, rfl⟩
    refine Reg.wpAbs_ex ?_
    apply Exists.intro
    refine ⟨?_, ?_⟩
    · intro ρ w₁ hρ hC hs
      have e1 := hs 1 (by decide)
      have e26 := hs 26 (by decide)
      have hc := hρ.const
      have hf := hρ.func
      have hg := hρ.glob
      clear hs hρ
      change ρ (.tmp 1) = _ at e1
      change ρ (.tmp 26) = _ at e26
      obtain ⟨hE, ⟨hS1, hS2⟩⟩ := hC
      refine Reg.step_want (t := 26) rfl rfl e26 ?_
      clear hf
      go_simp
      exact ⟨Reg.Ext.refl _, rfl⟩
    refine Reg.wpAbs_ex ?_
    apply Exists.intro
    refine ⟨?_, ?_⟩
    · intro ρ w₁ hρ hC hs
      have e2 := hs 2 (by decide)
      have e26 := hs 26 (by decide)
      have hc := hρ.const
      have hf := hρ.func
      have hg := hρ.glob
      clear hs hρ
      change ρ (.tmp 2) = _ at e2
      change ρ (.tmp 26) = _ at e26
      obtain ⟨hE, ⟨hS1, hS2⟩⟩ := hC
      refine Reg.step_want (t := 26) rfl rfl e26 ?_
      clear hf
      go_simp
      exact ⟨Reg.Ext.refl _, rfl⟩
    refine Reg.wpAbs_ex ?_
    apply Exists.intro
    refine ⟨?_, ?_⟩
    · intro ρ w₁ hρ hC hs
      have e36 := hs 36 (by decide)
      have e37 := hs 37 (by decide)
      have e26 := hs 26 (by decide)
      have hc := hρ.const
      have hf := hρ.func
      have hg := hρ.glob
      clear hs hρ
      change ρ (.tmp 36) = _ at e36
      change ρ (.tmp 37) = _ at e37
      change ρ (.tmp 26) = _ at e26
      obtain ⟨hE, ⟨hS1, hS2⟩⟩ := hC
      refine Reg.step_want (t := 26) rfl rfl e26 ?_
      clear hf
      go_simp
      exact ⟨Reg.Ext.refl _, rfl⟩
    refine Reg.wpAbs_ex ?_
    apply Exists.intro
    refine ⟨?_, ?_⟩
    · intro ρ w₁ hρ hC hs
      have e35 := hs 35 (by decide)
      have e38 := hs 38 (by decide)
      have e26 := hs 26 (by decide)
      have hc := hρ.const
      have hf := hρ.func
      have hg := hρ.glob
      clear hs hρ
      change ρ (.tmp 35) = _ at e35
      change ρ (.tmp 38) = _ at e38
      change ρ (.tmp 26) = _ at e26
      obtain ⟨hE, ⟨hS1, hS2⟩⟩ := hC
      refine Reg.step_want (t := 26) rfl rfl e26 ?_
      clear hf
      go_simp
      exact ⟨Reg.Ext.refl _, rfl⟩
    refine Reg.wpAbs_ex ?_
    apply Exists.intro
    refine ⟨?_, ?_⟩
    · intro ρ w₁ hρ hC hs
      have e26 := hs 26 (by decide)
      have e39 := hs 39 (by decide)
      have hc := hρ.const
      have hf := hρ.func
      have hg := hρ.glob
      clear hs hρ
      change ρ (.tmp 26) = _ at e26
      change ρ (.tmp 39) = _ at e39
      obtain ⟨hE, ⟨hS1, hS2⟩⟩ := hC
      refine Reg.step_plain rfl ?_
      clear hf
      go_simp
      exact ⟨Reg.Ext.refl _, rfl⟩
    refine Reg.wpAbs_ex ?_
    apply Exists.intro
    refine ⟨?_, ?_⟩
    · intro ρ w₁ hρ hC hs
      have e40 := hs 40 (by decide)
      have hc := hρ.const
      have hf := hρ.func
      have hg := hρ.glob
      clear hs hρ
      change ρ (.tmp 40) = _ at e40
      obtain ⟨hE, ⟨hS1, hS2⟩⟩ := hC
      refine Reg.step_plain rfl ?_
      clear hf
      go_simp
      exact ⟨Reg.Ext.refl _, rfl⟩
    refine Reg.wpAbs_nil ?_
    intro w₁ hE hS
    obtain ⟨hS1, hS2⟩ := hS
    refine Reg.wpFin_fix _ rfl ?_
    refine Reg.wpFin_fix _ rfl ?_
    refine Reg.wpFin_fix _ rfl ?_
    refine Reg.wpFin_fix _ rfl ?_
    refine Reg.wpFin_fix _ rfl ?_
    refine Reg.wpFin_fix _ rfl ?_
    refine Reg.wpFin_fix _ rfl ?_
    refine Reg.wpFin_fix _ rfl ?_
    refine Reg.wpFin_fix _ rfl ?_
    refine Reg.wpFin_fix _ rfl ?_
    refine Reg.wpFin_fix _ rfl ?_
    refine Reg.wpFin_fix _ rfl ?_
    refine Reg.wpFin_fix _ rfl ?_
    refine Reg.wpFin_fix _ rfl ?_
    refine Reg.wpFin_fix _ rfl ?_
    refine Reg.wpFin_fix _ rfl ?_
    refine Reg.wpFin_fix _ rfl ?_
    refine Reg.wpFin_fix _ rfl ?_
    refine Reg.wpFin_fix _ rfl ?_
    refine Reg.wpFin_fix _ rfl ?_
    refine Reg.wpFin_fix _ rfl ?_
    refine Reg.wpFin_fix _ rfl ?_
    refine Reg.wpFin_fix _ rfl ?_
    refine Reg.wpFin_fix _ rfl ?_
    refine Reg.wpFin_fix _ rfl ?_
    refine Reg.wpFin_fix _ rfl ?_
    refine Reg.wpFin_fix _ rfl ?_
    refine Reg.wpFin_fix _ rfl ?_
    refine Reg.wpFin_fix _ rfl ?_
    refine Reg.wpFin_fix _ rfl ?_
    refine Reg.wpFin_fix _ rfl ?_
    refine Reg.wpFin_fix _ rfl ?_
    refine Reg.wpFin_fix _ rfl ?_
    show _
    simp only [Reg.wpFin, List.setIfInBounds_toArray, List.set_cons_succ, List.set_cons_zero]
    go_wp2_with fail
    go_ret
    exact ⟨_, rfl, HE.out.trans hE, rfl⟩

set_option maxRecDepth 100000 in
theorem lifted (os : Os) (started : os.Started) (H : Type) (enc : TypeId × Value → H) :
    ReturnsInHanded {} Try.checked os 8 .any (Rows.flowhashDistinctSpec.pre6 enc Try.prog Try.f8 Rows.flowhashDistinctRow.domain false) (Rows.flowhashDistinctSpec.post enc Try.prog Try.f8 false true false false) := by
  refine returnsInHanded_of_change (C := Try.checked) own started (by kernel_rfl) Try.func8
    (ChangeSpec.witness6 (enc := enc) (C := Try.checked) false ⟨#[], #[.agg #[.int .i64 0, .int .i64 0], .int .i64 0, .int .i64 0], []⟩ 8 (by kernel_rfl) (by kernel_rfl) (by kernel_rfl) (by kernel_rfl)) ?_
  intro W base args ds gs before hval0 hW hcnd _
  have hval : ∀ (j : Nat) t v, Try.f8.params[j]? = some t → args[j]? = some v → Value.okWide Try.prog W .any base t v := hval0
  have hW' := hW
  obtain ⟨p, q, hA0, hV, rfl, hfz, hnd⟩ := hW
  have hA : DataW.TrodAll enc Try.prog W 0 (fun _ => true) true Try.f8.params.toList args.toList ds p := hA0
  rw [Try.params8] at hA hval
  obtain ⟨v0, vs0, d0, ds0, p0, q0, hargs, rfl, rfl, h0, r0⟩ := trodAll_cons hA
  obtain ⟨v1, vs1, d1, ds1, p1, q1, rfl, rfl, rfl, h1, r1⟩ := trodAll_cons r0
  obtain ⟨v2, vs2, d2, ds2, p2, q2, rfl, rfl, rfl, h2, r2⟩ := trodAll_cons r1
  obtain ⟨rfl, rfl, rfl⟩ := trodAll_nil r2
  obtain rfl : args = #[v0, v1, v2] := by cases args; simp_all
  obtain ⟨rfl, rfl⟩ := trodVars_none hV
  have lt0 := lt_of h0
  obtain ⟨f, n, rfl, wf, wn⟩ := flow_of (hval 0 30 v0 rfl rfl) h0
  have lt1 := lt_of h1
  obtain ⟨a1, rfl, w1⟩ := int_of (hval 1 3 v1 rfl rfl) h1
  have lt2 := lt_of h2
  obtain ⟨a2, rfl, w2⟩ := int_of (hval 2 3 v2 rfl rfl) h2
  clear hA0 hval0
  refine (walk f n a1 a2 (wf_bd w1) (wf_bd w2) W).mono fun e W' ⟨x, he, bel, hx⟩ => ?_
  subst hx
  subst he
  exact ⟨_, rfl, _, _, _, [], _, [], hW', trodAll_mk1 (shut_bool Try.underlying4 _), (trodAll_cons_mk (Below.trod laidOut (by kernel_rfl) (of_decide_eq_true (by kernel_rfl)) h0 bel lt0) (trodAll_cons_mk (Below.trod laidOut (by kernel_rfl) (of_decide_eq_true (by kernel_rfl)) h1 bel lt1) (trodAll_cons_mk (Below.trod laidOut (by kernel_rfl) (of_decide_eq_true (by kernel_rfl)) h2 bel lt2) trodAll_mk0))), rfl, bel.frame _, fun h => by cases h⟩

theorem over : Rows.flowhashDistinctRow.holds Try.pinned (OpenSpec.ofChange Rows.flowhashDistinctSpec) :=
  OpenClaim.holds_of_wide 8 Try.f8 rfl rfl rfl rfl rfl rfl rfl ⟨rfl, rfl, rfl, rfl, rfl⟩ rfl rfl rfl rfl rfl (by kernel_rfl) Try.func8 (by kernel_rfl)
    (of_decide_eq_true (by kernel_rfl)) (by unfold Func.isWrapper; first | (rw [if_pos (by decide +kernel)]; kernel_rfl) | (rw [if_neg (by decide +kernel)]; exact ⟨rfl, rfl⟩))
    (fun os started H enc _ => lifted os started H enc)

theorem proved : Rows.FlowhashDistinctSaid := over

end Go.Proofs.Ytcieillicpbebaa.flowhashDistinct
