/- The walks of layer 25: the contracts of Weight, the reference's Weight, the comparisons, MaxFunc and both functions Choose. -/
import Derived.Test.YtcieillicpbebaaProg
import Derived.Test.YtcieillicpbebaaFlowPlain
import Derived.WalkKit
import Derived.ProofKit
import Derived.Lib.Hide
import Derived.Below
import Derived.Test.YtcieillicpbebaaMem
namespace Go.Proofs.Ytcieillicpbebaa
namespace Flow
open Go.ChangeShapes Go.WideShapes Go.ChangeAt Go.RowKit

theorem ret_int {k : IntKind} {a b : Int} (h : a = b) : Ending.returned (.int k a) = .returned (.int k b) := by rw [h]

theorem val_int {k : IntKind} {a b : Int} (h : a = b) : Value.int k a = .int k b := by rw [h]

set_option maxHeartbeats 400000 in
theorem weight_any (a0 a1 a2 : Int) (w : World) :
    Calls Try.prog 10 #[.int .i64 a0, .int .i64 a1, .int .i64 a2] w fun e w' => e = .returned (.int .u64 (wt a0 a1 a2)) ∧ w = w' := by
  go_enter Try.func10, Try.ntmps10
  go_wp2
  go_ret
  exact ⟨ret_int (wt_def a0 a1 a2), rfl⟩

set_option maxHeartbeats 400000 in
theorem refWeight_any (a0 a1 a2 : Int) (w : World) :
    Calls Try.prog 11 #[.int .i64 a0, .int .i64 a1, .int .i64 a2] w fun e w' => e = .returned (.int .u64 (wt a0 a1 a2)) ∧ w = w' := by
  have h1 := wrap_lastX (mixA (mixA (wt0 a0 a1 a2) 1073741824 13787848793156543929) 134217728 10723151780598845931)
  have H1 := Lib.hid h1
  clear h1
  go_enter Try.func11, Try.ntmps11
  go_wp2
  go_ret
  exact ⟨ret_int (H1.out.trans (wt_def a0 a1 a2)), rfl⟩

set_option maxHeartbeats 400000 in
theorem cmpU_any (a b : Int) (w : World) :
    Calls Try.prog 18 #[.int .u64 a, .int .u64 b] w fun e w' => e = .returned (.int .i64 (cmpI a b)) ∧ w = w' := by
  by_cases h1 : a < b
  · go_enter Try.func18, Try.ntmps18
    go_wp2
    go_ret
    exact ⟨ret_int (by simp [cmpI, h1]), rfl⟩
  · by_cases h2 : b < a
    · go_enter Try.func18, Try.ntmps18
      go_wp2
      go_ret
      exact ⟨ret_int (by simp [cmpI, h1, h2]), rfl⟩
    · go_enter Try.func18, Try.ntmps18
      go_wp2
      go_ret
      exact ⟨ret_int (cmpI_eq a b (by omega) (by omega)), rfl⟩

set_option maxHeartbeats 400000 in
theorem cmpInt_any (a b : Int) (w : World) :
    Calls Try.prog 19 #[.int .i64 a, .int .i64 b] w fun e w' => e = .returned (.int .i64 (cmpI a b)) ∧ w = w' := by
  by_cases h1 : a < b
  · go_enter Try.func19, Try.ntmps19
    go_wp2
    go_ret
    exact ⟨ret_int (by simp [cmpI, h1]), rfl⟩
  · by_cases h2 : b < a
    · go_enter Try.func19, Try.ntmps19
      go_wp2
      go_ret
      exact ⟨ret_int (by simp [cmpI, h1, h2]), rfl⟩
    · go_enter Try.func19, Try.ntmps19
      go_wp2
      go_ret
      exact ⟨ret_int (cmpI_eq a b (by omega) (by omega)), rfl⟩

set_option maxHeartbeats 400000 in
theorem or_any (a b : Int) (B off : Nat) (c : Nat) (w : World) (h0 : w.cell? ⟨B, off, none⟩ = some (.int .i64 a)) (h1 : w.cell? ⟨B, off + 1, none⟩ = some (.int .i64 b)) :
    Calls Try.prog 17 #[.slice (some ⟨B, off, none⟩) 2 c] w fun e w' => e = .returned (.int .i64 (orI a b)) ∧ w = w' := by
  by_cases ha : a = 0
  · have hor := Lib.hid (show b = orI a b by simp [orI, ha])
    have ha' : (a != 0) = false := by simp [ha]
    by_cases hb : b = 0
    · have hb' : (b != 0) = false := by simp [hb]
      have hz := Lib.hid (show 0 = orI a b by rw [← hor.out, hb])
      clear ha hb
      go_enter Try.func17, Try.ntmps17
      go_wp2
      refine wp_loop_rounds 3 ?_
      rw [rounds_succ]
      go_wp2
      rw [rounds_succ]
      go_wp2
      rw [rounds_succ]
      go_wp2
      go_ret
      exact ⟨ret_int hz.out, rfl⟩
    · have hb' : (b != 0) = true := by simp [hb]
      clear ha hb
      go_enter Try.func17, Try.ntmps17
      go_wp2
      refine wp_loop_rounds 2 ?_
      rw [rounds_succ]
      go_wp2
      rw [rounds_succ]
      go_wp2
      go_ret
      exact ⟨ret_int hor.out, rfl⟩
  · have hor := Lib.hid (show a = orI a b by simp [orI, ha])
    have ha' : (a != 0) = true := by simp [ha]
    clear ha
    go_enter Try.func17, Try.ntmps17
    go_wp2
    refine wp_loop_rounds 1 ?_
    rw [rounds_succ]
    go_wp2
    go_ret
    exact ⟨ret_int hor.out, rfl⟩

open Reg in
set_option maxHeartbeats 1000000 in
theorem less_any (f n a b : Int) (pf pn : Addr) (w : World) (h0 : w.cell? pf = some (.int .i64 f)) (h1 : w.cell? pn = some (.int .i64 n)) :
    Calls Try.prog 16 #[.int .i64 a, .int .i64 b, .pointer (some pf), .pointer (some pn)] w fun e w' => e = .returned (.int .i64 (cmpR f n a b)) ∧ Ext w w' := by
  go_enter Try.func16, Try.ntmps16
  go_wp2_with fail
  refine Reg.wp_region_abs (fun w => (w.cell? pf = some (.int .i64 f)) ∧ (w.cell? pn = some (.int .i64 n))) [7, 8, 9, 10, 11, 12, 13, 14, 15, 16, 17, 18, 19, 20, 6] (fun w w' hE h => ⟨hE.cell h.1, hE.cell h.2⟩) (⟨by assumption, by assumption⟩) (by kernel_rfl) (by kernel_rfl) (by kernel_rfl) ?_
  refine Reg.wpAbs_ex ?_
  apply Exists.intro
  refine ⟨?_, ?_⟩
  · intro ρ w₁ hρ hC hs
    have e2 := hs 2 (by decide)
    have hc := hρ.const
    have hf := hρ.func
    have hg := hρ.glob
    clear hs hρ
    change ρ (.tmp 2) = _ at e2
    obtain ⟨hE, ⟨hS1, hS2⟩⟩ := hC
    refine Reg.step_plain rfl ?_
    clear hf
    go_simp
    exact ⟨Reg.Ext.refl _, rfl⟩
  refine Reg.wpAbs_ex ?_
  apply Exists.intro
  refine ⟨?_, ?_⟩
  · intro ρ w₁ hρ hC hs
    have e3 := hs 3 (by decide)
    have hc := hρ.const
    have hf := hρ.func
    have hg := hρ.glob
    clear hs hρ
    change ρ (.tmp 3) = _ at e3
    obtain ⟨hE, ⟨hS1, hS2⟩⟩ := hC
    refine Reg.step_plain rfl ?_
    clear hf
    go_simp
    exact ⟨Reg.Ext.refl _, rfl⟩
  refine Reg.wpAbs_ex ?_
  apply Exists.intro
  refine ⟨?_, ?_⟩
  · intro ρ w₁ hρ hC hs
    have e0 := hs 0 (by decide)
    have hc := hρ.const
    have hf := hρ.func
    have hg := hρ.glob
    clear hs hρ
    change ρ (.tmp 0) = _ at e0
    obtain ⟨hE, ⟨hS1, hS2⟩⟩ := hC
    refine Reg.step_plain rfl ?_
    clear hf
    go_simp
    exact ⟨Reg.Ext.refl _, rfl⟩
  refine Reg.wpAbs_ex ?_
  apply Exists.intro
  refine ⟨?_, ?_⟩
  · intro ρ w₁ hρ hC hs
    have e7 := hs 7 (by decide)
    have e8 := hs 8 (by decide)
    have e9 := hs 9 (by decide)
    have hc := hρ.const
    have hf := hρ.func
    have hg := hρ.glob
    clear hs hρ
    change ρ (.tmp 7) = _ at e7
    change ρ (.tmp 8) = _ at e8
    change ρ (.tmp 9) = _ at e9
    obtain ⟨hE, ⟨hS1, hS2⟩⟩ := hC
    refine Reg.step_plain rfl ?_
    rw [Reg.execOp_callR hf]
    clear hf
    go_simp
    exact ⟨Reg.Ext.refl _, ret_same (weight_any _ _ _ _)⟩
  refine Reg.wpAbs_ex ?_
  apply Exists.intro
  refine ⟨?_, ?_⟩
  · intro ρ w₁ hρ hC hs
    have e2 := hs 2 (by decide)
    have hc := hρ.const
    have hf := hρ.func
    have hg := hρ.glob
    clear hs hρ
    change ρ (.tmp 2) = _ at e2
    obtain ⟨hE, ⟨hS1, hS2⟩⟩ := hC
    refine Reg.step_plain rfl ?_
    clear hf
    go_simp
    exact ⟨Reg.Ext.refl _, rfl⟩
  refine Reg.wpAbs_ex ?_
  apply Exists.intro
  refine ⟨?_, ?_⟩
  · intro ρ w₁ hρ hC hs
    have e3 := hs 3 (by decide)
    have hc := hρ.const
    have hf := hρ.func
    have hg := hρ.glob
    clear hs hρ
    change ρ (.tmp 3) = _ at e3
    obtain ⟨hE, ⟨hS1, hS2⟩⟩ := hC
    refine Reg.step_plain rfl ?_
    clear hf
    go_simp
    exact ⟨Reg.Ext.refl _, rfl⟩
  refine Reg.wpAbs_ex ?_
  apply Exists.intro
  refine ⟨?_, ?_⟩
  · intro ρ w₁ hρ hC hs
    have e1 := hs 1 (by decide)
    have hc := hρ.const
    have hf := hρ.func
    have hg := hρ.glob
    clear hs hρ
    change ρ (.tmp 1) = _ at e1
    obtain ⟨hE, ⟨hS1, hS2⟩⟩ := hC
    refine Reg.step_plain rfl ?_
    clear hf
    go_simp
    exact ⟨Reg.Ext.refl _, rfl⟩
  refine Reg.wpAbs_ex ?_
  apply Exists.intro
  refine ⟨?_, ?_⟩
  · intro ρ w₁ hρ hC hs
    have e11 := hs 11 (by decide)
    have e12 := hs 12 (by decide)
    have e13 := hs 13 (by decide)
    have hc := hρ.const
    have hf := hρ.func
    have hg := hρ.glob
    clear hs hρ
    change ρ (.tmp 11) = _ at e11
    change ρ (.tmp 12) = _ at e12
    change ρ (.tmp 13) = _ at e13
    obtain ⟨hE, ⟨hS1, hS2⟩⟩ := hC
    refine Reg.step_plain rfl ?_
    rw [Reg.execOp_callR hf]
    clear hf
    go_simp
    exact ⟨Reg.Ext.refl _, ret_same (weight_any _ _ _ _)⟩
  refine Reg.wpAbs_ex ?_
  apply Exists.intro
  refine ⟨?_, ?_⟩
  · intro ρ w₁ hρ hC hs
    have e10 := hs 10 (by decide)
    have e14 := hs 14 (by decide)
    have hc := hρ.const
    have hf := hρ.func
    have hg := hρ.glob
    clear hs hρ
    change ρ (.tmp 10) = _ at e10
    change ρ (.tmp 14) = _ at e14
    obtain ⟨hE, ⟨hS1, hS2⟩⟩ := hC
    refine Reg.step_plain rfl ?_
    rw [Reg.execOp_callR hf]
    clear hf
    go_simp
    exact ⟨Reg.Ext.refl _, ret_same (cmpU_any _ _ _)⟩
  refine Reg.wpAbs_ex ?_
  apply Exists.intro
  refine ⟨?_, ?_⟩
  · intro ρ w₁ hρ hC hs
    have e1 := hs 1 (by decide)
    have hc := hρ.const
    have hf := hρ.func
    have hg := hρ.glob
    clear hs hρ
    change ρ (.tmp 1) = _ at e1
    obtain ⟨hE, ⟨hS1, hS2⟩⟩ := hC
    refine Reg.step_plain rfl ?_
    clear hf
    go_simp
    exact ⟨Reg.Ext.refl _, rfl⟩
  refine Reg.wpAbs_ex ?_
  apply Exists.intro
  refine ⟨?_, ?_⟩
  · intro ρ w₁ hρ hC hs
    have e0 := hs 0 (by decide)
    have hc := hρ.const
    have hf := hρ.func
    have hg := hρ.glob
    clear hs hρ
    change ρ (.tmp 0) = _ at e0
    obtain ⟨hE, ⟨hS1, hS2⟩⟩ := hC
    refine Reg.step_plain rfl ?_
    clear hf
    go_simp
    exact ⟨Reg.Ext.refl _, rfl⟩
  refine Reg.wpAbs_ex ?_
  apply Exists.intro
  refine ⟨?_, ?_⟩
  · intro ρ w₁ hρ hC hs
    have e16 := hs 16 (by decide)
    have e17 := hs 17 (by decide)
    have hc := hρ.const
    have hf := hρ.func
    have hg := hρ.glob
    clear hs hρ
    change ρ (.tmp 16) = _ at e16
    change ρ (.tmp 17) = _ at e17
    obtain ⟨hE, ⟨hS1, hS2⟩⟩ := hC
    refine Reg.step_plain rfl ?_
    rw [Reg.execOp_callR hf]
    clear hf
    go_simp
    exact ⟨Reg.Ext.refl _, ret_same (cmpInt_any _ _ _)⟩
  refine Reg.wpAbs_any (fun v w => ∃ g, v = .slice (some ⟨g, 0, none⟩) 2 2 ∧ w.cell? ⟨g, 0, none⟩ = some (.int .i64 (cmpI (wt f n a) (wt f n b))) ∧ w.cell? ⟨g, 1, none⟩ = some (.int .i64 (cmpI b a))) (fun v w w' hE ⟨g, h1, h2, h3⟩ => ⟨g, h1, hE.cell h2, hE.cell h3⟩) ?_ ?_
  · intro ρ w₁ hρ hC hs
    have e15 := hs 15 (by decide)
    have e18 := hs 18 (by decide)
    have hc := hρ.const
    have hf := hρ.func
    have hg := hρ.glob
    clear hs hρ
    change ρ (.tmp 15) = _ at e15
    change ρ (.tmp 18) = _ at e18
    obtain ⟨hE, ⟨hS1, hS2⟩⟩ := hC
    refine Reg.step_plain rfl ?_
    clear hf
    go_simp
    exact ⟨(Ext.refl _).alloc _, _, rfl, by simp [go_sem], by simp [go_sem]⟩
  refine Reg.wpAbs_ex ?_
  apply Exists.intro
  refine ⟨?_, ?_⟩
  · intro ρ w₁ hρ hC hs
    have e19 := hs 19 (by decide)
    have hc := hρ.const
    have hf := hρ.func
    have hg := hρ.glob
    clear hs hρ
    obtain ⟨g, e19, c1, c2⟩ := e19
    obtain ⟨hE, ⟨hS1, hS2⟩⟩ := hC
    refine Reg.step_plain rfl ?_
    rw [Reg.execOp_callR hf]
    clear hf
    go_simp
    exact ⟨Reg.Ext.refl _, ret_same (or_any _ _ _ _ _ _ c1 c2)⟩
  refine Reg.wpAbs_ex ?_
  apply Exists.intro
  refine ⟨?_, ?_⟩
  · intro ρ w₁ hρ hC hs
    have e20 := hs 20 (by decide)
    have hc := hρ.const
    have hf := hρ.func
    have hg := hρ.glob
    clear hs hρ
    change ρ (.tmp 20) = _ at e20
    obtain ⟨hE, ⟨hS1, hS2⟩⟩ := hC
    refine Reg.step_plain rfl ?_
    clear hf
    go_simp
    exact ⟨Reg.Ext.refl _, rfl⟩
  refine Reg.wpAbs_nil ?_
  intro w₁ hE hS
  obtain ⟨hS1, hS2⟩ := hS
  refine Reg.wpFin_fix _ rfl ?_
  refine Reg.wpFin_fix _ rfl ?_
  refine Reg.wpFin_fix _ rfl ?_
  refine Reg.wpFin_fix _ rfl ?_
  refine Reg.wpFin_fix _ rfl ?_
  refine Reg.wpFin_fix _ rfl ?_
  refine Reg.wpFin_fix _ rfl ?_
  refine Reg.wpFin_fix _ rfl ?_
  refine Reg.wpFin_fix _ rfl ?_
  refine Reg.wpFin_fix _ rfl ?_
  refine Reg.wpFin_fix _ rfl ?_
  refine Reg.wpFin_fix _ rfl ?_
  refine Reg.wpFin_any (fun x19 h19 => ?_)
  change _ at h19
  refine Reg.wpFin_fix _ rfl ?_
  refine Reg.wpFin_fix _ rfl ?_
  show _
  simp only [Reg.wpFin, List.setIfInBounds_toArray, List.set_cons_succ, List.set_cons_zero]
  go_wp2
  go_ret
  exact ⟨rfl, hE⟩

open Reg in
set_option maxHeartbeats 1000000 in
theorem maxFunc_any (f n : Int) (pf pn : Addr) (w : World) (h0 : w.cell? pf = some (.int .i64 f)) (h1 : w.cell? pn = some (.int .i64 n)) (b off m c : Nat) (L : List Int) (hL : L.length = m) (hm1 : 1 ≤ m) (hm : m ≤ 9223372036854775807)
    (hc : ∀ i, i < m → w.cell? ⟨b, off + i, none⟩ = some (.int .i64 (nth L i))) :
    Calls Try.prog 15 #[.slice (some ⟨b, off, none⟩) m c, .func (.func 16) #[] #[.pointer (some pf), .pointer (some pn)]] w (Ret (fun v _ => v = .int .i64 (choose f n L)) w) := by
  have hc0 : w.cell? ⟨b, off, none⟩ = some (.int .i64 (nth L 0)) := hc 0 (by omega)
  have HL := Lib.hid hL
  have HC := Lib.hid hc
  have hdec : decide ((m : Int) < 1) = false := by simp; omega
  clear hL hc
  go_enter Try.func15, Try.ntmps15
  go_wp2_with fail
  go_loopw [5, 6] (fun v i wr => ∃ k : Nat, 1 ≤ k ∧ k ≤ m ∧ i = .int .i64 k ∧ v = .int .i64 (choose f n (L.take k)) ∧ Ext w wr) (fun _ i _ => m - (intOf i).toNat)
  case atStart => exact ⟨1, by omega, by omega, rfl, by rw [choose_one f n L (by rw [HL.out]; exact hm1)], Ext.refl _⟩
  case round =>
    obtain ⟨k, hk1, hk2, rfl, rfl, hE⟩ := hrel
    by_cases hlt : k < m
    · have hcell := hE.cell (HC.out k hlt)
      have hp0 := hE.cell h0
      have hp1 := hE.cell h1
      have HS := Lib.hid (choose_step f n L k hk1 (by rw [HL.out]; exact hlt))
      by_cases hcmp : 0 < cmpR f n (nth L k) (choose f n (L.take k))
      · have HP := Lib.hid (pick_yes f n _ _ hcmp)
        go_wp2_with fail
        refine (less_any f n _ _ pf pn _ hp0 hp1).mono ?_
        rintro e w1 ⟨rfl, hE1⟩
        have hcell1 := hE1.cell hcell
        go_wp2_with fail
        go_roundw
        case rel => exact ⟨k + 1, by omega, by omega, by go_num, by rw [HS.out, HP.out], hE.trans hE1⟩
        case measure => simp [intOf]; omega
      · have HP := Lib.hid (pick_no f n _ _ hcmp)
        go_wp2_with fail
        refine (less_any f n _ _ pf pn _ hp0 hp1).mono ?_
        rintro e w1 ⟨rfl, hE1⟩
        have hcell1 := hE1.cell hcell
        go_wp2_with fail
        go_roundw
        case rel => exact ⟨k + 1, by omega, by omega, by go_num, by rw [HS.out, HP.out], hE.trans hE1⟩
        case measure => simp [intOf]; omega
    · have HT := Lib.hid (show L.take k = L from List.take_of_length_le (by rw [HL.out]; omega))
      go_wp2_with fail
      go_ret
      exact ⟨_, rfl, hE, val_int (by rw [HT.out])⟩

/-- A slice of integers that reads as the list L. -/
def Ints (w : World) (v : Value) (L : List Int) : Prop := Mem.Row w v L.length (Mem.ints L)
theorem Ints.mono {w w' : World} {v : Value} {L : List Int} (h : Ints w v L) (hE : Reg.Ext w w') : Ints w' v L := Mem.Row.mono h hE
theorem ints_get (L : List Int) (i : Nat) (h : i < L.length) : (Mem.ints L)[i]? = some (.int .i64 (nth L i)) := by
  simp [Mem.ints, nth, h]
theorem Ints.cases {w : World} {v : Value} {L : List Int} (h : Ints w v L) : (L = [] ∧ ∃ a c, v = .slice a 0 c ∧ c ≤ 9223372036854775807) ∨
    (0 < L.length ∧ ∃ b off c, v = .slice (some ⟨b, off, none⟩) L.length c ∧ L.length ≤ c ∧ c ≤ 9223372036854775807 ∧ ∀ i, i < L.length → w.cell? ⟨b, off + i, none⟩ = some (.int .i64 (nth L i))) := by
  rcases h with ⟨h0, _, rfl | ⟨a, c, rfl, hc⟩⟩ | ⟨h0, b, off, c, h1, h2, h3, h4⟩
  · exact .inl ⟨List.length_eq_zero_iff.1 h0, _, 0, rfl, by omega⟩
  · exact .inl ⟨List.length_eq_zero_iff.1 h0, _, _, rfl, hc⟩
  · exact .inr ⟨h0, b, off, c, h1, h2, h3, fun i hi => h4 i _ (ints_get L i hi)⟩

open Reg in
set_option maxHeartbeats 1000000 in
theorem choose_any (f n : Int) (v : Value) (L : List Int) (w : World) (h : Ints w v L) :
    Calls Try.prog 12 #[.int .i64 f, .int .i64 n, v] w (Ret (fun v _ => v = .int .i64 (choose f n L)) w) := by
  rcases h.cases with ⟨rfl, a, c, rfl, _⟩ | ⟨h0, b, off, c, rfl, hlc, hcm, hc⟩
  all_goals clear h
  · go_enter Try.func12, Try.ntmps12
    go_wp2_with fail
    go_ret
    exact ⟨_, rfl, ((Ext.refl _).alloc _).alloc _, rfl⟩
  · have HC := Lib.hid hc
    clear hc
    obtain ⟨m, hm⟩ : ∃ m, L.length = m := ⟨_, rfl⟩
    rw [hm] at hlc h0 ⊢
    have HM := Lib.hid hm
    clear hm
    have hne : ((m : Int) == 0) = false := by simp; omega
    go_enter Try.func12, Try.ntmps12
    go_wp2_with fail
    refine (maxFunc_any f n _ _ _ ?_ ?_ b off m c L HM.out (by omega) (by omega) ?_).mono ?_
    · simp [go_sem]
    · simp [go_sem]
    · intro i hi
      exact (((Ext.refl w).alloc _).alloc _).cell (HC.out i (by rw [HM.out]; exact hi))
    · rintro e w1 ⟨x, rfl, hE, rfl⟩
      go_wp2_with fail
      go_ret
      exact ⟨_, rfl, (((Ext.refl _).alloc _).alloc _).trans hE, rfl⟩

open Reg in
set_option maxHeartbeats 2000000 in
theorem refChoose_core (f n : Int) (w : World) (W : Int → Int) (z R : Nat → Int) (b off m c : Nat) (hl : m ≤ 9223372036854775807) (h0 : 0 < m)
    (HW : Hid (∀ a w, Calls Try.prog 11 #[.int .i64 f, .int .i64 n, .int .i64 a] w fun e w' => e = .returned (.int .u64 (W a)) ∧ w = w'))
    (HC : Hid (∀ i, i < m → w.cell? ⟨b, off + i, none⟩ = some (.int .i64 (z i)))) (H0 : Hid (R 0 = z 0)) (H1 : Hid (∀ k, k < m → W (R k) < W (z k) → R (k + 1) = z k)) (H2 : Hid (∀ k, k < m → W (z k) < W (R k) → R (k + 1) = R k))
    (H3 : Hid (∀ k, k < m → W (z k) = W (R k) → z k < R k → R (k + 1) = z k)) (H4 : Hid (∀ k, k < m → W (z k) = W (R k) → R k ≤ z k → R (k + 1) = R k)) :
    Calls Try.prog 13 #[.int .i64 f, .int .i64 n, .slice (some ⟨b, off, none⟩) m c] w (Ret (fun v _ => v = .int .i64 (R m)) w) := by
  have hne : ((m : Int) == 0) = false := by simp; omega
  have hp : (0 : Int) < (m : Int) := by omega
  have hc0 : w.cell? ⟨b, off, none⟩ = some (.int .i64 (z 0)) := HC.out 0 h0
  go_enter Try.func13, Try.ntmps13
  go_wp2_with fail
  go_loop [7, 8, 9, 10] (fun v i _ _ => ∃ k : Nat, k ≤ m ∧ i = .int .i64 k ∧ v = .int .i64 (R k)) (fun _ i _ _ => m - (intOf i).toNat)
  case atStart => exact ⟨0, by omega, rfl, val_int H0.out.symm⟩
  case round =>
    obtain ⟨k, hk2, rfl, rfl⟩ := hrel
    by_cases hlt : k < m
    · have hcell := HC.out k hlt
      rcases Int.lt_trichotomy (W (R k)) (W (z k)) with hw | hw | hw
      · have HP := Lib.hid (H1.out k hlt hw)
        go_wp2_with (go_at_call 11; refine (HW.out _ _).mono ?_; rintro e w' ⟨rfl, rfl⟩)
        go_round
        case rel => exact ⟨k + 1, by omega, by go_num, val_int HP.out.symm⟩
        case measure => simp [intOf]; omega
      · have hq : (W (z k) == W (R k)) = true := by simp [hw]
        have hq' : ¬ W (R k) < W (z k) := by omega
        by_cases hx : z k < R k
        · have HP := Lib.hid (H3.out k hlt hw.symm hx)
          clear hw
          go_wp2_with (go_at_call 11; refine (HW.out _ _).mono ?_; rintro e w' ⟨rfl, rfl⟩)
          go_round
          case rel => exact ⟨k + 1, by omega, by go_num, val_int HP.out.symm⟩
          case measure => simp [intOf]; omega
        · have HP := Lib.hid (H4.out k hlt hw.symm (by omega))
          clear hw
          go_wp2_with (go_at_call 11; refine (HW.out _ _).mono ?_; rintro e w' ⟨rfl, rfl⟩)
          go_round
          case rel => exact ⟨k + 1, by omega, by go_num, val_int HP.out.symm⟩
          case measure => simp [intOf]; omega
      · have HP := Lib.hid (H2.out k hlt hw)
        have hq : (W (z k) == W (R k)) = false := by simp; omega
        go_wp2_with (go_at_call 11; refine (HW.out _ _).mono ?_; rintro e w' ⟨rfl, rfl⟩)
        go_round
        case rel => exact ⟨k + 1, by omega, by go_num, val_int HP.out.symm⟩
        case measure => simp [intOf]; omega
    · obtain rfl : k = m := by omega
      go_wp2_with fail
      go_ret
      exact ⟨_, rfl, Ext.refl _, rfl⟩

open Reg in
set_option maxHeartbeats 1000000 in
theorem refChoose_any (f n : Int) (v : Value) (L : List Int) (w : World) (h : Ints w v L) :
    Calls Try.prog 13 #[.int .i64 f, .int .i64 n, v] w (Ret (fun v _ => v = .int .i64 (choose f n L)) w) := by
  rcases h.cases with ⟨rfl, a, c, rfl, _⟩ | ⟨h0, b, off, c, rfl, hlc, hcm, hc⟩
  all_goals clear h
  · go_enter Try.func13, Try.ntmps13
    go_wp2_with fail
    go_ret
    exact ⟨_, rfl, Ext.refl _, rfl⟩
  · have := refChoose_core f n w (wt f n) (nth L) (chooseR f n L) b off L.length c (by omega) (by omega) (refWeight_any f n) hc (chooseR_zero f n L)
      (fun k hk h => (chooseR_step f n L k hk).trans (pick_gt f n _ _ h)) (fun k hk h => (chooseR_step f n L k hk).trans (pick_lt f n _ _ h))
      (fun k hk h h2 => (chooseR_step f n L k hk).trans (pick_eq_lt f n _ _ h h2)) (fun k hk h h2 => (chooseR_step f n L k hk).trans (pick_eq_ge f n _ _ h (by omega)))
    rw [chooseR_all f n L L.length (by omega) (Nat.le_refl _)] at this
    exact this

open Reg in
set_option maxHeartbeats 1000000 in
theorem awake_any (w : World) : Calls Try.prog 9 #[] w (Ret (fun v _ => v = .bool true) w) := by
  have HZ := Lib.hid wt_000
  go_enter Try.func9, Try.ntmps9
  go_wp2_with fail
  refine (weight_any 0 0 0 _).mono ?_
  rintro e w' ⟨rfl, rfl⟩
  rw [HZ.out]
  go_wp2_with fail
  refine (choose_any 5 1 _ [] _ (.inl ⟨rfl, rfl, .inl rfl⟩)).mono ?_
  rintro e w1 ⟨x, rfl, hE1, rfl⟩
  rw [choose_nil]
  go_wp2_with fail
  refine (choose_any 5 1 _ [7] _ (.inr ⟨by decide, w1.heap.size, 0, 1, rfl, by decide, by decide, ?_⟩)).mono ?_
  · intro i u hi
    cases i with
    | zero => simp [Mem.ints] at hi; subst hi; simp [go_sem]
    | succ i => simp [Mem.ints] at hi
  rintro e w2 ⟨x, rfl, hE2, rfl⟩
  rw [choose_single]
  go_wp2_with fail
  refine (weight_any 1 0 0 _).mono ?_
  rintro e w' ⟨rfl, rfl⟩
  go_wp2_with fail
  refine (refWeight_any 1 0 0 _).mono ?_
  rintro e w' ⟨rfl, rfl⟩
  generalize wt 1 0 0 = q
  go_wp2_with fail
  go_ret
  exact ⟨_, rfl, hE1.trans (((Ext.refl _).alloc _).trans hE2), rfl⟩

end Flow
end Go.Proofs.Ytcieillicpbebaa
