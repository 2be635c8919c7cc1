/- FlowhashRemoved returns true for every input: if an arc that is not chosen is removed, the choice stays the same. No conditions. -/
import Derived.Test.YtcieillicpbebaaFlowOpen
import Derived.Test.YtcieillicpbebaaFlowMax
import Derived.Deep.RegionHeld3
namespace Go.Proofs.Ytcieillicpbebaa.flowhashRemoved
open Go.ChangeShapes Go.WideShapes Go.ChangeAt Go.RowKit
open Flow Reg Mem
set_option linter.unusedVariables false

theorem info_int : (Try.prog.info? 3).map (fun i => (i.zero, i.size, i.bytes)) = some (some (.int .i64 0), 1, 8) := by kernel_rfl
theorem size_int (w : World) : (sizeOf 3).run Try.prog w = .ok 1 w := by kernel_rfl

theorem removed_row {w : World} {B : Nat} {v : Value} {L : List Int} {k : Nat} (hk : k < L.length) (h : w.ownsRow B 3 1 v (0 + k + (L.length - (k + 1))) ([] ++ List.take (k * 1) (ints L) ++ List.drop ((k + 1) * 1) (ints L))) : Ints w v (L.take k ++ L.drop (k + 1)) := by
  have := Row.owns h
  unfold Ints
  rw [show (L.take k ++ L.drop (k + 1)).length = 0 + k + (L.length - (k + 1)) by simp; omega, show ints (L.take k ++ L.drop (k + 1)) = [] ++ List.take (k * 1) (ints L) ++ List.drop ((k + 1) * 1) (ints L) by simp [ints]]
  exact this

set_option maxHeartbeats 2000000 in
theorem walk (f n k : Int) (v : Value) (L : List Int) (w : World) (h : Ints w v L) : Calls Try.prog 6 #[.agg #[.int .i64 f, .int .i64 n], v, .int .i64 k] w (Ret (fun v _ => v = .bool true) w) := by
  have HG := Lib.hid h.cases
  obtain ⟨a, m, c, rfl, hm⟩ : ∃ a m c, v = .slice a m c ∧ m = L.length := by
    rcases h.cases with ⟨rfl, a, c, rfl, _⟩ | ⟨_, b, off, c, rfl, _⟩
    · exact ⟨_, _, _, rfl, rfl⟩
    · exact ⟨_, _, _, rfl, rfl⟩
  have H := Lib.hid h
  have HM := Lib.hid hm
  clear h hm
  by_cases h60 : (60 : Int) < (m : Int)
  · go_enter Try.func6, Try.ntmps6
    go_wp2_with fail
    refine (awake_any _).mono ?_
    rintro e w1 ⟨x, rfl, hE1, rfl⟩
    go_wp2_with fail
    refine (awake_any _).mono ?_
    rintro e w2 ⟨x, rfl, hE2, rfl⟩
    go_wp2_with fail
    go_ret
    exact ⟨_, rfl, ((Ext.refl w).alloc _).trans (hE1.trans hE2), rfl⟩
  · by_cases hk0 : k < 0
    · go_enter Try.func6, Try.ntmps6
      go_wp2_with fail
      refine (awake_any _).mono ?_
      rintro e w1 ⟨x, rfl, hE1, rfl⟩
      go_wp2_with fail
      refine (awake_any _).mono ?_
      rintro e w2 ⟨x, rfl, hE2, rfl⟩
      go_wp2_with fail
      go_ret
      exact ⟨_, rfl, ((Ext.refl w).alloc _).trans (hE1.trans hE2), rfl⟩
    · by_cases hkm : (m : Int) ≤ k
      · go_enter Try.func6, Try.ntmps6
        go_wp2_with fail
        refine (awake_any _).mono ?_
        rintro e w1 ⟨x, rfl, hE1, rfl⟩
        go_wp2_with fail
        refine (awake_any _).mono ?_
        rintro e w2 ⟨x, rfl, hE2, rfl⟩
        go_wp2_with fail
        go_ret
        exact ⟨_, rfl, ((Ext.refl w).alloc _).trans (hE1.trans hE2), rfl⟩
      · obtain ⟨k, rfl⟩ := Int.eq_ofNat_of_zero_le (by omega : 0 ≤ k)
        obtain ⟨b, off, rfl, hcell⟩ : ∃ b off, a = some ⟨b, off, none⟩ ∧ w.cell? ⟨b, off + k, none⟩ = some (.int .i64 (nth L k)) := by
          have hkL : k < L.length := by rw [← HM.out]; omega
          rcases HG.out with ⟨e, _⟩ | ⟨_, b, off, c', hv, _, _, hcc⟩
          · rw [e] at hkL; simp at hkL
          · simp only [Value.slice.injEq] at hv
            exact ⟨b, off, hv.1, hcc k hkL⟩
        clear HG
        have hrun1 := run_highOf (P := Try.prog) .i64 k Try.underlying26 size_int H.out (by rw [← HM.out]; omega)
        have hrun2 : ∀ w', (Instr.sliceAt 26 (.slice (some ⟨b, off, none⟩) m c) (some (.int .i64 ((k : Int) + 1))) none none).run Try.prog w' = .ok (lowOf 1 (k + 1) (.slice (some ⟨b, off, none⟩) m c)) w' := by
          have := run_lowOf (P := Try.prog) .i64 (k + 1) Try.underlying26 size_int H.out (by rw [← HM.out]; omega)
          rw [show ((k + 1 : Nat) : Int) = (k : Int) + 1 from by omega] at this
          exact this
        have HL1 := Lib.hid fun w' (h : Ints w' (.slice (some ⟨b, off, none⟩) m c) L) => Row.high (size := 1) k h (by rw [← HM.out]; omega)
        have HL2 := Lib.hid fun w' (h : Ints w' (.slice (some ⟨b, off, none⟩) m c) L) => Row.low (size := 1) (k + 1) h (by simp [ints_len]) (by rw [← HM.out]; omega)
        generalize highOf 1 k (.slice (some ⟨b, off, none⟩) m c) = V1 at *
        generalize lowOf 1 (k + 1) (.slice (some ⟨b, off, none⟩) m c) = V2 at *
        have hkm' : (k : Int) < (m : Int) := by omega
        have hk1 : (0 : Int) ≤ (k : Int) + 1 := by omega
        have hcell' := hcell
        by_cases hq : nth L k = Flow.choose f n L
        · have hq' : (nth L k == Flow.choose f n L) = true := by rw [beq_iff_eq]; exact hq
          clear hq
          go_enter Try.func6, Try.ntmps6
          go_wp2_with fail
          refine (awake_any _).mono ?_
          rintro e w1 ⟨x, rfl, hE1, rfl⟩
          have hb0 : w1.cell? ⟨w.heap.size, 0, none⟩ = some (.int .i64 f) := hE1.cell (by simp [go_sem])
          have hb1 : w1.cell? ⟨w.heap.size, 1, none⟩ = some (.int .i64 n) := hE1.cell (by simp [go_sem])
          have hlt : w.heap.size < w1.heap.size := by have := hE1.size; simp at this; omega
          have HE := Lib.hid (show Ext w w1 from ((Ext.refl w).alloc _).trans hE1)
          clear hE1
          go_wp2_with fail
          refine (choose_any _ _ _ L _ (H.out.mono HE.out)).mono ?_
          rintro e w2 ⟨x, rfl, hE2, rfl⟩
          have hcell2 := (HE.out.trans hE2).cell hcell'
          clear hcell
          go_wp2_with fail
          go_ret
          exact ⟨_, rfl, HE.out.trans hE2, rfl⟩
        · have hq' : (nth L k == Flow.choose f n L) = false := by rw [beq_eq_false_iff_ne]; exact hq
          have HC := Lib.hid (choose_removed f n L k (by rw [← HM.out]; omega) hq)
          clear hq
          go_enter Try.func6, Try.ntmps6
          go_wp2_with fail
          refine (awake_any _).mono ?_
          rintro e w1 ⟨x, rfl, hE1, rfl⟩
          have hb0 : w1.cell? ⟨w.heap.size, 0, none⟩ = some (.int .i64 f) := hE1.cell (by simp [go_sem])
          have hb1 : w1.cell? ⟨w.heap.size, 1, none⟩ = some (.int .i64 n) := hE1.cell (by simp [go_sem])
          have hlt : w.heap.size < w1.heap.size := by have := hE1.size; simp at this; omega
          have HE := Lib.hid (show Ext w w1 from ((Ext.refl w).alloc _).trans hE1)
          clear hE1
          go_wp2_with fail
          refine (choose_any _ _ _ L _ (H.out.mono HE.out)).mono ?_
          rintro e w2 ⟨x, rfl, hE2, rfl⟩
          have hcell2 := (HE.out.trans hE2).cell hcell'
          have hc0 := hE2.cell hb0
          have hc1 := hE2.cell hb1
          have HE2 := Lib.hid (HE.out.trans hE2)
          clear hcell hE2 hb0 hb1
          go_wp2_with fail
          have hs2 : w.heap.size < w2.heap.size := Ext.lt hc0
          have hm60 : m ≤ 60 := by omega
          have H1 := Lib.hid ((World.ownsRow_lit (base := w2.heap.size) (e := 3) (size := 1) w2 #[] 0 (Nat.le_refl _) (by decide) rfl).drew)
          have HB1 := Lib.hid (show Below w2.heap.size w2 (w2.alloc (.cells #[] 3)).drew from ((Below.refl _ _).alloc (Nat.le_refl _) _).drew)
          have HX := Lib.hid (H.out.mono HE2.out)
          obtain ⟨B0, hB⟩ : ∃ B, w.heap.size = B := ⟨_, rfl⟩
          rw [hB] at hc0 hc1 hs2 ⊢
          clear hB hcell' hcell2 hlt
          have hwr : IntKind.i64.wrap ((k : Int) + 1) = (k : Int) + 1 := IntWalk.i64_in _ (by omega)
          go_region_held3 (fun w' => w'.cell? ⟨B0, 0, none⟩ = some (.int .i64 f) ∧ w'.cell? ⟨B0, 1, none⟩ = some (.int .i64 n))
            (first
              | go_keep
              | (exact ⟨(Ext.of HB3.out).cell hc0, (Ext.of HB3.out).cell hc1⟩)
              | (exact ⟨(Ext.of HB4.out).cell hc0, (Ext.of HB4.out).cell hc1⟩)
              | (exact ⟨((Ext.of HB4.out).trans hE5).cell hc0, ((Ext.of HB4.out).trans hE5).cell hc1⟩))
            (first
              | (refine step_append_row (by rfl) (.tmp 42) (.tmp 45) 26 (by rfl) w2.heap.size 3 Try.underlying26 info_int rfl (by decide) (v := .slice (some ⟨w2.heap.size, 0, none⟩) 0 0) (by rfl) H1.out (xv := V1) (by rfl) (HL1.out _ (HX.out.mono (Ext.of HB1.out))) (by simp [ints_len]; rw [← HM.out]; omega) (fun u hu => ints_one L u (List.mem_of_mem_take hu)) (by unfold maxLen; omega) (by omega) (by simp) ?_; intro v3 w3 hown3 hg3; have H3 := Lib.hid hown3; have HB3 := Lib.hid (grown_below HB1.out H1.out (Nat.le_refl _) (by simp) hg3); have hs3 := hg3.size; clear hown3 hg3)
              | (refine step_append_row (by rfl) (.tmp 46) (.tmp 50) 26 (by rfl) w2.heap.size 3 Try.underlying26 info_int rfl (by decide) (v := v3) (by rfl) H3.out (xv := V2) (by rfl) (HL2.out _ (HX.out.mono (Ext.of HB3.out))) (by simp [ints_len]) (fun u hu => ints_one L u (List.mem_of_mem_drop hu)) (by rw [← HM.out]; unfold maxLen; omega) (by rw [← HM.out]; omega) HB3.out.size ?_; intro v4 w4 hown4 hg4; have H4 := Lib.hid hown4; have HB4 := Lib.hid (grown_below HB3.out H3.out (Nat.le_refl _) HB3.out.size hg4); clear hown4 hg4)
              | (go_at_call 12; refine (choose_any _ _ _ (L.take k ++ L.drop (k + 1)) _ (removed_row (by rw [← HM.out]; omega) H4.out)).mono ?_; rintro e w5 ⟨x, rfl, hE5, rfl⟩))
          rw [HC.out]
          generalize Flow.choose f n L = q at *
          go_wp2_with fail
          go_ret
          exact ⟨_, rfl, HE2.out.trans ((Ext.of HB4.out).trans hE5), by show Value.bool (q == q) = .bool true; simp⟩

set_option maxRecDepth 100000 in
theorem lifted (os : Os) (started : os.Started) (H : Type) (enc : TypeId × Value → H) :
    ReturnsInHanded {} Try.checked os 6 .any (Rows.flowhashRemovedSpec.pre6 enc Try.prog Try.f6 Rows.flowhashRemovedRow.domain false) (Rows.flowhashRemovedSpec.post enc Try.prog Try.f6 false true false false) := by
  refine returnsInHanded_of_change (C := Try.checked) own started (by kernel_rfl) Try.func6
    (ChangeSpec.witness6 (enc := enc) (C := Try.checked) false ⟨#[], #[.agg #[.int .i64 0, .int .i64 0], .slice none 0 0, .int .i64 0], []⟩ 8 (by kernel_rfl) (by kernel_rfl) (by kernel_rfl) (by kernel_rfl)) ?_
  intro W base args ds gs before hval0 hW hcnd _
  have hval : ∀ (j : Nat) t v, Try.f6.params[j]? = some t → args[j]? = some v → Value.okWide Try.prog W .any base t v := hval0
  have hW' := hW
  obtain ⟨p, q, hA0, hV, rfl, hfz, hnd⟩ := hW
  have hA : DataW.TrodAll enc Try.prog W 0 (fun _ => true) true Try.f6.params.toList args.toList ds p := hA0
  rw [Try.params6] at hA hval
  obtain ⟨v0, vs0, d0, ds0, p0, q0, hargs, rfl, rfl, h0, r0⟩ := trodAll_cons hA
  obtain ⟨v1, vs1, d1, ds1, p1, q1, rfl, rfl, rfl, h1, r1⟩ := trodAll_cons r0
  obtain ⟨v2, vs2, d2, ds2, p2, q2, rfl, rfl, rfl, h2, r2⟩ := trodAll_cons r1
  obtain ⟨rfl, rfl, rfl⟩ := trodAll_nil r2
  obtain rfl : args = #[v0, v1, v2] := by cases args; simp_all
  obtain ⟨rfl, rfl⟩ := trodVars_none hV
  have lt0 := lt_of h0
  obtain ⟨f, n, rfl, wf, wn⟩ := flow_of (hval 0 30 v0 rfl rfl) h0
  have lt1 := lt_of h1
  obtain ⟨L, hI, _⟩ := ints_of (hval 1 26 v1 rfl rfl) h1
  have lt2 := lt_of h2
  obtain ⟨k, rfl, wk⟩ := int_of (hval 2 3 v2 rfl rfl) h2
  clear hA0 hval0
  refine (walk f n k v1 L W hI).mono fun e W' ⟨x, he, bel, hx⟩ => ?_
  subst hx
  subst he
  exact ⟨_, rfl, _, _, _, [], _, [], hW', trodAll_mk1 (shut_bool Try.underlying4 _), (trodAll_cons_mk (Below.trod laidOut (by kernel_rfl) (of_decide_eq_true (by kernel_rfl)) h0 bel lt0) (trodAll_cons_mk (Below.trod laidOut (by kernel_rfl) (of_decide_eq_true (by kernel_rfl)) h1 bel lt1) (trodAll_cons_mk (Below.trod laidOut (by kernel_rfl) (of_decide_eq_true (by kernel_rfl)) h2 bel lt2) trodAll_mk0))), rfl, bel.frame _, fun h => by cases h⟩

theorem over : Rows.flowhashRemovedRow.holds Try.pinned (OpenSpec.ofChange Rows.flowhashRemovedSpec) :=
  OpenClaim.holds_of_wide 6 Try.f6 rfl rfl rfl rfl rfl rfl rfl ⟨rfl, rfl, rfl, rfl, rfl⟩ rfl rfl rfl rfl rfl (by kernel_rfl) Try.func6 (by kernel_rfl)
    (of_decide_eq_true (by kernel_rfl)) (by unfold Func.isWrapper; first | (rw [if_pos (by decide +kernel)]; kernel_rfl) | (rw [if_neg (by decide +kernel)]; exact ⟨rfl, rfl⟩))
    (fun os started H enc _ => lifted os started H enc)

theorem proved : Rows.FlowhashRemovedSaid := over

end Go.Proofs.Ytcieillicpbebaa.flowhashRemoved
