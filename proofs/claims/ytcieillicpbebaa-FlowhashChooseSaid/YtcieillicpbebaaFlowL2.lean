/- FlowhashChoose returns true for every input: Choose returns what the reference says. No conditions. -/
import Derived.Test.YtcieillicpbebaaFlowOpen
import Derived.Test.YtcieillicpbebaaFlowMax
import Derived.Deep.RegionHeld3
namespace Go.Proofs.Ytcieillicpbebaa.flowhashChoose
open Go.ChangeShapes Go.WideShapes Go.ChangeAt Go.RowKit
open Flow Reg Mem
set_option linter.unusedVariables false

set_option maxHeartbeats 1000000 in
theorem walk (a0 a1 : Int) (v : Value) (L : List Int) (w : World) (h : Ints w v L) : Calls Try.prog 4 #[.int .i64 a0, .int .i64 a1, v] w (Ret (fun v _ => v = .bool true) w) := by
  obtain ⟨a, m, c, rfl, hm⟩ : ∃ a m c, v = .slice a m c ∧ m = L.length := by
    rcases h.cases with ⟨rfl, a, c, rfl, _⟩ | ⟨_, b, off, c, rfl, _⟩
    · exact ⟨_, _, _, rfl, rfl⟩
    · exact ⟨_, _, _, rfl, rfl⟩
  have H := Lib.hid h
  clear h hm
  by_cases h60 : (60 : Int) < (m : Int)
  · go_enter Try.func4, Try.ntmps4
    go_wp2_with fail
    refine (awake_any _).mono ?_
    rintro e w1 ⟨x, rfl, hE1, rfl⟩
    go_wp2_with fail
    refine (awake_any _).mono ?_
    rintro e w2 ⟨x, rfl, hE2, rfl⟩
    go_wp2_with fail
    go_ret
    exact ⟨_, rfl, hE1.trans hE2, rfl⟩
  · go_enter Try.func4, Try.ntmps4
    go_wp2_with fail
    refine (awake_any _).mono ?_
    rintro e w1 ⟨x, rfl, hE1, rfl⟩
    go_wp2_with fail
    refine (choose_any _ _ _ L _ (H.out.mono hE1)).mono ?_
    rintro e w2 ⟨x, rfl, hE2, rfl⟩
    go_wp2_with fail
    refine (refChoose_any _ _ _ L _ (H.out.mono (hE1.trans hE2))).mono ?_
    rintro e w3 ⟨x, rfl, hE3, rfl⟩
    generalize Flow.choose a0 a1 L = q
    go_wp2_with fail
    go_ret
    exact ⟨_, rfl, hE1.trans (hE2.trans hE3), rfl⟩

set_option maxRecDepth 100000 in
theorem lifted (os : Os) (started : os.Started) (H : Type) (enc : TypeId × Value → H) :
    ReturnsInHanded {} Try.checked os 4 .any (Rows.flowhashChooseSpec.pre6 enc Try.prog Try.f4 Rows.flowhashChooseRow.domain false) (Rows.flowhashChooseSpec.post enc Try.prog Try.f4 false true false false) := by
  refine returnsInHanded_of_change (C := Try.checked) own started (by kernel_rfl) Try.func4
    (ChangeSpec.witness6 (enc := enc) (C := Try.checked) false ⟨#[], #[.int .i64 0, .int .i64 0, .slice none 0 0], []⟩ 8 (by kernel_rfl) (by kernel_rfl) (by kernel_rfl) (by kernel_rfl)) ?_
  intro W base args ds gs before hval0 hW hcnd _
  have hval : ∀ (j : Nat) t v, Try.f4.params[j]? = some t → args[j]? = some v → Value.okWide Try.prog W .any base t v := hval0
  have hW' := hW
  obtain ⟨p, q, hA0, hV, rfl, hfz, hnd⟩ := hW
  have hA : DataW.TrodAll enc Try.prog W 0 (fun _ => true) true Try.f4.params.toList args.toList ds p := hA0
  rw [Try.params4] at hA hval
  obtain ⟨v0, vs0, d0, ds0, p0, q0, hargs, rfl, rfl, h0, r0⟩ := trodAll_cons hA
  obtain ⟨v1, vs1, d1, ds1, p1, q1, rfl, rfl, rfl, h1, r1⟩ := trodAll_cons r0
  obtain ⟨v2, vs2, d2, ds2, p2, q2, rfl, rfl, rfl, h2, r2⟩ := trodAll_cons r1
  obtain ⟨rfl, rfl, rfl⟩ := trodAll_nil r2
  obtain rfl : args = #[v0, v1, v2] := by cases args; simp_all
  obtain ⟨rfl, rfl⟩ := trodVars_none hV
  have lt0 := lt_of h0
  obtain ⟨a0, rfl, w0⟩ := int_of (hval 0 3 v0 rfl rfl) h0
  have lt1 := lt_of h1
  obtain ⟨a1, rfl, w1⟩ := int_of (hval 1 3 v1 rfl rfl) h1
  have lt2 := lt_of h2
  obtain ⟨L, hI, _⟩ := ints_of (hval 2 26 v2 rfl rfl) h2
  clear hA0 hval0
  refine (walk a0 a1 v2 L W hI).mono fun e W' ⟨x, he, bel, hx⟩ => ?_
  subst hx
  subst he
  exact ⟨_, rfl, _, _, _, [], _, [], hW', trodAll_mk1 (shut_bool Try.underlying4 _), (trodAll_cons_mk (Below.trod laidOut (by kernel_rfl) (of_decide_eq_true (by kernel_rfl)) h0 bel lt0) (trodAll_cons_mk (Below.trod laidOut (by kernel_rfl) (of_decide_eq_true (by kernel_rfl)) h1 bel lt1) (trodAll_cons_mk (Below.trod laidOut (by kernel_rfl) (of_decide_eq_true (by kernel_rfl)) h2 bel lt2) trodAll_mk0))), rfl, bel.frame _, fun h => by cases h⟩

theorem over : Rows.flowhashChooseRow.holds Try.pinned (OpenSpec.ofChange Rows.flowhashChooseSpec) :=
  OpenClaim.holds_of_wide 4 Try.f4 rfl rfl rfl rfl rfl rfl rfl ⟨rfl, rfl, rfl, rfl, rfl⟩ rfl rfl rfl rfl rfl (by kernel_rfl) Try.func4 (by kernel_rfl)
    (of_decide_eq_true (by kernel_rfl)) (by unfold Func.isWrapper; first | (rw [if_pos (by decide +kernel)]; kernel_rfl) | (rw [if_neg (by decide +kernel)]; exact ⟨rfl, rfl⟩))
    (fun os started H enc _ => lifted os started H enc)

theorem proved : Rows.FlowhashChooseSaid := over

end Go.Proofs.Ytcieillicpbebaa.flowhashChoose
