/- The contracts of the reference of layer 9: within, Valid, Arcs, Tail, Head, Cost, Overloaded. -/
import Derived.Test.YtkaalpdfppbdeaaDoorValid
namespace Go.Proofs.YtkaalpdfppbdeaaDoor
namespace Net
open Go.ChangeShapes Go.WideShapes Go.ChangeAt Go.RowKit
open Reg Mem

set_option maxHeartbeats 400000 in
theorem rwithin_same (n lo hi : Int) (w : World) : Calls Tryd.prog 72 #[.int .i64 n, .int .i64 lo, .int .i64 hi] w (fun e w' => e = .returned (.bool (withinB n lo hi)) ∧ w = w') := by
  by_cases h0 : lo ≤ n
  · have HR := Lib.hid (show decide (n ≤ hi) = withinB n lo hi by simp [withinB, h0])
    go_enter Tryd.func72, Tryd.ntmps72
    go_wp2
    go_ret
    exact ⟨congrArg Ending.returned (val_bool HR.out), rfl⟩
  · have HR := Lib.hid (show false = withinB n lo hi by simp [withinB, h0])
    have hd : decide (lo ≤ n) = false := by simp; omega
    go_enter Tryd.func72, Tryd.ntmps72
    go_wp2
    go_ret
    exact ⟨congrArg Ending.returned (val_bool HR.out), rfl⟩
theorem rwithin_any (n lo hi : Int) (w : World) : Calls Tryd.prog 72 #[.int .i64 n, .int .i64 lo, .int .i64 hi] w (Ret (fun x _ => x = .bool (withinB n lo hi)) w) := ret_same (rwithin_same n lo hi w)
theorem within_node (T : Topo) (n : Int) : withinB n 0 (T.nodes - 1) = nodeB T n := by
  unfold withinB nodeB
  exact decide_eq_decide.2 (by omega)
theorem validB_eq (T : Topo) {p0 p1 p2 p3 : Bool} (h0 : withinB T.nodes 1 64 = p0) (h1 : ((T.over.length : Int) != 0) = p1) (h2 : ((T.over.length : Int) != T.nodes) = p2) (h3 : decide (256 < (T.links.length : Int)) = p3) :
    validB T = (!((!p0 || (p1 && p2)) || p3) && T.links.all (linkOK T)) := by
  subst h0 h1 h2 h3
  unfold validB
  have e1 : decide (T.links.length ≤ 256) = !decide (256 < (T.links.length : Int)) := by rw [Bool.eq_iff_iff]; simp; omega
  have e2 : decide (T.over.length = 0) = !((T.over.length : Int) != 0) := by rw [Bool.eq_iff_iff]; simp
  have e3 : decide ((T.over.length : Int) = T.nodes) = !((T.over.length : Int) != T.nodes) := by rw [Bool.eq_iff_iff]; simp
  rw [e1, e2, e3]
  cases withinB T.nodes 1 64 <;> cases ((T.over.length : Int) != 0) <;> cases ((T.over.length : Int) != T.nodes) <;> cases decide (256 < (T.links.length : Int)) <;> simp
theorem bd_of_within {n lo hi : Int} (h : withinB n lo hi = true) : lo ≤ n ∧ n ≤ hi := by simpa [withinB] using h

set_option maxRecDepth 100000 in
set_option maxHeartbeats 4000000 in
theorem rvalid_any {T : Topo} {v : Value} {w : World} (h : TopoV w v T) : Calls Tryd.prog 51 #[v] w (Ret (fun x _ => x = .bool (validB T)) w) := by
  obtain ⟨so, sl, rfl, h1, h2⟩ := h
  obtain ⟨oa, oc, rfl, ho1, ho2⟩ := row_slice h1
  obtain ⟨la, lc, rfl, hl1, hl2⟩ := row_slice h2
  obtain ⟨p0, P0⟩ : ∃ q, Hid (withinB T.nodes 1 64 = q) := ⟨_, rfl⟩
  obtain ⟨p1, P1⟩ : ∃ q, Hid (((T.over.length : Int) != 0) = q) := ⟨_, rfl⟩
  obtain ⟨p2, P2⟩ : ∃ q, Hid (((T.over.length : Int) != T.nodes) = q) := ⟨_, rfl⟩
  obtain ⟨p3, P3⟩ : ∃ q, Hid (decide (256 < (T.links.length : Int)) = q) := ⟨_, rfl⟩
  have HV := Lib.hid (validB_eq T P0.out P1.out P2.out P3.out)
  have H2 := Lib.hid h2
  clear h1 h2
  obtain ⟨m, hmm⟩ : ∃ m, T.links.length = m := ⟨_, rfl⟩
  obtain ⟨mo, hmo⟩ : ∃ m, T.over.length = m := ⟨_, rfl⟩
  rw [hmm] at hl1 hl2 H2 P3 ⊢
  rw [hmo] at ho1 ho2 P1 P2 ⊢
  have HM := Lib.hid hmm
  clear hmm hmo
  go_enter Tryd.func51, Tryd.ntmps51
  go_upto_region 1 with fail
  have b0 : (w.alloc (.cells #[.int .i64 T.nodes, .slice oa mo oc, .slice la m lc] 25)).cell? ⟨w.heap.size, 0, none⟩ = some (.int .i64 T.nodes) := by simp [go_sem]
  have b1 : (w.alloc (.cells #[.int .i64 T.nodes, .slice oa mo oc, .slice la m lc] 25)).cell? ⟨w.heap.size, 1, none⟩ = some (.slice oa mo oc) := by simp [go_sem]
  have b2 : (w.alloc (.cells #[.int .i64 T.nodes, .slice oa mo oc, .slice la m lc] 25)).cell? ⟨w.heap.size, 2, none⟩ = some (.slice la m lc) := by simp [go_sem]
  have HB := Lib.hid (show Ext w (w.alloc (.cells #[.int .i64 T.nodes, .slice oa mo oc, .slice la m lc] 25)) from (Ext.refl w).alloc _)
  obtain ⟨wb, hwb⟩ : ∃ wb, w.alloc (.cells #[.int .i64 T.nodes, .slice oa mo oc, .slice la m lc] 25) = wb := ⟨_, rfl⟩
  rw [hwb] at b0 b1 b2 HB ⊢
  clear hwb
  obtain ⟨B0, hB⟩ : ∃ B, w.heap.size = B := ⟨_, rfl⟩
  rw [hB] at b0 b1 b2 ⊢
  clear hB
  refine Reg.wp_region_seq (fun w => (w.cell? ⟨B0, 0, none⟩ = some (.int .i64 T.nodes)) ∧ (w.cell? ⟨B0, 1, none⟩ = some (.slice oa mo oc)) ∧ (w.cell? ⟨B0, 2, none⟩ = some (.slice la m lc))) [5, 6, 7, 8, 9, 10, 11, 12, 13, 14, 15, 16, 17, 18, 19, 20, 21, 22, 23, 24, 25, 26, 27, 28] (fun w w' hE h => ⟨hE.cell h.1, hE.cell h.2.1, hE.cell h.2.2⟩) (⟨by assumption, by assumption, by assumption⟩) (by kernel_rfl) ?_
  refine Reg.wpAbs_ex ?_
  apply Exists.intro
  refine ⟨?_, ?_⟩
  · intro ρ w₁ hρ hC hs
    have e1 := hs 1 (by decide)
    have hc := hρ.const
    have hf := hρ.func
    have hg := hρ.glob
    clear hs hρ
    change ρ (.tmp 1) = _ at e1
    obtain ⟨hE, ⟨hS1, hS2, hS3⟩⟩ := hC
    refine Reg.step_plain rfl ?_
    clear hf
    go_simp
    exact ⟨Reg.Ext.refl _, rfl⟩
  refine Reg.wpAbs_ex ?_
  apply Exists.intro
  refine ⟨?_, ?_⟩
  · intro ρ w₁ hρ hC hs
    have e5 := hs 5 (by decide)
    have hc := hρ.const
    have hf := hρ.func
    have hg := hρ.glob
    clear hs hρ
    change ρ (.tmp 5) = _ at e5
    obtain ⟨hE, ⟨hS1, hS2, hS3⟩⟩ := hC
    refine Reg.step_plain rfl ?_
    clear hf
    go_simp
    exact ⟨Reg.Ext.refl _, rfl⟩
  refine Reg.wpAbs_fix (.bool (p0)) ?_ ?_
  · intro ρ w₁ hρ hC hs
    have e6 := hs 6 (by decide)
    have hc := hρ.const
    have hf := hρ.func
    have hg := hρ.glob
    clear hs hρ
    change ρ (.tmp 6) = _ at e6
    obtain ⟨hE, ⟨hS1, hS2, hS3⟩⟩ := hC
    refine Reg.step_plain rfl ?_
    rw [Reg.execOp_callR hf]
    clear hf
    go_simp
    refine ⟨Reg.Ext.refl _, ?_⟩
    with_reducible exact (by have := rwithin_any T.nodes 1 64 w₁; rw [P0.out] at this; exact this)
  refine Reg.wpAbs_fix (.bool (!p0)) ?_ ?_
  · intro ρ w₁ hρ hC hs
    have e7 := hs 7 (by decide)
    have hc := hρ.const
    have hf := hρ.func
    have hg := hρ.glob
    clear hs hρ
    change ρ (.tmp 7) = _ at e7
    obtain ⟨hE, ⟨hS1, hS2, hS3⟩⟩ := hC
    refine Reg.step_plain rfl ?_
    clear hf
    go_simp
    exact ⟨Reg.Ext.refl _, rfl⟩
  refine Reg.wpAbs_fix (.bool (!p0)) ?_ ?_
  · intro ρ w₁ hρ hC hs
    have e8 := hs 8 (by decide)
    have hc := hρ.const
    have hf := hρ.func
    have hg := hρ.glob
    clear hs hρ
    change ρ (.tmp 8) = _ at e8
    obtain ⟨hE, ⟨hS1, hS2, hS3⟩⟩ := hC
    refine Reg.step_plain rfl ?_
    clear hf
    go_simp
    exact ⟨Reg.Ext.refl _, rfl⟩
  refine Reg.wpAbs_exC (!(!p0)) ?_
  apply Exists.intro
  refine ⟨?_, ?_⟩
  · intro ρ w₁ hρ hC hs
    have e1 := hs 1 (by decide)
    have e9 := hs 9 (by decide)
    have hc := hρ.const
    have hf := hρ.func
    have hg := hρ.glob
    clear hs hρ
    change ρ (.tmp 1) = _ at e1
    change ρ (.tmp 9) = _ at e9
    obtain ⟨hE, ⟨hS1, hS2, hS3⟩⟩ := hC
    refine ⟨fun hgd => ⟨Reg.wanted_of (t := 9) rfl rfl (by rw [e9, show (!p0) = false from Reg.of_not_true hgd]), ?_⟩, fun hgd => ?_⟩
    · clear hf
      go_simp
      exact ⟨Reg.Ext.refl _, rfl⟩
    · exact Reg.unwanted_of (t := 9) rfl rfl (.inl (by rw [e9, show (!p0) = true from Reg.of_not_false hgd]; rfl))
  refine Reg.wpAbs_exC (!(!p0)) ?_
  apply Exists.intro
  refine ⟨?_, ?_⟩
  · intro ρ w₁ hρ hC hs
    have e10 := hs 10 (by decide)
    have e9 := hs 9 (by decide)
    have hc := hρ.const
    have hf := hρ.func
    have hg := hρ.glob
    clear hs hρ
    change ρ (.tmp 10) = _ at e10
    change ρ (.tmp 9) = _ at e9
    obtain ⟨hE, ⟨hS1, hS2, hS3⟩⟩ := hC
    refine ⟨fun hgd => ⟨Reg.wanted_of (t := 9) rfl rfl (by rw [e9, show (!p0) = false from Reg.of_not_true hgd]), ?_⟩, fun hgd => ?_⟩
    · rw [hgd] at e10
      simp only [cond_true] at e10
      clear hf
      go_simp
      exact ⟨Reg.Ext.refl _, rfl⟩
    · exact Reg.unwanted_of (t := 9) rfl rfl (.inl (by rw [e9, show (!p0) = true from Reg.of_not_false hgd]; rfl))
  refine Reg.wpAbs_exC (!(!p0)) ?_
  apply Exists.intro
  refine ⟨?_, ?_⟩
  · intro ρ w₁ hρ hC hs
    have e11 := hs 11 (by decide)
    have e9 := hs 9 (by decide)
    have hc := hρ.const
    have hf := hρ.func
    have hg := hρ.glob
    clear hs hρ
    change ρ (.tmp 11) = _ at e11
    change ρ (.tmp 9) = _ at e9
    obtain ⟨hE, ⟨hS1, hS2, hS3⟩⟩ := hC
    refine ⟨fun hgd => ⟨Reg.wanted_of (t := 9) rfl rfl (by rw [e9, show (!p0) = false from Reg.of_not_true hgd]), ?_⟩, fun hgd => ?_⟩
    · rw [hgd] at e11
      simp only [cond_true] at e11
      clear hf
      go_simp
      exact ⟨Reg.Ext.refl _, rfl⟩
    · exact Reg.unwanted_of (t := 9) rfl rfl (.inl (by rw [e9, show (!p0) = true from Reg.of_not_false hgd]; rfl))
  refine Reg.wpAbs_exC (!(!p0)) ?_
  refine ⟨.bool (p1), ?_, ?_⟩
  · intro ρ w₁ hρ hC hs
    have e12 := hs 12 (by decide)
    have e9 := hs 9 (by decide)
    have hc := hρ.const
    have hf := hρ.func
    have hg := hρ.glob
    clear hs hρ
    change ρ (.tmp 12) = _ at e12
    change ρ (.tmp 9) = _ at e9
    obtain ⟨hE, ⟨hS1, hS2, hS3⟩⟩ := hC
    refine ⟨fun hgd => ⟨Reg.wanted_of (t := 9) rfl rfl (by rw [e9, show (!p0) = false from Reg.of_not_true hgd]), ?_⟩, fun hgd => ?_⟩
    · rw [hgd] at e12
      simp only [cond_true] at e12
      clear hf
      go_simp
      exact ⟨Reg.Ext.refl _, val_bool P1.out⟩
    · exact Reg.unwanted_of (t := 9) rfl rfl (.inl (by rw [e9, show (!p0) = true from Reg.of_not_false hgd]; rfl))
  refine Reg.wpAbs_exC (!(!p0)) ?_
  refine ⟨.bool (p1), ?_, ?_⟩
  · intro ρ w₁ hρ hC hs
    have e13 := hs 13 (by decide)
    have e9 := hs 9 (by decide)
    have hc := hρ.const
    have hf := hρ.func
    have hg := hρ.glob
    clear hs hρ
    change ρ (.tmp 13) = _ at e13
    change ρ (.tmp 9) = _ at e9
    obtain ⟨hE, ⟨hS1, hS2, hS3⟩⟩ := hC
    refine ⟨fun hgd => ⟨Reg.wanted_of (t := 9) rfl rfl (by rw [e9, show (!p0) = false from Reg.of_not_true hgd]), ?_⟩, fun hgd => ?_⟩
    · rw [hgd] at e13
      simp only [cond_true] at e13
      clear hf
      go_simp
      exact ⟨Reg.Ext.refl _, rfl⟩
    · exact Reg.unwanted_of (t := 9) rfl rfl (.inl (by rw [e9, show (!p0) = true from Reg.of_not_false hgd]; rfl))
  refine Reg.wpAbs_exC ((!(!p0)) && p1) ?_
  apply Exists.intro
  refine ⟨?_, ?_⟩
  · intro ρ w₁ hρ hC hs
    have e1 := hs 1 (by decide)
    have e14 := hs 14 (by decide)
    have hc := hρ.const
    have hf := hρ.func
    have hg := hρ.glob
    clear hs hρ
    change ρ (.tmp 1) = _ at e1
    change ρ (.tmp 14) = _ at e14
    obtain ⟨hE, ⟨hS1, hS2, hS3⟩⟩ := hC
    refine ⟨fun hgd => ⟨Reg.wanted_of (t := 14) rfl rfl (by rw [e14, (Bool.and_eq_true_iff.1 hgd).1]; exact congrArg Value.bool ((Bool.and_eq_true_iff.1 hgd).2)), ?_⟩, fun hgd => ?_⟩
    · clear hf
      go_simp
      exact ⟨Reg.Ext.refl _, rfl⟩
    · rcases Bool.eq_false_or_eq_true (!(!p0)) with hz | hz
      · exact Reg.unwanted_of (t := 14) rfl rfl (.inl (by rw [e14, hz]; exact congrArg Value.bool (Reg.of_and hgd hz)))
      · exact Reg.unwanted_of (t := 14) rfl rfl (.inr (by rw [e14, hz]; rfl))
  refine Reg.wpAbs_exC ((!(!p0)) && p1) ?_
  apply Exists.intro
  refine ⟨?_, ?_⟩
  · intro ρ w₁ hρ hC hs
    have e15 := hs 15 (by decide)
    have e14 := hs 14 (by decide)
    have hc := hρ.const
    have hf := hρ.func
    have hg := hρ.glob
    clear hs hρ
    change ρ (.tmp 15) = _ at e15
    change ρ (.tmp 14) = _ at e14
    obtain ⟨hE, ⟨hS1, hS2, hS3⟩⟩ := hC
    refine ⟨fun hgd => ⟨Reg.wanted_of (t := 14) rfl rfl (by rw [e14, (Bool.and_eq_true_iff.1 hgd).1]; exact congrArg Value.bool ((Bool.and_eq_true_iff.1 hgd).2)), ?_⟩, fun hgd => ?_⟩
    · rw [hgd] at e15
      simp only [cond_true] at e15
      clear hf
      go_simp
      exact ⟨Reg.Ext.refl _, rfl⟩
    · rcases Bool.eq_false_or_eq_true (!(!p0)) with hz | hz
      · exact Reg.unwanted_of (t := 14) rfl rfl (.inl (by rw [e14, hz]; exact congrArg Value.bool (Reg.of_and hgd hz)))
      · exact Reg.unwanted_of (t := 14) rfl rfl (.inr (by rw [e14, hz]; rfl))
  refine Reg.wpAbs_exC ((!(!p0)) && p1) ?_
  apply Exists.intro
  refine ⟨?_, ?_⟩
  · intro ρ w₁ hρ hC hs
    have e16 := hs 16 (by decide)
    have e14 := hs 14 (by decide)
    have hc := hρ.const
    have hf := hρ.func
    have hg := hρ.glob
    clear hs hρ
    change ρ (.tmp 16) = _ at e16
    change ρ (.tmp 14) = _ at e14
    obtain ⟨hE, ⟨hS1, hS2, hS3⟩⟩ := hC
    refine ⟨fun hgd => ⟨Reg.wanted_of (t := 14) rfl rfl (by rw [e14, (Bool.and_eq_true_iff.1 hgd).1]; exact congrArg Value.bool ((Bool.and_eq_true_iff.1 hgd).2)), ?_⟩, fun hgd => ?_⟩
    · rw [hgd] at e16
      simp only [cond_true] at e16
      clear hf
      go_simp
      exact ⟨Reg.Ext.refl _, rfl⟩
    · rcases Bool.eq_false_or_eq_true (!(!p0)) with hz | hz
      · exact Reg.unwanted_of (t := 14) rfl rfl (.inl (by rw [e14, hz]; exact congrArg Value.bool (Reg.of_and hgd hz)))
      · exact Reg.unwanted_of (t := 14) rfl rfl (.inr (by rw [e14, hz]; rfl))
  refine Reg.wpAbs_exC ((!(!p0)) && p1) ?_
  apply Exists.intro
  refine ⟨?_, ?_⟩
  · intro ρ w₁ hρ hC hs
    have e1 := hs 1 (by decide)
    have e14 := hs 14 (by decide)
    have hc := hρ.const
    have hf := hρ.func
    have hg := hρ.glob
    clear hs hρ
    change ρ (.tmp 1) = _ at e1
    change ρ (.tmp 14) = _ at e14
    obtain ⟨hE, ⟨hS1, hS2, hS3⟩⟩ := hC
    refine ⟨fun hgd => ⟨Reg.wanted_of (t := 14) rfl rfl (by rw [e14, (Bool.and_eq_true_iff.1 hgd).1]; exact congrArg Value.bool ((Bool.and_eq_true_iff.1 hgd).2)), ?_⟩, fun hgd => ?_⟩
    · clear hf
      go_simp
      exact ⟨Reg.Ext.refl _, rfl⟩
    · rcases Bool.eq_false_or_eq_true (!(!p0)) with hz | hz
      · exact Reg.unwanted_of (t := 14) rfl rfl (.inl (by rw [e14, hz]; exact congrArg Value.bool (Reg.of_and hgd hz)))
      · exact Reg.unwanted_of (t := 14) rfl rfl (.inr (by rw [e14, hz]; rfl))
  refine Reg.wpAbs_exC ((!(!p0)) && p1) ?_
  apply Exists.intro
  refine ⟨?_, ?_⟩
  · intro ρ w₁ hρ hC hs
    have e18 := hs 18 (by decide)
    have e14 := hs 14 (by decide)
    have hc := hρ.const
    have hf := hρ.func
    have hg := hρ.glob
    clear hs hρ
    change ρ (.tmp 18) = _ at e18
    change ρ (.tmp 14) = _ at e14
    obtain ⟨hE, ⟨hS1, hS2, hS3⟩⟩ := hC
    refine ⟨fun hgd => ⟨Reg.wanted_of (t := 14) rfl rfl (by rw [e14, (Bool.and_eq_true_iff.1 hgd).1]; exact congrArg Value.bool ((Bool.and_eq_true_iff.1 hgd).2)), ?_⟩, fun hgd => ?_⟩
    · rw [hgd] at e18
      simp only [cond_true] at e18
      clear hf
      go_simp
      exact ⟨Reg.Ext.refl _, rfl⟩
    · rcases Bool.eq_false_or_eq_true (!(!p0)) with hz | hz
      · exact Reg.unwanted_of (t := 14) rfl rfl (.inl (by rw [e14, hz]; exact congrArg Value.bool (Reg.of_and hgd hz)))
      · exact Reg.unwanted_of (t := 14) rfl rfl (.inr (by rw [e14, hz]; rfl))
  refine Reg.wpAbs_exC ((!(!p0)) && p1) ?_
  refine ⟨.bool (p2), ?_, ?_⟩
  · intro ρ w₁ hρ hC hs
    have e17 := hs 17 (by decide)
    have e19 := hs 19 (by decide)
    have e14 := hs 14 (by decide)
    have hc := hρ.const
    have hf := hρ.func
    have hg := hρ.glob
    clear hs hρ
    change ρ (.tmp 17) = _ at e17
    change ρ (.tmp 19) = _ at e19
    change ρ (.tmp 14) = _ at e14
    obtain ⟨hE, ⟨hS1, hS2, hS3⟩⟩ := hC
    refine ⟨fun hgd => ⟨Reg.wanted_of (t := 14) rfl rfl (by rw [e14, (Bool.and_eq_true_iff.1 hgd).1]; exact congrArg Value.bool ((Bool.and_eq_true_iff.1 hgd).2)), ?_⟩, fun hgd => ?_⟩
    · rw [hgd] at e17
      simp only [cond_true] at e17
      rw [hgd] at e19
      simp only [cond_true] at e19
      clear hf
      go_simp
      exact ⟨Reg.Ext.refl _, val_bool P2.out⟩
    · rcases Bool.eq_false_or_eq_true (!(!p0)) with hz | hz
      · exact Reg.unwanted_of (t := 14) rfl rfl (.inl (by rw [e14, hz]; exact congrArg Value.bool (Reg.of_and hgd hz)))
      · exact Reg.unwanted_of (t := 14) rfl rfl (.inr (by rw [e14, hz]; rfl))
  refine Reg.wpAbs_exC (!(!p0)) ?_
  refine ⟨.bool (p1 && p2), ?_, ?_⟩
  · intro ρ w₁ hρ hC hs
    have e14 := hs 14 (by decide)
    have e20 := hs 20 (by decide)
    have e9 := hs 9 (by decide)
    have hc := hρ.const
    have hf := hρ.func
    have hg := hρ.glob
    clear hs hρ
    change ρ (.tmp 14) = _ at e14
    change ρ (.tmp 20) = _ at e20
    change ρ (.tmp 9) = _ at e9
    obtain ⟨hE, ⟨hS1, hS2, hS3⟩⟩ := hC
    refine ⟨fun hgd => ⟨Reg.wanted_of (t := 9) rfl rfl (by rw [e9, show (!p0) = false from Reg.of_not_true hgd]), ?_⟩, fun hgd => ?_⟩
    · rw [hgd] at e14
      simp only [cond_true] at e14
      rcases Bool.eq_false_or_eq_true (p1) with hb | hb
      · rw [hb] at e14
        rw [show ((!(!p0)) && p1) = true by simp [hgd, hb]] at e20
        simp only [cond_true] at e20
        clear hf
        go_simp
        exact ⟨Reg.Ext.refl _, by first | rfl | simp | simp [hb]⟩
      · rw [hb] at e14
        clear e20
        clear hf
        go_simp
        exact ⟨Reg.Ext.refl _, by first | rfl | simp | simp [hb]⟩
    · exact Reg.unwanted_of (t := 9) rfl rfl (.inl (by rw [e9, show (!p0) = true from Reg.of_not_false hgd]; rfl))
  refine Reg.wpAbs_fix (.bool ((!p0) || (p1 && p2))) ?_ ?_
  · intro ρ w₁ hρ hC hs
    have e9 := hs 9 (by decide)
    have e21 := hs 21 (by decide)
    have hc := hρ.const
    have hf := hρ.func
    have hg := hρ.glob
    clear hs hρ
    change ρ (.tmp 9) = _ at e9
    change ρ (.tmp 21) = _ at e21
    obtain ⟨hE, ⟨hS1, hS2, hS3⟩⟩ := hC
    refine Reg.step_plain rfl ?_
    rcases Bool.eq_false_or_eq_true (!p0) with hb | hb
    · rw [hb] at e9
      clear e21
      clear hf
      go_simp
      exact ⟨Reg.Ext.refl _, by first | rfl | simp | simp [hb]⟩
    · rw [hb] at e9
      rw [show (!(!p0)) = true by simp [hb]] at e21
      simp only [cond_true] at e21
      clear hf
      go_simp
      exact ⟨Reg.Ext.refl _, by first | rfl | simp | simp [hb]⟩
  refine Reg.wpAbs_fix (.bool ((!p0) || (p1 && p2))) ?_ ?_
  · intro ρ w₁ hρ hC hs
    have e22 := hs 22 (by decide)
    have hc := hρ.const
    have hf := hρ.func
    have hg := hρ.glob
    clear hs hρ
    change ρ (.tmp 22) = _ at e22
    obtain ⟨hE, ⟨hS1, hS2, hS3⟩⟩ := hC
    refine Reg.step_plain rfl ?_
    clear hf
    go_simp
    exact ⟨Reg.Ext.refl _, rfl⟩
  refine Reg.wpAbs_exC (!((!p0) || (p1 && p2))) ?_
  apply Exists.intro
  refine ⟨?_, ?_⟩
  · intro ρ w₁ hρ hC hs
    have e1 := hs 1 (by decide)
    have e23 := hs 23 (by decide)
    have hc := hρ.const
    have hf := hρ.func
    have hg := hρ.glob
    clear hs hρ
    change ρ (.tmp 1) = _ at e1
    change ρ (.tmp 23) = _ at e23
    obtain ⟨hE, ⟨hS1, hS2, hS3⟩⟩ := hC
    refine ⟨fun hgd => ⟨Reg.wanted_of (t := 23) rfl rfl (by rw [e23, show ((!p0) || (p1 && p2)) = false from Reg.of_not_true hgd]), ?_⟩, fun hgd => ?_⟩
    · clear hf
      go_simp
      exact ⟨Reg.Ext.refl _, rfl⟩
    · exact Reg.unwanted_of (t := 23) rfl rfl (.inl (by rw [e23, show ((!p0) || (p1 && p2)) = true from Reg.of_not_false hgd]; rfl))
  refine Reg.wpAbs_exC (!((!p0) || (p1 && p2))) ?_
  apply Exists.intro
  refine ⟨?_, ?_⟩
  · intro ρ w₁ hρ hC hs
    have e24 := hs 24 (by decide)
    have e23 := hs 23 (by decide)
    have hc := hρ.const
    have hf := hρ.func
    have hg := hρ.glob
    clear hs hρ
    change ρ (.tmp 24) = _ at e24
    change ρ (.tmp 23) = _ at e23
    obtain ⟨hE, ⟨hS1, hS2, hS3⟩⟩ := hC
    refine ⟨fun hgd => ⟨Reg.wanted_of (t := 23) rfl rfl (by rw [e23, show ((!p0) || (p1 && p2)) = false from Reg.of_not_true hgd]), ?_⟩, fun hgd => ?_⟩
    · rw [hgd] at e24
      simp only [cond_true] at e24
      clear hf
      go_simp
      exact ⟨Reg.Ext.refl _, rfl⟩
    · exact Reg.unwanted_of (t := 23) rfl rfl (.inl (by rw [e23, show ((!p0) || (p1 && p2)) = true from Reg.of_not_false hgd]; rfl))
  refine Reg.wpAbs_exC (!((!p0) || (p1 && p2))) ?_
  apply Exists.intro
  refine ⟨?_, ?_⟩
  · intro ρ w₁ hρ hC hs
    have e25 := hs 25 (by decide)
    have e23 := hs 23 (by decide)
    have hc := hρ.const
    have hf := hρ.func
    have hg := hρ.glob
    clear hs hρ
    change ρ (.tmp 25) = _ at e25
    change ρ (.tmp 23) = _ at e23
    obtain ⟨hE, ⟨hS1, hS2, hS3⟩⟩ := hC
    refine ⟨fun hgd => ⟨Reg.wanted_of (t := 23) rfl rfl (by rw [e23, show ((!p0) || (p1 && p2)) = false from Reg.of_not_true hgd]), ?_⟩, fun hgd => ?_⟩
    · rw [hgd] at e25
      simp only [cond_true] at e25
      clear hf
      go_simp
      exact ⟨Reg.Ext.refl _, rfl⟩
    · exact Reg.unwanted_of (t := 23) rfl rfl (.inl (by rw [e23, show ((!p0) || (p1 && p2)) = true from Reg.of_not_false hgd]; rfl))
  refine Reg.wpAbs_exC (!((!p0) || (p1 && p2))) ?_
  refine ⟨.bool (p3), ?_, ?_⟩
  · intro ρ w₁ hρ hC hs
    have e26 := hs 26 (by decide)
    have e23 := hs 23 (by decide)
    have hc := hρ.const
    have hf := hρ.func
    have hg := hρ.glob
    clear hs hρ
    change ρ (.tmp 26) = _ at e26
    change ρ (.tmp 23) = _ at e23
    obtain ⟨hE, ⟨hS1, hS2, hS3⟩⟩ := hC
    refine ⟨fun hgd => ⟨Reg.wanted_of (t := 23) rfl rfl (by rw [e23, show ((!p0) || (p1 && p2)) = false from Reg.of_not_true hgd]), ?_⟩, fun hgd => ?_⟩
    · rw [hgd] at e26
      simp only [cond_true] at e26
      clear hf
      go_simp
      exact ⟨Reg.Ext.refl _, val_bool P3.out⟩
    · exact Reg.unwanted_of (t := 23) rfl rfl (.inl (by rw [e23, show ((!p0) || (p1 && p2)) = true from Reg.of_not_false hgd]; rfl))
  refine Reg.wpAbs_fix (.bool (((!p0) || (p1 && p2)) || p3)) ?_ ?_
  · intro ρ w₁ hρ hC hs
    have e23 := hs 23 (by decide)
    have e27 := hs 27 (by decide)
    have hc := hρ.const
    have hf := hρ.func
    have hg := hρ.glob
    clear hs hρ
    change ρ (.tmp 23) = _ at e23
    change ρ (.tmp 27) = _ at e27
    obtain ⟨hE, ⟨hS1, hS2, hS3⟩⟩ := hC
    refine Reg.step_plain rfl ?_
    rcases Bool.eq_false_or_eq_true ((!p0) || (p1 && p2)) with hb | hb
    · rw [hb] at e23
      clear e27
      clear hf
      go_simp
      exact ⟨Reg.Ext.refl _, by first | rfl | simp | simp [hb]⟩
    · rw [hb] at e23
      rw [show (!((!p0) || (p1 && p2))) = true by simp [hb]] at e27
      simp only [cond_true] at e27
      clear hf
      go_simp
      exact ⟨Reg.Ext.refl _, by first | rfl | simp | simp [hb]⟩
  refine Reg.wpAbs_nil ?_
  intro w₁ hE hS
  obtain ⟨hS1, hS2, hS3⟩ := hS
  refine Reg.wpFin_fix _ rfl ?_
  refine Reg.wpFin_fix _ rfl ?_
  refine Reg.wpFin_fix _ rfl ?_
  refine Reg.wpFin_fix _ rfl ?_
  refine Reg.wpFin_fix _ rfl ?_
  refine Reg.wpFin_drop (fun x10 => ?_)
  refine Reg.wpFin_drop (fun x11 => ?_)
  refine Reg.wpFin_drop (fun x12 => ?_)
  refine Reg.wpFin_drop (fun x13 => ?_)
  refine Reg.wpFin_drop (fun x14 => ?_)
  refine Reg.wpFin_drop (fun x15 => ?_)
  refine Reg.wpFin_drop (fun x16 => ?_)
  refine Reg.wpFin_drop (fun x17 => ?_)
  refine Reg.wpFin_drop (fun x18 => ?_)
  refine Reg.wpFin_drop (fun x19 => ?_)
  refine Reg.wpFin_drop (fun x20 => ?_)
  refine Reg.wpFin_drop (fun x21 => ?_)
  refine Reg.wpFin_fix _ rfl ?_
  refine Reg.wpFin_fix _ rfl ?_
  refine Reg.wpFin_drop (fun x24 => ?_)
  refine Reg.wpFin_drop (fun x25 => ?_)
  refine Reg.wpFin_drop (fun x26 => ?_)
  refine Reg.wpFin_drop (fun x27 => ?_)
  refine Reg.wpFin_fix _ rfl ?_
  show _
  simp only [Reg.wpFin, List.setIfInBounds_toArray, List.set_cons_succ, List.set_cons_zero]
  have HE1 := Lib.hid hE
  clear hE b0 b1 b2
  rcases Bool.eq_false_or_eq_true ((!p0 || (p1 && p2)) || p3) with hz | hz
  · rw [hz]
    go_wp2_with fail
    go_ret
    exact ⟨_, rfl, HB.out.trans HE1.out, val_bool (by rw [HV.out, hz]; rfl)⟩
  · rw [hz]
    have hp0 : p0 = true := by revert hz; cases p0 <;> simp
    have hp3 : p3 = false := by revert hz; cases p3 <;> simp
    have hbd := bd_of_within (P0.out.trans hp0)
    have hm : (m : Int) ≤ 256 := by have := P3.out.trans hp3; simpa using this
    have HW := Lib.hid (IntWalk.i64_in (T.nodes - 1) (by omega))
    have HZ := Lib.hid hz
    clear hz hp0 hp3
    go_wp2_with fail
    go_loopw [3, 4] (fun i _ wr => ∃ k : Nat, k ≤ m ∧ i = .int .i64 k ∧ (T.links.take k).all (linkOK T) = true ∧ Ext w₁ wr) (fun i _ _ => m - (intOf i).toNat)
    case atStart => exact ⟨0, by omega, rfl, rfl, Ext.refl _⟩
    case round =>
      obtain ⟨k, hk, rfl, ha, hEw⟩ := hrel
      have HA := Lib.hid ha
      have HE := Lib.hid hEw
      have HEw := Lib.hid (HB.out.trans (HE1.out.trans hEw))
      have b0 := hEw.cell hS1
      have b1 := hEw.cell hS2
      have b2 := hEw.cell hS3
      clear ha hEw hS1 hS2 hS3
      by_cases hlt : k < m
      · obtain ⟨b, off, c', hb, _, _, hcells⟩ := row_addr H2.out (by omega)
        simp only [Value.slice.injEq, true_and] at hb
        obtain ⟨rfl, rfl⟩ := hb
        obtain ⟨l, hl⟩ : ∃ l, lnk T.links k = l := ⟨_, rfl⟩
        obtain ⟨k0, k1, k2, k3, k4, k5, k6⟩ := link_cells hcells k (by rw [HM.out]; exact hlt)
        rw [hl] at k0 k1 k2 k3 k4 k5 k6
        have g0 := HEw.out.cell k0
        have g1 := HEw.out.cell k1
        have g2 := HEw.out.cell k2
        have g3 := HEw.out.cell k3
        have g4 := HEw.out.cell k4
        have g5 := HEw.out.cell k5
        have g6 := HEw.out.cell k6
        obtain ⟨q1, G1⟩ : ∃ q, Hid ((l.a == l.b) = q) := ⟨_, rfl⟩
        obtain ⟨q2, G2⟩ : ∃ q, Hid (nodeB T l.a = q) := ⟨_, rfl⟩
        obtain ⟨q3, G3⟩ : ∃ q, Hid (nodeB T l.b = q) := ⟨_, rfl⟩
        obtain ⟨q4, G4⟩ : ∃ q, Hid (withinB l.c0 1 65535 = q) := ⟨_, rfl⟩
        obtain ⟨q5, G5⟩ : ∃ q, Hid (withinB l.c1 1 65535 = q) := ⟨_, rfl⟩
        obtain ⟨q6, G6⟩ : ∃ q, Hid (withinB l.cap 0 1048576 = q) := ⟨_, rfl⟩
        obtain ⟨q7, G7⟩ : ∃ q, Hid (withinB l.delay 1 65536 = q) := ⟨_, rfl⟩
        obtain ⟨q8, G8⟩ : ∃ q, Hid (withinB l.grp 0 64 = q) := ⟨_, rfl⟩
        have HOK := Lib.hid (linkOK_eq G1.out G2.out G3.out G4.out G5.out G6.out G7.out G8.out)
        have HF := Lib.hid fun h : linkOK T l = false => all_fail (linkOK T) T.links k (by rw [HM.out]; exact hlt) (by rw [hl]; exact h)
        have HG := Lib.hid fun h : linkOK T l = true => (show (T.links.take (k + 1)).all (linkOK T) = true by rw [all_take (linkOK T) T.links k (by rw [HM.out]; exact hlt), HA.out, hl, h]; rfl)
        clear hl k0 k1 k2 k3 k4 k5 k6 hcells
        go_upto_region 7 with fail
        have HWl := Lib.hid ((Ext.refl wr).alloc (.cells #[.int .i64 l.a, .int .i64 l.b, .int .i64 l.c0, .int .i64 l.c1, .int .i64 l.cap, .int .i64 l.delay, .int .i64 l.grp] 56))
        have n0 : (wr.alloc (.cells #[.int .i64 l.a, .int .i64 l.b, .int .i64 l.c0, .int .i64 l.c1, .int .i64 l.cap, .int .i64 l.delay, .int .i64 l.grp] 56)).cell? ⟨wr.heap.size, 0, none⟩ = some (.int .i64 l.a) := by simp [go_sem]
        have n1 : (wr.alloc (.cells #[.int .i64 l.a, .int .i64 l.b, .int .i64 l.c0, .int .i64 l.c1, .int .i64 l.cap, .int .i64 l.delay, .int .i64 l.grp] 56)).cell? ⟨wr.heap.size, 1, none⟩ = some (.int .i64 l.b) := by simp [go_sem]
        have n2 : (wr.alloc (.cells #[.int .i64 l.a, .int .i64 l.b, .int .i64 l.c0, .int .i64 l.c1, .int .i64 l.cap, .int .i64 l.delay, .int .i64 l.grp] 56)).cell? ⟨wr.heap.size, 2, none⟩ = some (.int .i64 l.c0) := by simp [go_sem]
        have n3 : (wr.alloc (.cells #[.int .i64 l.a, .int .i64 l.b, .int .i64 l.c0, .int .i64 l.c1, .int .i64 l.cap, .int .i64 l.delay, .int .i64 l.grp] 56)).cell? ⟨wr.heap.size, 3, none⟩ = some (.int .i64 l.c1) := by simp [go_sem]
        have n4 : (wr.alloc (.cells #[.int .i64 l.a, .int .i64 l.b, .int .i64 l.c0, .int .i64 l.c1, .int .i64 l.cap, .int .i64 l.delay, .int .i64 l.grp] 56)).cell? ⟨wr.heap.size, 4, none⟩ = some (.int .i64 l.cap) := by simp [go_sem]
        have n5 : (wr.alloc (.cells #[.int .i64 l.a, .int .i64 l.b, .int .i64 l.c0, .int .i64 l.c1, .int .i64 l.cap, .int .i64 l.delay, .int .i64 l.grp] 56)).cell? ⟨wr.heap.size, 5, none⟩ = some (.int .i64 l.delay) := by simp [go_sem]
        have n6 : (wr.alloc (.cells #[.int .i64 l.a, .int .i64 l.b, .int .i64 l.c0, .int .i64 l.c1, .int .i64 l.cap, .int .i64 l.delay, .int .i64 l.grp] 56)).cell? ⟨wr.heap.size, 6, none⟩ = some (.int .i64 l.grp) := by simp [go_sem]
        have d0 := HWl.out.cell b0
        have d1 := HWl.out.cell b1
        have d2 := HWl.out.cell b2
        obtain ⟨wl, hwl⟩ : ∃ x, wr.alloc (.cells #[.int .i64 l.a, .int .i64 l.b, .int .i64 l.c0, .int .i64 l.c1, .int .i64 l.cap, .int .i64 l.delay, .int .i64 l.grp] 56) = x := ⟨_, rfl⟩
        rw [hwl] at n0 n1 n2 n3 n4 n5 n6 d0 d1 d2 HWl ⊢
        clear hwl b0 b1 b2 g0 g1 g2 g3 g4 g5 g6
        obtain ⟨B1, hB⟩ : ∃ B, wr.heap.size = B := ⟨_, rfl⟩
        rw [hB] at n0 n1 n2 n3 n4 n5 n6 ⊢
        clear hB
        have hwr := HW.out
        refine Reg.wp_region_seq (fun w => (w.cell? ⟨B0, 0, none⟩ = some (.int .i64 T.nodes)) ∧ (w.cell? ⟨B0, 1, none⟩ = some (.slice oa mo oc)) ∧ (w.cell? ⟨B0, 2, none⟩ = some (.slice (some ⟨b, off, none⟩) m lc)) ∧ (w.cell? ⟨B1, 0, none⟩ = some (.int .i64 l.a)) ∧ (w.cell? ⟨B1, 1, none⟩ = some (.int .i64 l.b)) ∧ (w.cell? ⟨B1, 2, none⟩ = some (.int .i64 l.c0)) ∧ (w.cell? ⟨B1, 3, none⟩ = some (.int .i64 l.c1)) ∧ (w.cell? ⟨B1, 4, none⟩ = some (.int .i64 l.cap)) ∧ (w.cell? ⟨B1, 5, none⟩ = some (.int .i64 l.delay)) ∧ (w.cell? ⟨B1, 6, none⟩ = some (.int .i64 l.grp))) [41, 42, 43, 44, 45, 46, 47, 48, 49, 50, 51, 52, 53, 54, 55, 56, 57, 58, 59, 60, 61, 62, 63, 64, 65, 66, 67, 68, 69, 70, 71, 72, 73, 74, 75, 76, 77] (fun w w' hE h => ⟨hE.cell h.1, hE.cell h.2.1, hE.cell h.2.2.1, hE.cell h.2.2.2.1, hE.cell h.2.2.2.2.1, hE.cell h.2.2.2.2.2.1, hE.cell h.2.2.2.2.2.2.1, hE.cell h.2.2.2.2.2.2.2.1, hE.cell h.2.2.2.2.2.2.2.2.1, hE.cell h.2.2.2.2.2.2.2.2.2⟩) (⟨by assumption, by assumption, by assumption, by assumption, by assumption, by assumption, by assumption, by assumption, by assumption, by assumption⟩) (by kernel_rfl) ?_
        refine Reg.wpAbs_ex ?_
        apply Exists.intro
        refine ⟨?_, ?_⟩
        · intro ρ w₁ hρ hC hs
          have e4 := hs 4 (by decide)
          have hc := hρ.const
          have hf := hρ.func
          have hg := hρ.glob
          clear hs hρ
          change ρ (.tmp 4) = _ at e4
          obtain ⟨hE, ⟨hS1, hS2, hS3, hS4, hS5, hS6, hS7, hS8, hS9, hS10⟩⟩ := hC
          refine Reg.step_plain rfl ?_
          clear hf
          go_simp
          exact ⟨Reg.Ext.refl _, rfl⟩
        refine Reg.wpAbs_ex ?_
        apply Exists.intro
        refine ⟨?_, ?_⟩
        · intro ρ w₁ hρ hC hs
          have e41 := hs 41 (by decide)
          have hc := hρ.const
          have hf := hρ.func
          have hg := hρ.glob
          clear hs hρ
          change ρ (.tmp 41) = _ at e41
          obtain ⟨hE, ⟨hS1, hS2, hS3, hS4, hS5, hS6, hS7, hS8, hS9, hS10⟩⟩ := hC
          refine Reg.step_plain rfl ?_
          clear hf
          go_simp
          exact ⟨Reg.Ext.refl _, rfl⟩
        refine Reg.wpAbs_ex ?_
        apply Exists.intro
        refine ⟨?_, ?_⟩
        · intro ρ w₁ hρ hC hs
          have e1 := hs 1 (by decide)
          have hc := hρ.const
          have hf := hρ.func
          have hg := hρ.glob
          clear hs hρ
          change ρ (.tmp 1) = _ at e1
          obtain ⟨hE, ⟨hS1, hS2, hS3, hS4, hS5, hS6, hS7, hS8, hS9, hS10⟩⟩ := hC
          refine Reg.step_plain rfl ?_
          clear hf
          go_simp
          exact ⟨Reg.Ext.refl _, rfl⟩
        refine Reg.wpAbs_ex ?_
        apply Exists.intro
        refine ⟨?_, ?_⟩
        · intro ρ w₁ hρ hC hs
          have e43 := hs 43 (by decide)
          have hc := hρ.const
          have hf := hρ.func
          have hg := hρ.glob
          clear hs hρ
          change ρ (.tmp 43) = _ at e43
          obtain ⟨hE, ⟨hS1, hS2, hS3, hS4, hS5, hS6, hS7, hS8, hS9, hS10⟩⟩ := hC
          refine Reg.step_plain rfl ?_
          clear hf
          go_simp
          exact ⟨Reg.Ext.refl _, rfl⟩
        refine Reg.wpAbs_ex ?_
        apply Exists.intro
        refine ⟨?_, ?_⟩
        · intro ρ w₁ hρ hC hs
          have e44 := hs 44 (by decide)
          have hc := hρ.const
          have hf := hρ.func
          have hg := hρ.glob
          clear hs hρ
          change ρ (.tmp 44) = _ at e44
          obtain ⟨hE, ⟨hS1, hS2, hS3, hS4, hS5, hS6, hS7, hS8, hS9, hS10⟩⟩ := hC
          refine Reg.step_plain rfl ?_
          clear hf
          go_simp
          exact ⟨Reg.Ext.refl _, rfl⟩
        refine Reg.wpAbs_fix (.bool (q2)) ?_ ?_
        · intro ρ w₁ hρ hC hs
          have e42 := hs 42 (by decide)
          have e45 := hs 45 (by decide)
          have hc := hρ.const
          have hf := hρ.func
          have hg := hρ.glob
          clear hs hρ
          change ρ (.tmp 42) = _ at e42
          change ρ (.tmp 45) = _ at e45
          obtain ⟨hE, ⟨hS1, hS2, hS3, hS4, hS5, hS6, hS7, hS8, hS9, hS10⟩⟩ := hC
          refine Reg.step_plain rfl ?_
          rw [Reg.execOp_callR hf]
          clear hf
          go_simp
          refine ⟨Reg.Ext.refl _, ?_⟩
          with_reducible exact (by have := rwithin_any l.a 0 (T.nodes - 1) w₁; rw [within_node, G2.out] at this; exact this)
        refine Reg.wpAbs_fix (.bool (!q2)) ?_ ?_
        · intro ρ w₁ hρ hC hs
          have e46 := hs 46 (by decide)
          have hc := hρ.const
          have hf := hρ.func
          have hg := hρ.glob
          clear hs hρ
          change ρ (.tmp 46) = _ at e46
          obtain ⟨hE, ⟨hS1, hS2, hS3, hS4, hS5, hS6, hS7, hS8, hS9, hS10⟩⟩ := hC
          refine Reg.step_plain rfl ?_
          clear hf
          go_simp
          exact ⟨Reg.Ext.refl _, rfl⟩
        refine Reg.wpAbs_fix (.bool (!q2)) ?_ ?_
        · intro ρ w₁ hρ hC hs
          have e47 := hs 47 (by decide)
          have hc := hρ.const
          have hf := hρ.func
          have hg := hρ.glob
          clear hs hρ
          change ρ (.tmp 47) = _ at e47
          obtain ⟨hE, ⟨hS1, hS2, hS3, hS4, hS5, hS6, hS7, hS8, hS9, hS10⟩⟩ := hC
          refine Reg.step_plain rfl ?_
          clear hf
          go_simp
          exact ⟨Reg.Ext.refl _, rfl⟩
        refine Reg.wpAbs_exC (!(!q2)) ?_
        apply Exists.intro
        refine ⟨?_, ?_⟩
        · intro ρ w₁ hρ hC hs
          have e4 := hs 4 (by decide)
          have e48 := hs 48 (by decide)
          have hc := hρ.const
          have hf := hρ.func
          have hg := hρ.glob
          clear hs hρ
          change ρ (.tmp 4) = _ at e4
          change ρ (.tmp 48) = _ at e48
          obtain ⟨hE, ⟨hS1, hS2, hS3, hS4, hS5, hS6, hS7, hS8, hS9, hS10⟩⟩ := hC
          refine ⟨fun hgd => ⟨Reg.wanted_of (t := 48) rfl rfl (by rw [e48, show (!q2) = false from Reg.of_not_true hgd]), ?_⟩, fun hgd => ?_⟩
          · clear hf
            go_simp
            exact ⟨Reg.Ext.refl _, rfl⟩
          · exact Reg.unwanted_of (t := 48) rfl rfl (.inl (by rw [e48, show (!q2) = true from Reg.of_not_false hgd]; rfl))
        refine Reg.wpAbs_exC (!(!q2)) ?_
        apply Exists.intro
        refine ⟨?_, ?_⟩
        · intro ρ w₁ hρ hC hs
          have e49 := hs 49 (by decide)
          have e48 := hs 48 (by decide)
          have hc := hρ.const
          have hf := hρ.func
          have hg := hρ.glob
          clear hs hρ
          change ρ (.tmp 49) = _ at e49
          change ρ (.tmp 48) = _ at e48
          obtain ⟨hE, ⟨hS1, hS2, hS3, hS4, hS5, hS6, hS7, hS8, hS9, hS10⟩⟩ := hC
          refine ⟨fun hgd => ⟨Reg.wanted_of (t := 48) rfl rfl (by rw [e48, show (!q2) = false from Reg.of_not_true hgd]), ?_⟩, fun hgd => ?_⟩
          · rw [hgd] at e49
            simp only [cond_true] at e49
            clear hf
            go_simp
            exact ⟨Reg.Ext.refl _, rfl⟩
          · exact Reg.unwanted_of (t := 48) rfl rfl (.inl (by rw [e48, show (!q2) = true from Reg.of_not_false hgd]; rfl))
        refine Reg.wpAbs_exC (!(!q2)) ?_
        apply Exists.intro
        refine ⟨?_, ?_⟩
        · intro ρ w₁ hρ hC hs
          have e1 := hs 1 (by decide)
          have e48 := hs 48 (by decide)
          have hc := hρ.const
          have hf := hρ.func
          have hg := hρ.glob
          clear hs hρ
          change ρ (.tmp 1) = _ at e1
          change ρ (.tmp 48) = _ at e48
          obtain ⟨hE, ⟨hS1, hS2, hS3, hS4, hS5, hS6, hS7, hS8, hS9, hS10⟩⟩ := hC
          refine ⟨fun hgd => ⟨Reg.wanted_of (t := 48) rfl rfl (by rw [e48, show (!q2) = false from Reg.of_not_true hgd]), ?_⟩, fun hgd => ?_⟩
          · clear hf
            go_simp
            exact ⟨Reg.Ext.refl _, rfl⟩
          · exact Reg.unwanted_of (t := 48) rfl rfl (.inl (by rw [e48, show (!q2) = true from Reg.of_not_false hgd]; rfl))
        refine Reg.wpAbs_exC (!(!q2)) ?_
        apply Exists.intro
        refine ⟨?_, ?_⟩
        · intro ρ w₁ hρ hC hs
          have e51 := hs 51 (by decide)
          have e48 := hs 48 (by decide)
          have hc := hρ.const
          have hf := hρ.func
          have hg := hρ.glob
          clear hs hρ
          change ρ (.tmp 51) = _ at e51
          change ρ (.tmp 48) = _ at e48
          obtain ⟨hE, ⟨hS1, hS2, hS3, hS4, hS5, hS6, hS7, hS8, hS9, hS10⟩⟩ := hC
          refine ⟨fun hgd => ⟨Reg.wanted_of (t := 48) rfl rfl (by rw [e48, show (!q2) = false from Reg.of_not_true hgd]), ?_⟩, fun hgd => ?_⟩
          · rw [hgd] at e51
            simp only [cond_true] at e51
            clear hf
            go_simp
            exact ⟨Reg.Ext.refl _, rfl⟩
          · exact Reg.unwanted_of (t := 48) rfl rfl (.inl (by rw [e48, show (!q2) = true from Reg.of_not_false hgd]; rfl))
        refine Reg.wpAbs_exC (!(!q2)) ?_
        apply Exists.intro
        refine ⟨?_, ?_⟩
        · intro ρ w₁ hρ hC hs
          have e52 := hs 52 (by decide)
          have e48 := hs 48 (by decide)
          have hc := hρ.const
          have hf := hρ.func
          have hg := hρ.glob
          clear hs hρ
          change ρ (.tmp 52) = _ at e52
          change ρ (.tmp 48) = _ at e48
          obtain ⟨hE, ⟨hS1, hS2, hS3, hS4, hS5, hS6, hS7, hS8, hS9, hS10⟩⟩ := hC
          refine ⟨fun hgd => ⟨Reg.wanted_of (t := 48) rfl rfl (by rw [e48, show (!q2) = false from Reg.of_not_true hgd]), ?_⟩, fun hgd => ?_⟩
          · rw [hgd] at e52
            simp only [cond_true] at e52
            clear hf
            go_simp
            exact ⟨Reg.Ext.refl _, rfl⟩
          · exact Reg.unwanted_of (t := 48) rfl rfl (.inl (by rw [e48, show (!q2) = true from Reg.of_not_false hgd]; rfl))
        refine Reg.wpAbs_exC (!(!q2)) ?_
        refine ⟨.bool (q3), ?_, ?_⟩
        · intro ρ w₁ hρ hC hs
          have e50 := hs 50 (by decide)
          have e53 := hs 53 (by decide)
          have e48 := hs 48 (by decide)
          have hc := hρ.const
          have hf := hρ.func
          have hg := hρ.glob
          clear hs hρ
          change ρ (.tmp 50) = _ at e50
          change ρ (.tmp 53) = _ at e53
          change ρ (.tmp 48) = _ at e48
          obtain ⟨hE, ⟨hS1, hS2, hS3, hS4, hS5, hS6, hS7, hS8, hS9, hS10⟩⟩ := hC
          refine ⟨fun hgd => ⟨Reg.wanted_of (t := 48) rfl rfl (by rw [e48, show (!q2) = false from Reg.of_not_true hgd]), ?_⟩, fun hgd => ?_⟩
          · rw [hgd] at e50
            simp only [cond_true] at e50
            rw [hgd] at e53
            simp only [cond_true] at e53
            rw [Reg.execOp_callR hf]
            clear hf
            go_simp
            refine ⟨Reg.Ext.refl _, ?_⟩
            with_reducible exact (by have := rwithin_any l.b 0 (T.nodes - 1) w₁; rw [within_node, G3.out] at this; exact this)
          · exact Reg.unwanted_of (t := 48) rfl rfl (.inl (by rw [e48, show (!q2) = true from Reg.of_not_false hgd]; rfl))
        refine Reg.wpAbs_exC (!(!q2)) ?_
        refine ⟨.bool (!q3), ?_, ?_⟩
        · intro ρ w₁ hρ hC hs
          have e54 := hs 54 (by decide)
          have e48 := hs 48 (by decide)
          have hc := hρ.const
          have hf := hρ.func
          have hg := hρ.glob
          clear hs hρ
          change ρ (.tmp 54) = _ at e54
          change ρ (.tmp 48) = _ at e48
          obtain ⟨hE, ⟨hS1, hS2, hS3, hS4, hS5, hS6, hS7, hS8, hS9, hS10⟩⟩ := hC
          refine ⟨fun hgd => ⟨Reg.wanted_of (t := 48) rfl rfl (by rw [e48, show (!q2) = false from Reg.of_not_true hgd]), ?_⟩, fun hgd => ?_⟩
          · rw [hgd] at e54
            simp only [cond_true] at e54
            clear hf
            go_simp
            exact ⟨Reg.Ext.refl _, rfl⟩
          · exact Reg.unwanted_of (t := 48) rfl rfl (.inl (by rw [e48, show (!q2) = true from Reg.of_not_false hgd]; rfl))
        refine Reg.wpAbs_fix (.bool ((!q2) || (!q3))) ?_ ?_
        · intro ρ w₁ hρ hC hs
          have e48 := hs 48 (by decide)
          have e55 := hs 55 (by decide)
          have hc := hρ.const
          have hf := hρ.func
          have hg := hρ.glob
          clear hs hρ
          change ρ (.tmp 48) = _ at e48
          change ρ (.tmp 55) = _ at e55
          obtain ⟨hE, ⟨hS1, hS2, hS3, hS4, hS5, hS6, hS7, hS8, hS9, hS10⟩⟩ := hC
          refine Reg.step_plain rfl ?_
          rcases Bool.eq_false_or_eq_true (!q2) with hb | hb
          · rw [hb] at e48
            clear e55
            clear hf
            go_simp
            exact ⟨Reg.Ext.refl _, by first | rfl | simp | simp [hb]⟩
          · rw [hb] at e48
            rw [show (!(!q2)) = true by simp [hb]] at e55
            simp only [cond_true] at e55
            clear hf
            go_simp
            exact ⟨Reg.Ext.refl _, by first | rfl | simp | simp [hb]⟩
        refine Reg.wpAbs_fix (.bool ((!q2) || (!q3))) ?_ ?_
        · intro ρ w₁ hρ hC hs
          have e56 := hs 56 (by decide)
          have hc := hρ.const
          have hf := hρ.func
          have hg := hρ.glob
          clear hs hρ
          change ρ (.tmp 56) = _ at e56
          obtain ⟨hE, ⟨hS1, hS2, hS3, hS4, hS5, hS6, hS7, hS8, hS9, hS10⟩⟩ := hC
          refine Reg.step_plain rfl ?_
          clear hf
          go_simp
          exact ⟨Reg.Ext.refl _, rfl⟩
        refine Reg.wpAbs_exC (!((!q2) || (!q3))) ?_
        apply Exists.intro
        refine ⟨?_, ?_⟩
        · intro ρ w₁ hρ hC hs
          have e4 := hs 4 (by decide)
          have e57 := hs 57 (by decide)
          have hc := hρ.const
          have hf := hρ.func
          have hg := hρ.glob
          clear hs hρ
          change ρ (.tmp 4) = _ at e4
          change ρ (.tmp 57) = _ at e57
          obtain ⟨hE, ⟨hS1, hS2, hS3, hS4, hS5, hS6, hS7, hS8, hS9, hS10⟩⟩ := hC
          refine ⟨fun hgd => ⟨Reg.wanted_of (t := 57) rfl rfl (by rw [e57, show ((!q2) || (!q3)) = false from Reg.of_not_true hgd]), ?_⟩, fun hgd => ?_⟩
          · clear hf
            go_simp
            exact ⟨Reg.Ext.refl _, rfl⟩
          · exact Reg.unwanted_of (t := 57) rfl rfl (.inl (by rw [e57, show ((!q2) || (!q3)) = true from Reg.of_not_false hgd]; rfl))
        refine Reg.wpAbs_exC (!((!q2) || (!q3))) ?_
        apply Exists.intro
        refine ⟨?_, ?_⟩
        · intro ρ w₁ hρ hC hs
          have e58 := hs 58 (by decide)
          have e57 := hs 57 (by decide)
          have hc := hρ.const
          have hf := hρ.func
          have hg := hρ.glob
          clear hs hρ
          change ρ (.tmp 58) = _ at e58
          change ρ (.tmp 57) = _ at e57
          obtain ⟨hE, ⟨hS1, hS2, hS3, hS4, hS5, hS6, hS7, hS8, hS9, hS10⟩⟩ := hC
          refine ⟨fun hgd => ⟨Reg.wanted_of (t := 57) rfl rfl (by rw [e57, show ((!q2) || (!q3)) = false from Reg.of_not_true hgd]), ?_⟩, fun hgd => ?_⟩
          · rw [hgd] at e58
            simp only [cond_true] at e58
            clear hf
            go_simp
            exact ⟨Reg.Ext.refl _, rfl⟩
          · exact Reg.unwanted_of (t := 57) rfl rfl (.inl (by rw [e57, show ((!q2) || (!q3)) = true from Reg.of_not_false hgd]; rfl))
        refine Reg.wpAbs_exC (!((!q2) || (!q3))) ?_
        apply Exists.intro
        refine ⟨?_, ?_⟩
        · intro ρ w₁ hρ hC hs
          have e4 := hs 4 (by decide)
          have e57 := hs 57 (by decide)
          have hc := hρ.const
          have hf := hρ.func
          have hg := hρ.glob
          clear hs hρ
          change ρ (.tmp 4) = _ at e4
          change ρ (.tmp 57) = _ at e57
          obtain ⟨hE, ⟨hS1, hS2, hS3, hS4, hS5, hS6, hS7, hS8, hS9, hS10⟩⟩ := hC
          refine ⟨fun hgd => ⟨Reg.wanted_of (t := 57) rfl rfl (by rw [e57, show ((!q2) || (!q3)) = false from Reg.of_not_true hgd]), ?_⟩, fun hgd => ?_⟩
          · clear hf
            go_simp
            exact ⟨Reg.Ext.refl _, rfl⟩
          · exact Reg.unwanted_of (t := 57) rfl rfl (.inl (by rw [e57, show ((!q2) || (!q3)) = true from Reg.of_not_false hgd]; rfl))
        refine Reg.wpAbs_exC (!((!q2) || (!q3))) ?_
        apply Exists.intro
        refine ⟨?_, ?_⟩
        · intro ρ w₁ hρ hC hs
          have e60 := hs 60 (by decide)
          have e57 := hs 57 (by decide)
          have hc := hρ.const
          have hf := hρ.func
          have hg := hρ.glob
          clear hs hρ
          change ρ (.tmp 60) = _ at e60
          change ρ (.tmp 57) = _ at e57
          obtain ⟨hE, ⟨hS1, hS2, hS3, hS4, hS5, hS6, hS7, hS8, hS9, hS10⟩⟩ := hC
          refine ⟨fun hgd => ⟨Reg.wanted_of (t := 57) rfl rfl (by rw [e57, show ((!q2) || (!q3)) = false from Reg.of_not_true hgd]), ?_⟩, fun hgd => ?_⟩
          · rw [hgd] at e60
            simp only [cond_true] at e60
            clear hf
            go_simp
            exact ⟨Reg.Ext.refl _, rfl⟩
          · exact Reg.unwanted_of (t := 57) rfl rfl (.inl (by rw [e57, show ((!q2) || (!q3)) = true from Reg.of_not_false hgd]; rfl))
        refine Reg.wpAbs_exC (!((!q2) || (!q3))) ?_
        refine ⟨.bool (q1), ?_, ?_⟩
        · intro ρ w₁ hρ hC hs
          have e59 := hs 59 (by decide)
          have e61 := hs 61 (by decide)
          have e57 := hs 57 (by decide)
          have hc := hρ.const
          have hf := hρ.func
          have hg := hρ.glob
          clear hs hρ
          change ρ (.tmp 59) = _ at e59
          change ρ (.tmp 61) = _ at e61
          change ρ (.tmp 57) = _ at e57
          obtain ⟨hE, ⟨hS1, hS2, hS3, hS4, hS5, hS6, hS7, hS8, hS9, hS10⟩⟩ := hC
          refine ⟨fun hgd => ⟨Reg.wanted_of (t := 57) rfl rfl (by rw [e57, show ((!q2) || (!q3)) = false from Reg.of_not_true hgd]), ?_⟩, fun hgd => ?_⟩
          · rw [hgd] at e59
            simp only [cond_true] at e59
            rw [hgd] at e61
            simp only [cond_true] at e61
            clear hf
            go_simp
            exact ⟨Reg.Ext.refl _, val_bool G1.out⟩
          · exact Reg.unwanted_of (t := 57) rfl rfl (.inl (by rw [e57, show ((!q2) || (!q3)) = true from Reg.of_not_false hgd]; rfl))
        refine Reg.wpAbs_fix (.bool (((!q2) || (!q3)) || q1)) ?_ ?_
        · intro ρ w₁ hρ hC hs
          have e57 := hs 57 (by decide)
          have e62 := hs 62 (by decide)
          have hc := hρ.const
          have hf := hρ.func
          have hg := hρ.glob
          clear hs hρ
          change ρ (.tmp 57) = _ at e57
          change ρ (.tmp 62) = _ at e62
          obtain ⟨hE, ⟨hS1, hS2, hS3, hS4, hS5, hS6, hS7, hS8, hS9, hS10⟩⟩ := hC
          refine Reg.step_plain rfl ?_
          rcases Bool.eq_false_or_eq_true ((!q2) || (!q3)) with hb | hb
          · rw [hb] at e57
            clear e62
            clear hf
            go_simp
            exact ⟨Reg.Ext.refl _, by first | rfl | simp | simp [hb]⟩
          · rw [hb] at e57
            rw [show (!((!q2) || (!q3))) = true by simp [hb]] at e62
            simp only [cond_true] at e62
            clear hf
            go_simp
            exact ⟨Reg.Ext.refl _, by first | rfl | simp | simp [hb]⟩
        refine Reg.wpAbs_fix (.bool (((!q2) || (!q3)) || q1)) ?_ ?_
        · intro ρ w₁ hρ hC hs
          have e63 := hs 63 (by decide)
          have hc := hρ.const
          have hf := hρ.func
          have hg := hρ.glob
          clear hs hρ
          change ρ (.tmp 63) = _ at e63
          obtain ⟨hE, ⟨hS1, hS2, hS3, hS4, hS5, hS6, hS7, hS8, hS9, hS10⟩⟩ := hC
          refine Reg.step_plain rfl ?_
          clear hf
          go_simp
          exact ⟨Reg.Ext.refl _, rfl⟩
        refine Reg.wpAbs_exC (!(((!q2) || (!q3)) || q1)) ?_
        apply Exists.intro
        refine ⟨?_, ?_⟩
        · intro ρ w₁ hρ hC hs
          have e4 := hs 4 (by decide)
          have e64 := hs 64 (by decide)
          have hc := hρ.const
          have hf := hρ.func
          have hg := hρ.glob
          clear hs hρ
          change ρ (.tmp 4) = _ at e4
          change ρ (.tmp 64) = _ at e64
          obtain ⟨hE, ⟨hS1, hS2, hS3, hS4, hS5, hS6, hS7, hS8, hS9, hS10⟩⟩ := hC
          refine ⟨fun hgd => ⟨Reg.wanted_of (t := 64) rfl rfl (by rw [e64, show (((!q2) || (!q3)) || q1) = false from Reg.of_not_true hgd]), ?_⟩, fun hgd => ?_⟩
          · clear hf
            go_simp
            exact ⟨Reg.Ext.refl _, rfl⟩
          · exact Reg.unwanted_of (t := 64) rfl rfl (.inl (by rw [e64, show (((!q2) || (!q3)) || q1) = true from Reg.of_not_false hgd]; rfl))
        refine Reg.wpAbs_exC (!(((!q2) || (!q3)) || q1)) ?_
        apply Exists.intro
        refine ⟨?_, ?_⟩
        · intro ρ w₁ hρ hC hs
          have e65 := hs 65 (by decide)
          have e64 := hs 64 (by decide)
          have hc := hρ.const
          have hf := hρ.func
          have hg := hρ.glob
          clear hs hρ
          change ρ (.tmp 65) = _ at e65
          change ρ (.tmp 64) = _ at e64
          obtain ⟨hE, ⟨hS1, hS2, hS3, hS4, hS5, hS6, hS7, hS8, hS9, hS10⟩⟩ := hC
          refine ⟨fun hgd => ⟨Reg.wanted_of (t := 64) rfl rfl (by rw [e64, show (((!q2) || (!q3)) || q1) = false from Reg.of_not_true hgd]), ?_⟩, fun hgd => ?_⟩
          · rw [hgd] at e65
            simp only [cond_true] at e65
            clear hf
            go_simp
            exact ⟨Reg.Ext.refl _, rfl⟩
          · exact Reg.unwanted_of (t := 64) rfl rfl (.inl (by rw [e64, show (((!q2) || (!q3)) || q1) = true from Reg.of_not_false hgd]; rfl))
        refine Reg.wpAbs_exC (!(((!q2) || (!q3)) || q1)) ?_
        apply Exists.intro
        refine ⟨?_, ?_⟩
        · intro ρ w₁ hρ hC hs
          have e66 := hs 66 (by decide)
          have e64 := hs 64 (by decide)
          have hc := hρ.const
          have hf := hρ.func
          have hg := hρ.glob
          clear hs hρ
          change ρ (.tmp 66) = _ at e66
          change ρ (.tmp 64) = _ at e64
          obtain ⟨hE, ⟨hS1, hS2, hS3, hS4, hS5, hS6, hS7, hS8, hS9, hS10⟩⟩ := hC
          refine ⟨fun hgd => ⟨Reg.wanted_of (t := 64) rfl rfl (by rw [e64, show (((!q2) || (!q3)) || q1) = false from Reg.of_not_true hgd]), ?_⟩, fun hgd => ?_⟩
          · rw [hgd] at e66
            simp only [cond_true] at e66
            clear hf
            go_simp
            exact ⟨Reg.Ext.refl _, rfl⟩
          · exact Reg.unwanted_of (t := 64) rfl rfl (.inl (by rw [e64, show (((!q2) || (!q3)) || q1) = true from Reg.of_not_false hgd]; rfl))
        refine Reg.wpAbs_exC (!(((!q2) || (!q3)) || q1)) ?_
        refine ⟨.bool (q4), ?_, ?_⟩
        · intro ρ w₁ hρ hC hs
          have e67 := hs 67 (by decide)
          have e64 := hs 64 (by decide)
          have hc := hρ.const
          have hf := hρ.func
          have hg := hρ.glob
          clear hs hρ
          change ρ (.tmp 67) = _ at e67
          change ρ (.tmp 64) = _ at e64
          obtain ⟨hE, ⟨hS1, hS2, hS3, hS4, hS5, hS6, hS7, hS8, hS9, hS10⟩⟩ := hC
          refine ⟨fun hgd => ⟨Reg.wanted_of (t := 64) rfl rfl (by rw [e64, show (((!q2) || (!q3)) || q1) = false from Reg.of_not_true hgd]), ?_⟩, fun hgd => ?_⟩
          · rw [hgd] at e67
            simp only [cond_true] at e67
            rw [Reg.execOp_callR hf]
            clear hf
            go_simp
            refine ⟨Reg.Ext.refl _, ?_⟩
            with_reducible exact (by have := rwithin_any l.c0 1 65535 w₁; rw [G4.out] at this; exact this)
          · exact Reg.unwanted_of (t := 64) rfl rfl (.inl (by rw [e64, show (((!q2) || (!q3)) || q1) = true from Reg.of_not_false hgd]; rfl))
        refine Reg.wpAbs_exC (!(((!q2) || (!q3)) || q1)) ?_
        refine ⟨.bool (!q4), ?_, ?_⟩
        · intro ρ w₁ hρ hC hs
          have e68 := hs 68 (by decide)
          have e64 := hs 64 (by decide)
          have hc := hρ.const
          have hf := hρ.func
          have hg := hρ.glob
          clear hs hρ
          change ρ (.tmp 68) = _ at e68
          change ρ (.tmp 64) = _ at e64
          obtain ⟨hE, ⟨hS1, hS2, hS3, hS4, hS5, hS6, hS7, hS8, hS9, hS10⟩⟩ := hC
          refine ⟨fun hgd => ⟨Reg.wanted_of (t := 64) rfl rfl (by rw [e64, show (((!q2) || (!q3)) || q1) = false from Reg.of_not_true hgd]), ?_⟩, fun hgd => ?_⟩
          · rw [hgd] at e68
            simp only [cond_true] at e68
            clear hf
            go_simp
            exact ⟨Reg.Ext.refl _, rfl⟩
          · exact Reg.unwanted_of (t := 64) rfl rfl (.inl (by rw [e64, show (((!q2) || (!q3)) || q1) = true from Reg.of_not_false hgd]; rfl))
        refine Reg.wpAbs_fix (.bool ((((!q2) || (!q3)) || q1) || (!q4))) ?_ ?_
        · intro ρ w₁ hρ hC hs
          have e64 := hs 64 (by decide)
          have e69 := hs 69 (by decide)
          have hc := hρ.const
          have hf := hρ.func
          have hg := hρ.glob
          clear hs hρ
          change ρ (.tmp 64) = _ at e64
          change ρ (.tmp 69) = _ at e69
          obtain ⟨hE, ⟨hS1, hS2, hS3, hS4, hS5, hS6, hS7, hS8, hS9, hS10⟩⟩ := hC
          refine Reg.step_plain rfl ?_
          rcases Bool.eq_false_or_eq_true (((!q2) || (!q3)) || q1) with hb | hb
          · rw [hb] at e64
            clear e69
            clear hf
            go_simp
            exact ⟨Reg.Ext.refl _, by first | rfl | simp | simp [hb]⟩
          · rw [hb] at e64
            rw [show (!(((!q2) || (!q3)) || q1)) = true by simp [hb]] at e69
            simp only [cond_true] at e69
            clear hf
            go_simp
            exact ⟨Reg.Ext.refl _, by first | rfl | simp | simp [hb]⟩
        refine Reg.wpAbs_fix (.bool ((((!q2) || (!q3)) || q1) || (!q4))) ?_ ?_
        · intro ρ w₁ hρ hC hs
          have e70 := hs 70 (by decide)
          have hc := hρ.const
          have hf := hρ.func
          have hg := hρ.glob
          clear hs hρ
          change ρ (.tmp 70) = _ at e70
          obtain ⟨hE, ⟨hS1, hS2, hS3, hS4, hS5, hS6, hS7, hS8, hS9, hS10⟩⟩ := hC
          refine Reg.step_plain rfl ?_
          clear hf
          go_simp
          exact ⟨Reg.Ext.refl _, rfl⟩
        refine Reg.wpAbs_exC (!((((!q2) || (!q3)) || q1) || (!q4))) ?_
        apply Exists.intro
        refine ⟨?_, ?_⟩
        · intro ρ w₁ hρ hC hs
          have e4 := hs 4 (by decide)
          have e71 := hs 71 (by decide)
          have hc := hρ.const
          have hf := hρ.func
          have hg := hρ.glob
          clear hs hρ
          change ρ (.tmp 4) = _ at e4
          change ρ (.tmp 71) = _ at e71
          obtain ⟨hE, ⟨hS1, hS2, hS3, hS4, hS5, hS6, hS7, hS8, hS9, hS10⟩⟩ := hC
          refine ⟨fun hgd => ⟨Reg.wanted_of (t := 71) rfl rfl (by rw [e71, show ((((!q2) || (!q3)) || q1) || (!q4)) = false from Reg.of_not_true hgd]), ?_⟩, fun hgd => ?_⟩
          · clear hf
            go_simp
            exact ⟨Reg.Ext.refl _, rfl⟩
          · exact Reg.unwanted_of (t := 71) rfl rfl (.inl (by rw [e71, show ((((!q2) || (!q3)) || q1) || (!q4)) = true from Reg.of_not_false hgd]; rfl))
        refine Reg.wpAbs_exC (!((((!q2) || (!q3)) || q1) || (!q4))) ?_
        apply Exists.intro
        refine ⟨?_, ?_⟩
        · intro ρ w₁ hρ hC hs
          have e72 := hs 72 (by decide)
          have e71 := hs 71 (by decide)
          have hc := hρ.const
          have hf := hρ.func
          have hg := hρ.glob
          clear hs hρ
          change ρ (.tmp 72) = _ at e72
          change ρ (.tmp 71) = _ at e71
          obtain ⟨hE, ⟨hS1, hS2, hS3, hS4, hS5, hS6, hS7, hS8, hS9, hS10⟩⟩ := hC
          refine ⟨fun hgd => ⟨Reg.wanted_of (t := 71) rfl rfl (by rw [e71, show ((((!q2) || (!q3)) || q1) || (!q4)) = false from Reg.of_not_true hgd]), ?_⟩, fun hgd => ?_⟩
          · rw [hgd] at e72
            simp only [cond_true] at e72
            clear hf
            go_simp
            exact ⟨Reg.Ext.refl _, rfl⟩
          · exact Reg.unwanted_of (t := 71) rfl rfl (.inl (by rw [e71, show ((((!q2) || (!q3)) || q1) || (!q4)) = true from Reg.of_not_false hgd]; rfl))
        refine Reg.wpAbs_exC (!((((!q2) || (!q3)) || q1) || (!q4))) ?_
        apply Exists.intro
        refine ⟨?_, ?_⟩
        · intro ρ w₁ hρ hC hs
          have e73 := hs 73 (by decide)
          have e71 := hs 71 (by decide)
          have hc := hρ.const
          have hf := hρ.func
          have hg := hρ.glob
          clear hs hρ
          change ρ (.tmp 73) = _ at e73
          change ρ (.tmp 71) = _ at e71
          obtain ⟨hE, ⟨hS1, hS2, hS3, hS4, hS5, hS6, hS7, hS8, hS9, hS10⟩⟩ := hC
          refine ⟨fun hgd => ⟨Reg.wanted_of (t := 71) rfl rfl (by rw [e71, show ((((!q2) || (!q3)) || q1) || (!q4)) = false from Reg.of_not_true hgd]), ?_⟩, fun hgd => ?_⟩
          · rw [hgd] at e73
            simp only [cond_true] at e73
            clear hf
            go_simp
            exact ⟨Reg.Ext.refl _, rfl⟩
          · exact Reg.unwanted_of (t := 71) rfl rfl (.inl (by rw [e71, show ((((!q2) || (!q3)) || q1) || (!q4)) = true from Reg.of_not_false hgd]; rfl))
        refine Reg.wpAbs_exC (!((((!q2) || (!q3)) || q1) || (!q4))) ?_
        refine ⟨.bool (q5), ?_, ?_⟩
        · intro ρ w₁ hρ hC hs
          have e74 := hs 74 (by decide)
          have e71 := hs 71 (by decide)
          have hc := hρ.const
          have hf := hρ.func
          have hg := hρ.glob
          clear hs hρ
          change ρ (.tmp 74) = _ at e74
          change ρ (.tmp 71) = _ at e71
          obtain ⟨hE, ⟨hS1, hS2, hS3, hS4, hS5, hS6, hS7, hS8, hS9, hS10⟩⟩ := hC
          refine ⟨fun hgd => ⟨Reg.wanted_of (t := 71) rfl rfl (by rw [e71, show ((((!q2) || (!q3)) || q1) || (!q4)) = false from Reg.of_not_true hgd]), ?_⟩, fun hgd => ?_⟩
          · rw [hgd] at e74
            simp only [cond_true] at e74
            rw [Reg.execOp_callR hf]
            clear hf
            go_simp
            refine ⟨Reg.Ext.refl _, ?_⟩
            with_reducible exact (by have := rwithin_any l.c1 1 65535 w₁; rw [G5.out] at this; exact this)
          · exact Reg.unwanted_of (t := 71) rfl rfl (.inl (by rw [e71, show ((((!q2) || (!q3)) || q1) || (!q4)) = true from Reg.of_not_false hgd]; rfl))
        refine Reg.wpAbs_exC (!((((!q2) || (!q3)) || q1) || (!q4))) ?_
        refine ⟨.bool (!q5), ?_, ?_⟩
        · intro ρ w₁ hρ hC hs
          have e75 := hs 75 (by decide)
          have e71 := hs 71 (by decide)
          have hc := hρ.const
          have hf := hρ.func
          have hg := hρ.glob
          clear hs hρ
          change ρ (.tmp 75) = _ at e75
          change ρ (.tmp 71) = _ at e71
          obtain ⟨hE, ⟨hS1, hS2, hS3, hS4, hS5, hS6, hS7, hS8, hS9, hS10⟩⟩ := hC
          refine ⟨fun hgd => ⟨Reg.wanted_of (t := 71) rfl rfl (by rw [e71, show ((((!q2) || (!q3)) || q1) || (!q4)) = false from Reg.of_not_true hgd]), ?_⟩, fun hgd => ?_⟩
          · rw [hgd] at e75
            simp only [cond_true] at e75
            clear hf
            go_simp
            exact ⟨Reg.Ext.refl _, rfl⟩
          · exact Reg.unwanted_of (t := 71) rfl rfl (.inl (by rw [e71, show ((((!q2) || (!q3)) || q1) || (!q4)) = true from Reg.of_not_false hgd]; rfl))
        refine Reg.wpAbs_fix (.bool (((((!q2) || (!q3)) || q1) || (!q4)) || (!q5))) ?_ ?_
        · intro ρ w₁ hρ hC hs
          have e71 := hs 71 (by decide)
          have e76 := hs 76 (by decide)
          have hc := hρ.const
          have hf := hρ.func
          have hg := hρ.glob
          clear hs hρ
          change ρ (.tmp 71) = _ at e71
          change ρ (.tmp 76) = _ at e76
          obtain ⟨hE, ⟨hS1, hS2, hS3, hS4, hS5, hS6, hS7, hS8, hS9, hS10⟩⟩ := hC
          refine Reg.step_plain rfl ?_
          rcases Bool.eq_false_or_eq_true ((((!q2) || (!q3)) || q1) || (!q4)) with hb | hb
          · rw [hb] at e71
            clear e76
            clear hf
            go_simp
            exact ⟨Reg.Ext.refl _, by first | rfl | simp | simp [hb]⟩
          · rw [hb] at e71
            rw [show (!((((!q2) || (!q3)) || q1) || (!q4))) = true by simp [hb]] at e76
            simp only [cond_true] at e76
            clear hf
            go_simp
            exact ⟨Reg.Ext.refl _, by first | rfl | simp | simp [hb]⟩
        refine Reg.wpAbs_nil ?_
        intro w₁ hE hS
        obtain ⟨hS1, hS2, hS3, hS4, hS5, hS6, hS7, hS8, hS9, hS10⟩ := hS
        refine Reg.wpFin_fix _ rfl ?_
        refine Reg.wpFin_fix _ rfl ?_
        refine Reg.wpFin_fix _ rfl ?_
        refine Reg.wpFin_fix _ rfl ?_
        refine Reg.wpFin_fix _ rfl ?_
        refine Reg.wpFin_fix _ rfl ?_
        refine Reg.wpFin_fix _ rfl ?_
        refine Reg.wpFin_fix _ rfl ?_
        refine Reg.wpFin_drop (fun x49 => ?_)
        refine Reg.wpFin_drop (fun x50 => ?_)
        refine Reg.wpFin_drop (fun x51 => ?_)
        refine Reg.wpFin_drop (fun x52 => ?_)
        refine Reg.wpFin_drop (fun x53 => ?_)
        refine Reg.wpFin_drop (fun x54 => ?_)
        refine Reg.wpFin_drop (fun x55 => ?_)
        refine Reg.wpFin_fix _ rfl ?_
        refine Reg.wpFin_fix _ rfl ?_
        refine Reg.wpFin_drop (fun x58 => ?_)
        refine Reg.wpFin_drop (fun x59 => ?_)
        refine Reg.wpFin_drop (fun x60 => ?_)
        refine Reg.wpFin_drop (fun x61 => ?_)
        refine Reg.wpFin_drop (fun x62 => ?_)
        refine Reg.wpFin_fix _ rfl ?_
        refine Reg.wpFin_fix _ rfl ?_
        refine Reg.wpFin_drop (fun x65 => ?_)
        refine Reg.wpFin_drop (fun x66 => ?_)
        refine Reg.wpFin_drop (fun x67 => ?_)
        refine Reg.wpFin_drop (fun x68 => ?_)
        refine Reg.wpFin_drop (fun x69 => ?_)
        refine Reg.wpFin_fix _ rfl ?_
        refine Reg.wpFin_fix _ rfl ?_
        refine Reg.wpFin_drop (fun x72 => ?_)
        refine Reg.wpFin_drop (fun x73 => ?_)
        refine Reg.wpFin_drop (fun x74 => ?_)
        refine Reg.wpFin_drop (fun x75 => ?_)
        refine Reg.wpFin_drop (fun x76 => ?_)
        refine Reg.wpFin_fix _ rfl ?_
        show _
        simp only [Reg.wpFin, List.setIfInBounds_toArray, List.set_cons_succ, List.set_cons_zero]
        have HE2 := Lib.hid hE
        clear hE n0 n1 n2 n3 n4 n5 n6 d0 d1 d2 hwr
        rcases Bool.eq_false_or_eq_true ((((!q2 || !q3) || q1) || !q4) || !q5) with hz | hz
        · rw [hz]
          go_wp2_with fail
          go_ret
          exact ⟨_, rfl, HEw.out.trans (HWl.out.trans HE2.out), val_bool (by rw [HV.out, HF.out (by rw [HOK.out]; revert hz; cases q1 <;> cases q2 <;> cases q3 <;> cases q4 <;> cases q5 <;> simp)]; simp)⟩
        · rw [hz]
          go_upto_region 9 with fail
          refine Reg.wp_region_seq (fun w => (w.cell? ⟨B0, 0, none⟩ = some (.int .i64 T.nodes)) ∧ (w.cell? ⟨B0, 1, none⟩ = some (.slice oa mo oc)) ∧ (w.cell? ⟨B0, 2, none⟩ = some (.slice (some ⟨b, off, none⟩) m lc)) ∧ (w.cell? ⟨B1, 0, none⟩ = some (.int .i64 l.a)) ∧ (w.cell? ⟨B1, 1, none⟩ = some (.int .i64 l.b)) ∧ (w.cell? ⟨B1, 2, none⟩ = some (.int .i64 l.c0)) ∧ (w.cell? ⟨B1, 3, none⟩ = some (.int .i64 l.c1)) ∧ (w.cell? ⟨B1, 4, none⟩ = some (.int .i64 l.cap)) ∧ (w.cell? ⟨B1, 5, none⟩ = some (.int .i64 l.delay)) ∧ (w.cell? ⟨B1, 6, none⟩ = some (.int .i64 l.grp))) [78, 79, 80, 81, 82, 83, 84, 85, 86, 87, 88, 89, 90, 91, 92, 93] (fun w w' hE h => ⟨hE.cell h.1, hE.cell h.2.1, hE.cell h.2.2.1, hE.cell h.2.2.2.1, hE.cell h.2.2.2.2.1, hE.cell h.2.2.2.2.2.1, hE.cell h.2.2.2.2.2.2.1, hE.cell h.2.2.2.2.2.2.2.1, hE.cell h.2.2.2.2.2.2.2.2.1, hE.cell h.2.2.2.2.2.2.2.2.2⟩) (⟨by assumption, by assumption, by assumption, by assumption, by assumption, by assumption, by assumption, by assumption, by assumption, by assumption⟩) (by kernel_rfl) ?_
          refine Reg.wpAbs_ex ?_
          apply Exists.intro
          refine ⟨?_, ?_⟩
          · intro ρ w₁ hρ hC hs
            have e4 := hs 4 (by decide)
            have hc := hρ.const
            have hf := hρ.func
            have hg := hρ.glob
            clear hs hρ
            change ρ (.tmp 4) = _ at e4
            obtain ⟨hE, ⟨hS1, hS2, hS3, hS4, hS5, hS6, hS7, hS8, hS9, hS10⟩⟩ := hC
            refine Reg.step_plain rfl ?_
            clear hf
            go_simp
            exact ⟨Reg.Ext.refl _, rfl⟩
          refine Reg.wpAbs_ex ?_
          apply Exists.intro
          refine ⟨?_, ?_⟩
          · intro ρ w₁ hρ hC hs
            have e78 := hs 78 (by decide)
            have hc := hρ.const
            have hf := hρ.func
            have hg := hρ.glob
            clear hs hρ
            change ρ (.tmp 78) = _ at e78
            obtain ⟨hE, ⟨hS1, hS2, hS3, hS4, hS5, hS6, hS7, hS8, hS9, hS10⟩⟩ := hC
            refine Reg.step_plain rfl ?_
            clear hf
            go_simp
            exact ⟨Reg.Ext.refl _, rfl⟩
          refine Reg.wpAbs_fix (.bool (q6)) ?_ ?_
          · intro ρ w₁ hρ hC hs
            have e79 := hs 79 (by decide)
            have hc := hρ.const
            have hf := hρ.func
            have hg := hρ.glob
            clear hs hρ
            change ρ (.tmp 79) = _ at e79
            obtain ⟨hE, ⟨hS1, hS2, hS3, hS4, hS5, hS6, hS7, hS8, hS9, hS10⟩⟩ := hC
            refine Reg.step_plain rfl ?_
            rw [Reg.execOp_callR hf]
            clear hf
            go_simp
            refine ⟨Reg.Ext.refl _, ?_⟩
            with_reducible exact (by have := rwithin_any l.cap 0 1048576 w₁; rw [G6.out] at this; exact this)
          refine Reg.wpAbs_fix (.bool (!q6)) ?_ ?_
          · intro ρ w₁ hρ hC hs
            have e80 := hs 80 (by decide)
            have hc := hρ.const
            have hf := hρ.func
            have hg := hρ.glob
            clear hs hρ
            change ρ (.tmp 80) = _ at e80
            obtain ⟨hE, ⟨hS1, hS2, hS3, hS4, hS5, hS6, hS7, hS8, hS9, hS10⟩⟩ := hC
            refine Reg.step_plain rfl ?_
            clear hf
            go_simp
            exact ⟨Reg.Ext.refl _, rfl⟩
          refine Reg.wpAbs_fix (.bool (!q6)) ?_ ?_
          · intro ρ w₁ hρ hC hs
            have e81 := hs 81 (by decide)
            have hc := hρ.const
            have hf := hρ.func
            have hg := hρ.glob
            clear hs hρ
            change ρ (.tmp 81) = _ at e81
            obtain ⟨hE, ⟨hS1, hS2, hS3, hS4, hS5, hS6, hS7, hS8, hS9, hS10⟩⟩ := hC
            refine Reg.step_plain rfl ?_
            clear hf
            go_simp
            exact ⟨Reg.Ext.refl _, rfl⟩
          refine Reg.wpAbs_exC (!(!q6)) ?_
          apply Exists.intro
          refine ⟨?_, ?_⟩
          · intro ρ w₁ hρ hC hs
            have e4 := hs 4 (by decide)
            have e82 := hs 82 (by decide)
            have hc := hρ.const
            have hf := hρ.func
            have hg := hρ.glob
            clear hs hρ
            change ρ (.tmp 4) = _ at e4
            change ρ (.tmp 82) = _ at e82
            obtain ⟨hE, ⟨hS1, hS2, hS3, hS4, hS5, hS6, hS7, hS8, hS9, hS10⟩⟩ := hC
            refine ⟨fun hgd => ⟨Reg.wanted_of (t := 82) rfl rfl (by rw [e82, show (!q6) = false from Reg.of_not_true hgd]), ?_⟩, fun hgd => ?_⟩
            · clear hf
              go_simp
              exact ⟨Reg.Ext.refl _, rfl⟩
            · exact Reg.unwanted_of (t := 82) rfl rfl (.inl (by rw [e82, show (!q6) = true from Reg.of_not_false hgd]; rfl))
          refine Reg.wpAbs_exC (!(!q6)) ?_
          apply Exists.intro
          refine ⟨?_, ?_⟩
          · intro ρ w₁ hρ hC hs
            have e83 := hs 83 (by decide)
            have e82 := hs 82 (by decide)
            have hc := hρ.const
            have hf := hρ.func
            have hg := hρ.glob
            clear hs hρ
            change ρ (.tmp 83) = _ at e83
            change ρ (.tmp 82) = _ at e82
            obtain ⟨hE, ⟨hS1, hS2, hS3, hS4, hS5, hS6, hS7, hS8, hS9, hS10⟩⟩ := hC
            refine ⟨fun hgd => ⟨Reg.wanted_of (t := 82) rfl rfl (by rw [e82, show (!q6) = false from Reg.of_not_true hgd]), ?_⟩, fun hgd => ?_⟩
            · rw [hgd] at e83
              simp only [cond_true] at e83
              clear hf
              go_simp
              exact ⟨Reg.Ext.refl _, rfl⟩
            · exact Reg.unwanted_of (t := 82) rfl rfl (.inl (by rw [e82, show (!q6) = true from Reg.of_not_false hgd]; rfl))
          refine Reg.wpAbs_exC (!(!q6)) ?_
          refine ⟨.bool (q7), ?_, ?_⟩
          · intro ρ w₁ hρ hC hs
            have e84 := hs 84 (by decide)
            have e82 := hs 82 (by decide)
            have hc := hρ.const
            have hf := hρ.func
            have hg := hρ.glob
            clear hs hρ
            change ρ (.tmp 84) = _ at e84
            change ρ (.tmp 82) = _ at e82
            obtain ⟨hE, ⟨hS1, hS2, hS3, hS4, hS5, hS6, hS7, hS8, hS9, hS10⟩⟩ := hC
            refine ⟨fun hgd => ⟨Reg.wanted_of (t := 82) rfl rfl (by rw [e82, show (!q6) = false from Reg.of_not_true hgd]), ?_⟩, fun hgd => ?_⟩
            · rw [hgd] at e84
              simp only [cond_true] at e84
              rw [Reg.execOp_callR hf]
              clear hf
              go_simp
              refine ⟨Reg.Ext.refl _, ?_⟩
              with_reducible exact (by have := rwithin_any l.delay 1 65536 w₁; rw [G7.out] at this; exact this)
            · exact Reg.unwanted_of (t := 82) rfl rfl (.inl (by rw [e82, show (!q6) = true from Reg.of_not_false hgd]; rfl))
          refine Reg.wpAbs_exC (!(!q6)) ?_
          refine ⟨.bool (!q7), ?_, ?_⟩
          · intro ρ w₁ hρ hC hs
            have e85 := hs 85 (by decide)
            have e82 := hs 82 (by decide)
            have hc := hρ.const
            have hf := hρ.func
            have hg := hρ.glob
            clear hs hρ
            change ρ (.tmp 85) = _ at e85
            change ρ (.tmp 82) = _ at e82
            obtain ⟨hE, ⟨hS1, hS2, hS3, hS4, hS5, hS6, hS7, hS8, hS9, hS10⟩⟩ := hC
            refine ⟨fun hgd => ⟨Reg.wanted_of (t := 82) rfl rfl (by rw [e82, show (!q6) = false from Reg.of_not_true hgd]), ?_⟩, fun hgd => ?_⟩
            · rw [hgd] at e85
              simp only [cond_true] at e85
              clear hf
              go_simp
              exact ⟨Reg.Ext.refl _, rfl⟩
            · exact Reg.unwanted_of (t := 82) rfl rfl (.inl (by rw [e82, show (!q6) = true from Reg.of_not_false hgd]; rfl))
          refine Reg.wpAbs_fix (.bool ((!q6) || (!q7))) ?_ ?_
          · intro ρ w₁ hρ hC hs
            have e82 := hs 82 (by decide)
            have e86 := hs 86 (by decide)
            have hc := hρ.const
            have hf := hρ.func
            have hg := hρ.glob
            clear hs hρ
            change ρ (.tmp 82) = _ at e82
            change ρ (.tmp 86) = _ at e86
            obtain ⟨hE, ⟨hS1, hS2, hS3, hS4, hS5, hS6, hS7, hS8, hS9, hS10⟩⟩ := hC
            refine Reg.step_plain rfl ?_
            rcases Bool.eq_false_or_eq_true (!q6) with hb | hb
            · rw [hb] at e82
              clear e86
              clear hf
              go_simp
              exact ⟨Reg.Ext.refl _, by first | rfl | simp | simp [hb]⟩
            · rw [hb] at e82
              rw [show (!(!q6)) = true by simp [hb]] at e86
              simp only [cond_true] at e86
              clear hf
              go_simp
              exact ⟨Reg.Ext.refl _, by first | rfl | simp | simp [hb]⟩
          refine Reg.wpAbs_fix (.bool ((!q6) || (!q7))) ?_ ?_
          · intro ρ w₁ hρ hC hs
            have e87 := hs 87 (by decide)
            have hc := hρ.const
            have hf := hρ.func
            have hg := hρ.glob
            clear hs hρ
            change ρ (.tmp 87) = _ at e87
            obtain ⟨hE, ⟨hS1, hS2, hS3, hS4, hS5, hS6, hS7, hS8, hS9, hS10⟩⟩ := hC
            refine Reg.step_plain rfl ?_
            clear hf
            go_simp
            exact ⟨Reg.Ext.refl _, rfl⟩
          refine Reg.wpAbs_exC (!((!q6) || (!q7))) ?_
          apply Exists.intro
          refine ⟨?_, ?_⟩
          · intro ρ w₁ hρ hC hs
            have e4 := hs 4 (by decide)
            have e88 := hs 88 (by decide)
            have hc := hρ.const
            have hf := hρ.func
            have hg := hρ.glob
            clear hs hρ
            change ρ (.tmp 4) = _ at e4
            change ρ (.tmp 88) = _ at e88
            obtain ⟨hE, ⟨hS1, hS2, hS3, hS4, hS5, hS6, hS7, hS8, hS9, hS10⟩⟩ := hC
            refine ⟨fun hgd => ⟨Reg.wanted_of (t := 88) rfl rfl (by rw [e88, show ((!q6) || (!q7)) = false from Reg.of_not_true hgd]), ?_⟩, fun hgd => ?_⟩
            · clear hf
              go_simp
              exact ⟨Reg.Ext.refl _, rfl⟩
            · exact Reg.unwanted_of (t := 88) rfl rfl (.inl (by rw [e88, show ((!q6) || (!q7)) = true from Reg.of_not_false hgd]; rfl))
          refine Reg.wpAbs_exC (!((!q6) || (!q7))) ?_
          apply Exists.intro
          refine ⟨?_, ?_⟩
          · intro ρ w₁ hρ hC hs
            have e89 := hs 89 (by decide)
            have e88 := hs 88 (by decide)
            have hc := hρ.const
            have hf := hρ.func
            have hg := hρ.glob
            clear hs hρ
            change ρ (.tmp 89) = _ at e89
            change ρ (.tmp 88) = _ at e88
            obtain ⟨hE, ⟨hS1, hS2, hS3, hS4, hS5, hS6, hS7, hS8, hS9, hS10⟩⟩ := hC
            refine ⟨fun hgd => ⟨Reg.wanted_of (t := 88) rfl rfl (by rw [e88, show ((!q6) || (!q7)) = false from Reg.of_not_true hgd]), ?_⟩, fun hgd => ?_⟩
            · rw [hgd] at e89
              simp only [cond_true] at e89
              clear hf
              go_simp
              exact ⟨Reg.Ext.refl _, rfl⟩
            · exact Reg.unwanted_of (t := 88) rfl rfl (.inl (by rw [e88, show ((!q6) || (!q7)) = true from Reg.of_not_false hgd]; rfl))
          refine Reg.wpAbs_exC (!((!q6) || (!q7))) ?_
          refine ⟨.bool (q8), ?_, ?_⟩
          · intro ρ w₁ hρ hC hs
            have e90 := hs 90 (by decide)
            have e88 := hs 88 (by decide)
            have hc := hρ.const
            have hf := hρ.func
            have hg := hρ.glob
            clear hs hρ
            change ρ (.tmp 90) = _ at e90
            change ρ (.tmp 88) = _ at e88
            obtain ⟨hE, ⟨hS1, hS2, hS3, hS4, hS5, hS6, hS7, hS8, hS9, hS10⟩⟩ := hC
            refine ⟨fun hgd => ⟨Reg.wanted_of (t := 88) rfl rfl (by rw [e88, show ((!q6) || (!q7)) = false from Reg.of_not_true hgd]), ?_⟩, fun hgd => ?_⟩
            · rw [hgd] at e90
              simp only [cond_true] at e90
              rw [Reg.execOp_callR hf]
              clear hf
              go_simp
              refine ⟨Reg.Ext.refl _, ?_⟩
              with_reducible exact (by have := rwithin_any l.grp 0 64 w₁; rw [G8.out] at this; exact this)
            · exact Reg.unwanted_of (t := 88) rfl rfl (.inl (by rw [e88, show ((!q6) || (!q7)) = true from Reg.of_not_false hgd]; rfl))
          refine Reg.wpAbs_exC (!((!q6) || (!q7))) ?_
          refine ⟨.bool (!q8), ?_, ?_⟩
          · intro ρ w₁ hρ hC hs
            have e91 := hs 91 (by decide)
            have e88 := hs 88 (by decide)
            have hc := hρ.const
            have hf := hρ.func
            have hg := hρ.glob
            clear hs hρ
            change ρ (.tmp 91) = _ at e91
            change ρ (.tmp 88) = _ at e88
            obtain ⟨hE, ⟨hS1, hS2, hS3, hS4, hS5, hS6, hS7, hS8, hS9, hS10⟩⟩ := hC
            refine ⟨fun hgd => ⟨Reg.wanted_of (t := 88) rfl rfl (by rw [e88, show ((!q6) || (!q7)) = false from Reg.of_not_true hgd]), ?_⟩, fun hgd => ?_⟩
            · rw [hgd] at e91
              simp only [cond_true] at e91
              clear hf
              go_simp
              exact ⟨Reg.Ext.refl _, rfl⟩
            · exact Reg.unwanted_of (t := 88) rfl rfl (.inl (by rw [e88, show ((!q6) || (!q7)) = true from Reg.of_not_false hgd]; rfl))
          refine Reg.wpAbs_fix (.bool (((!q6) || (!q7)) || (!q8))) ?_ ?_
          · intro ρ w₁ hρ hC hs
            have e88 := hs 88 (by decide)
            have e92 := hs 92 (by decide)
            have hc := hρ.const
            have hf := hρ.func
            have hg := hρ.glob
            clear hs hρ
            change ρ (.tmp 88) = _ at e88
            change ρ (.tmp 92) = _ at e92
            obtain ⟨hE, ⟨hS1, hS2, hS3, hS4, hS5, hS6, hS7, hS8, hS9, hS10⟩⟩ := hC
            refine Reg.step_plain rfl ?_
            rcases Bool.eq_false_or_eq_true ((!q6) || (!q7)) with hb | hb
            · rw [hb] at e88
              clear e92
              clear hf
              go_simp
              exact ⟨Reg.Ext.refl _, by first | rfl | simp | simp [hb]⟩
            · rw [hb] at e88
              rw [show (!((!q6) || (!q7))) = true by simp [hb]] at e92
              simp only [cond_true] at e92
              clear hf
              go_simp
              exact ⟨Reg.Ext.refl _, by first | rfl | simp | simp [hb]⟩
          refine Reg.wpAbs_nil ?_
          intro w₁ hE hS
          obtain ⟨hS1, hS2, hS3, hS4, hS5, hS6, hS7, hS8, hS9, hS10⟩ := hS
          refine Reg.wpFin_fix _ rfl ?_
          refine Reg.wpFin_fix _ rfl ?_
          refine Reg.wpFin_fix _ rfl ?_
          refine Reg.wpFin_fix _ rfl ?_
          refine Reg.wpFin_fix _ rfl ?_
          refine Reg.wpFin_drop (fun x83 => ?_)
          refine Reg.wpFin_drop (fun x84 => ?_)
          refine Reg.wpFin_drop (fun x85 => ?_)
          refine Reg.wpFin_drop (fun x86 => ?_)
          refine Reg.wpFin_fix _ rfl ?_
          refine Reg.wpFin_fix _ rfl ?_
          refine Reg.wpFin_drop (fun x89 => ?_)
          refine Reg.wpFin_drop (fun x90 => ?_)
          refine Reg.wpFin_drop (fun x91 => ?_)
          refine Reg.wpFin_drop (fun x92 => ?_)
          refine Reg.wpFin_fix _ rfl ?_
          show _
          simp only [Reg.wpFin, List.setIfInBounds_toArray, List.set_cons_succ, List.set_cons_zero]
          have HE3 := Lib.hid hE
          clear hE
          rcases Bool.eq_false_or_eq_true ((!q6 || !q7) || !q8) with hy | hy
          · rw [hy]
            go_wp2_with fail
            go_ret
            exact ⟨_, rfl, HEw.out.trans (HWl.out.trans (HE2.out.trans HE3.out)), val_bool (by rw [HV.out, HF.out (by rw [HOK.out]; revert hy; cases q6 <;> cases q7 <;> cases q8 <;> simp)]; simp)⟩
          · rw [hy]
            go_wp2_with fail
            go_roundw
            case rel => exact ⟨k + 1, by omega, by go_num, HG.out (by rw [HOK.out]; revert hy hz; cases q1 <;> cases q2 <;> cases q3 <;> cases q4 <;> cases q5 <;> cases q6 <;> cases q7 <;> cases q8 <;> simp), HE.out.trans (HWl.out.trans (HE2.out.trans HE3.out))⟩
            case measure => simp [intOf]; omega
      · have HT := Lib.hid (show T.links.all (linkOK T) = true by have := HA.out; rw [List.take_of_length_le (by rw [HM.out]; omega)] at this; exact this)
        go_wp2_with fail
        go_ret
        exact ⟨_, rfl, HEw.out, val_bool (by rw [HV.out, HZ.out, HT.out]; rfl)⟩

end Net
end Go.Proofs.YtkaalpdfppbdeaaDoor
