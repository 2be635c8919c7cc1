/- The contract of topology.Valid. -/
import Derived.Test.YtkaalpdfppbdeaaDoorGraph
import Derived.Deep.DeepCutAuto
namespace Go.Proofs.YtkaalpdfppbdeaaDoor
namespace Net
open Go.ChangeShapes Go.WideShapes Go.ChangeAt Go.RowKit
open Reg Mem

def linkOK (T : Topo) (l : Lnk) : Bool :=
  !(l.a == l.b) && nodeB T l.a && nodeB T l.b && withinB l.c0 1 65535 && withinB l.c1 1 65535 && withinB l.cap 0 1048576 && withinB l.delay 1 65536 && withinB l.grp 0 64
def validB (T : Topo) : Bool :=
  withinB T.nodes 1 64 && decide (T.links.length ≤ 256) && (decide (T.over.length = 0) || decide ((T.over.length : Int) = T.nodes)) && T.links.all (linkOK T)
theorem all_take (p : Lnk → Bool) (L : List Lnk) (k : Nat) (hk : k < L.length) : (L.take (k + 1)).all p = ((L.take k).all p && p (lnk L k)) := by
  rw [List.take_succ_eq_append_getElem hk, List.all_append]
  simp [lnk, hk]
theorem all_fail (p : Lnk → Bool) (L : List Lnk) (k : Nat) (hk : k < L.length) (h : p (lnk L k) = false) : L.all p = false := by
  rw [Bool.eq_false_iff]
  intro ha
  have := List.all_eq_true.1 ha (lnk L k) (by simp [lnk, hk])
  rw [h] at this
  cases this

theorem valid_none (T : Topo) (h : withinB T.nodes 1 64 = false ∨ 256 < T.links.length ∨ (T.over.length ≠ 0 ∧ (T.over.length : Int) ≠ T.nodes)) : false = validB T := by
  unfold validB
  rcases h with h | h | ⟨h1, h2⟩
  · simp [h]
  · have : decide (T.links.length ≤ 256) = false := by simp; omega
    simp [this]
  · simp [h1, h2]
theorem valid_some (T : Topo) (h1 : withinB T.nodes 1 64 = true) (h2 : T.links.length ≤ 256) (h3 : T.over.length = 0 ∨ (T.over.length : Int) = T.nodes) : validB T = T.links.all (linkOK T) := by
  unfold validB
  rcases h3 with h3 | h3 <;> simp [h1, h2, h3]


theorem linkOK_eq {T : Topo} {l : Lnk} {q1 q2 q3 q4 q5 q6 q7 q8 : Bool} (g1 : (l.a == l.b) = q1) (g2 : nodeB T l.a = q2) (g3 : nodeB T l.b = q3) (g4 : withinB l.c0 1 65535 = q4) (g5 : withinB l.c1 1 65535 = q5) (g6 : withinB l.cap 0 1048576 = q6) (g7 : withinB l.delay 1 65536 = q7) (g8 : withinB l.grp 0 64 = q8) :
    linkOK T l = (!q1 && q2 && q3 && q4 && q5 && q6 && q7 && q8) := by subst g1 g2 g3 g4 g5 g6 g7 g8; rfl

set_option maxRecDepth 100000 in
set_option maxHeartbeats 4000000 in
theorem valid_loop {T : Topo} {so : Value} {b off c : Nat} {w : World} (hn : withinB T.nodes 1 64 = true) (hm : T.links.length ≤ 256) (ho : T.over.length = 0 ∨ (T.over.length : Int) = T.nodes)
    (h0 : 0 < T.links.length) (h : TopoV w (.agg #[.int .i64 T.nodes, so, .slice (some ⟨b, off, none⟩) T.links.length c]) T)
    (HC : Hid (∀ i u, (lnks T.links)[i]? = some u → w.cell? ⟨b, off + i, none⟩ = some u)) :
    Calls Tryd.prog 27 #[.agg #[.int .i64 T.nodes, so, .slice (some ⟨b, off, none⟩) T.links.length c]] w (Ret (fun x _ => x = .bool (validB T)) w) := by
  have HV := Lib.hid (valid_some T hn hm ho)
  have H := Lib.hid h
  obtain ⟨ca, cc, hso, _, _⟩ : ∃ a c', so = .slice a T.over.length c' ∧ T.over.length ≤ c' ∧ T.over.length ≤ 9223372036854775807 := by
    obtain ⟨s1, s2, e, h1, _⟩ := h
    simp only [Value.agg.injEq, Array.mk.injEq, List.cons.injEq] at e
    obtain ⟨_, rfl, _⟩ := e
    exact row_slice h1
  subst hso
  clear h
  obtain ⟨m, hmm⟩ : ∃ m, T.links.length = m := ⟨_, rfl⟩
  obtain ⟨mo, hmo⟩ : ∃ m, T.over.length = m := ⟨_, rfl⟩
  rw [hmm] at hm h0 ⊢
  rw [hmo] at ho ⊢
  rw [hmm, hmo] at H
  have HM := Lib.hid hmm
  clear hmm hmo
  obtain ⟨p1, hp1⟩ : ∃ p, ((mo : Int) != 0) = p := ⟨_, rfl⟩
  obtain ⟨p2, hp2⟩ : ∃ p, ((mo : Int) != T.nodes) = p := ⟨_, rfl⟩
  have hp : (p1 && p2) = false := by
    rw [← hp1, ← hp2]
    rcases ho with ho | ho
    · simp [ho]
    · rw [ho]; simp
  have HP1 := Lib.hid hp1
  have HP2 := Lib.hid hp2
  clear ho hp1 hp2
  go_enter Tryd.func27, Tryd.ntmps27
  go_wp2_with fail
  refine (within_same _ _ _ _).mono ?_
  rintro e w' ⟨rfl, rfl⟩
  go_upto_region 3 with fail
  have b0 : (w.alloc (.cells #[.int .i64 T.nodes, .slice ca mo cc, .slice (some ⟨b, off, none⟩) m c] 25)).cell? ⟨w.heap.size, 0, none⟩ = some (.int .i64 T.nodes) := by simp [go_sem]
  have b1 : (w.alloc (.cells #[.int .i64 T.nodes, .slice ca mo cc, .slice (some ⟨b, off, none⟩) m c] 25)).cell? ⟨w.heap.size, 1, none⟩ = some (.slice ca mo cc) := by simp [go_sem]
  have b2 : (w.alloc (.cells #[.int .i64 T.nodes, .slice ca mo cc, .slice (some ⟨b, off, none⟩) m c] 25)).cell? ⟨w.heap.size, 2, none⟩ = some (.slice (some ⟨b, off, none⟩) m c) := by simp [go_sem]
  have HB := Lib.hid (show Ext w (w.alloc (.cells #[.int .i64 T.nodes, .slice ca mo cc, .slice (some ⟨b, off, none⟩) m c] 25)) from (Ext.refl w).alloc _)
  have HT := Lib.hid (H.out.mono HB.out)
  obtain ⟨wb, hwb⟩ : ∃ wb, w.alloc (.cells #[.int .i64 T.nodes, .slice ca mo cc, .slice (some ⟨b, off, none⟩) m c] 25) = wb := ⟨_, rfl⟩
  rw [hwb] at b0 b1 b2 HB HT ⊢
  clear hwb
  obtain ⟨B0, hB⟩ : ∃ B, w.heap.size = B := ⟨_, rfl⟩
  rw [hB] at b0 b1 b2 ⊢
  clear hB
  refine Reg.wp_region_seq (fun w => (w.cell? ⟨B0, 0, none⟩ = some (.int .i64 T.nodes)) ∧ (w.cell? ⟨B0, 1, none⟩ = some (.slice ca mo cc)) ∧ (w.cell? ⟨B0, 2, none⟩ = some (.slice (some ⟨b, off, none⟩) m c))) [15, 16, 17, 18, 19, 20, 21, 22, 23, 24, 25, 26] (fun w w' hE h => ⟨hE.cell h.1, hE.cell h.2.1, hE.cell h.2.2⟩) (⟨by assumption, by assumption, by assumption⟩) (by kernel_rfl) ?_
  refine Reg.wpAbs_ex ?_
  apply Exists.intro
  refine ⟨?_, ?_⟩
  · intro ρ w₁ hρ hC hs
    have e1 := hs 1 (by decide)
    have hc := hρ.const
    have hf := hρ.func
    have hg := hρ.glob
    clear hs hρ
    change ρ (.tmp 1) = _ at e1
    obtain ⟨hE, ⟨hS1, hS2, hS3⟩⟩ := hC
    refine Reg.step_plain rfl ?_
    clear hf
    go_simp
    exact ⟨Reg.Ext.refl _, rfl⟩
  refine Reg.wpAbs_ex ?_
  apply Exists.intro
  refine ⟨?_, ?_⟩
  · intro ρ w₁ hρ hC hs
    have e15 := hs 15 (by decide)
    have hc := hρ.const
    have hf := hρ.func
    have hg := hρ.glob
    clear hs hρ
    change ρ (.tmp 15) = _ at e15
    obtain ⟨hE, ⟨hS1, hS2, hS3⟩⟩ := hC
    refine Reg.step_plain rfl ?_
    clear hf
    go_simp
    exact ⟨Reg.Ext.refl _, rfl⟩
  refine Reg.wpAbs_ex ?_
  apply Exists.intro
  refine ⟨?_, ?_⟩
  · intro ρ w₁ hρ hC hs
    have e16 := hs 16 (by decide)
    have hc := hρ.const
    have hf := hρ.func
    have hg := hρ.glob
    clear hs hρ
    change ρ (.tmp 16) = _ at e16
    obtain ⟨hE, ⟨hS1, hS2, hS3⟩⟩ := hC
    refine Reg.step_plain rfl ?_
    clear hf
    go_simp
    exact ⟨Reg.Ext.refl _, rfl⟩
  refine Reg.wpAbs_fix (.bool (p1)) ?_ ?_
  · intro ρ w₁ hρ hC hs
    have e17 := hs 17 (by decide)
    have hc := hρ.const
    have hf := hρ.func
    have hg := hρ.glob
    clear hs hρ
    change ρ (.tmp 17) = _ at e17
    obtain ⟨hE, ⟨hS1, hS2, hS3⟩⟩ := hC
    refine Reg.step_plain rfl ?_
    clear hf
    go_simp
    exact ⟨Reg.Ext.refl _, val_bool HP1.out⟩
  refine Reg.wpAbs_fix (.bool (p1)) ?_ ?_
  · intro ρ w₁ hρ hC hs
    have e18 := hs 18 (by decide)
    have hc := hρ.const
    have hf := hρ.func
    have hg := hρ.glob
    clear hs hρ
    change ρ (.tmp 18) = _ at e18
    obtain ⟨hE, ⟨hS1, hS2, hS3⟩⟩ := hC
    refine Reg.step_plain rfl ?_
    clear hf
    go_simp
    exact ⟨Reg.Ext.refl _, rfl⟩
  refine Reg.wpAbs_exC (p1) ?_
  apply Exists.intro
  refine ⟨?_, ?_⟩
  · intro ρ w₁ hρ hC hs
    have e1 := hs 1 (by decide)
    have e19 := hs 19 (by decide)
    have hc := hρ.const
    have hf := hρ.func
    have hg := hρ.glob
    clear hs hρ
    change ρ (.tmp 1) = _ at e1
    change ρ (.tmp 19) = _ at e19
    obtain ⟨hE, ⟨hS1, hS2, hS3⟩⟩ := hC
    refine ⟨fun hgd => ⟨Reg.wanted_of (t := 19) rfl rfl (by rw [e19, hgd]), ?_⟩, fun hgd => ?_⟩
    · clear hf
      go_simp
      exact ⟨Reg.Ext.refl _, rfl⟩
    · exact Reg.unwanted_of (t := 19) rfl rfl (.inl (by rw [e19, hgd]; rfl))
  refine Reg.wpAbs_exC (p1) ?_
  apply Exists.intro
  refine ⟨?_, ?_⟩
  · intro ρ w₁ hρ hC hs
    have e20 := hs 20 (by decide)
    have e19 := hs 19 (by decide)
    have hc := hρ.const
    have hf := hρ.func
    have hg := hρ.glob
    clear hs hρ
    change ρ (.tmp 20) = _ at e20
    change ρ (.tmp 19) = _ at e19
    obtain ⟨hE, ⟨hS1, hS2, hS3⟩⟩ := hC
    refine ⟨fun hgd => ⟨Reg.wanted_of (t := 19) rfl rfl (by rw [e19, hgd]), ?_⟩, fun hgd => ?_⟩
    · rw [hgd] at e20
      simp only [cond_true] at e20
      clear hf
      go_simp
      exact ⟨Reg.Ext.refl _, rfl⟩
    · exact Reg.unwanted_of (t := 19) rfl rfl (.inl (by rw [e19, hgd]; rfl))
  refine Reg.wpAbs_exC (p1) ?_
  apply Exists.intro
  refine ⟨?_, ?_⟩
  · intro ρ w₁ hρ hC hs
    have e21 := hs 21 (by decide)
    have e19 := hs 19 (by decide)
    have hc := hρ.const
    have hf := hρ.func
    have hg := hρ.glob
    clear hs hρ
    change ρ (.tmp 21) = _ at e21
    change ρ (.tmp 19) = _ at e19
    obtain ⟨hE, ⟨hS1, hS2, hS3⟩⟩ := hC
    refine ⟨fun hgd => ⟨Reg.wanted_of (t := 19) rfl rfl (by rw [e19, hgd]), ?_⟩, fun hgd => ?_⟩
    · rw [hgd] at e21
      simp only [cond_true] at e21
      clear hf
      go_simp
      exact ⟨Reg.Ext.refl _, rfl⟩
    · exact Reg.unwanted_of (t := 19) rfl rfl (.inl (by rw [e19, hgd]; rfl))
  refine Reg.wpAbs_exC (p1) ?_
  apply Exists.intro
  refine ⟨?_, ?_⟩
  · intro ρ w₁ hρ hC hs
    have e1 := hs 1 (by decide)
    have e19 := hs 19 (by decide)
    have hc := hρ.const
    have hf := hρ.func
    have hg := hρ.glob
    clear hs hρ
    change ρ (.tmp 1) = _ at e1
    change ρ (.tmp 19) = _ at e19
    obtain ⟨hE, ⟨hS1, hS2, hS3⟩⟩ := hC
    refine ⟨fun hgd => ⟨Reg.wanted_of (t := 19) rfl rfl (by rw [e19, hgd]), ?_⟩, fun hgd => ?_⟩
    · clear hf
      go_simp
      exact ⟨Reg.Ext.refl _, rfl⟩
    · exact Reg.unwanted_of (t := 19) rfl rfl (.inl (by rw [e19, hgd]; rfl))
  refine Reg.wpAbs_exC (p1) ?_
  apply Exists.intro
  refine ⟨?_, ?_⟩
  · intro ρ w₁ hρ hC hs
    have e23 := hs 23 (by decide)
    have e19 := hs 19 (by decide)
    have hc := hρ.const
    have hf := hρ.func
    have hg := hρ.glob
    clear hs hρ
    change ρ (.tmp 23) = _ at e23
    change ρ (.tmp 19) = _ at e19
    obtain ⟨hE, ⟨hS1, hS2, hS3⟩⟩ := hC
    refine ⟨fun hgd => ⟨Reg.wanted_of (t := 19) rfl rfl (by rw [e19, hgd]), ?_⟩, fun hgd => ?_⟩
    · rw [hgd] at e23
      simp only [cond_true] at e23
      clear hf
      go_simp
      exact ⟨Reg.Ext.refl _, rfl⟩
    · exact Reg.unwanted_of (t := 19) rfl rfl (.inl (by rw [e19, hgd]; rfl))
  refine Reg.wpAbs_exC (p1) ?_
  refine ⟨.bool (p2), ?_, ?_⟩
  · intro ρ w₁ hρ hC hs
    have e22 := hs 22 (by decide)
    have e24 := hs 24 (by decide)
    have e19 := hs 19 (by decide)
    have hc := hρ.const
    have hf := hρ.func
    have hg := hρ.glob
    clear hs hρ
    change ρ (.tmp 22) = _ at e22
    change ρ (.tmp 24) = _ at e24
    change ρ (.tmp 19) = _ at e19
    obtain ⟨hE, ⟨hS1, hS2, hS3⟩⟩ := hC
    refine ⟨fun hgd => ⟨Reg.wanted_of (t := 19) rfl rfl (by rw [e19, hgd]), ?_⟩, fun hgd => ?_⟩
    · rw [hgd] at e22
      simp only [cond_true] at e22
      rw [hgd] at e24
      simp only [cond_true] at e24
      clear hf
      go_simp
      exact ⟨Reg.Ext.refl _, val_bool HP2.out⟩
    · exact Reg.unwanted_of (t := 19) rfl rfl (.inl (by rw [e19, hgd]; rfl))
  refine Reg.wpAbs_fix (.bool (p1 && p2)) ?_ ?_
  · intro ρ w₁ hρ hC hs
    have e19 := hs 19 (by decide)
    have e25 := hs 25 (by decide)
    have hc := hρ.const
    have hf := hρ.func
    have hg := hρ.glob
    clear hs hρ
    change ρ (.tmp 19) = _ at e19
    change ρ (.tmp 25) = _ at e25
    obtain ⟨hE, ⟨hS1, hS2, hS3⟩⟩ := hC
    refine Reg.step_plain rfl ?_
    rcases Bool.eq_false_or_eq_true (p1) with hb | hb
    · rw [hb] at e19
      rw [show (p1) = true by simp [hb]] at e25
      simp only [cond_true] at e25
      clear hf
      go_simp
      exact ⟨Reg.Ext.refl _, by first | rfl | simp | simp [hb]⟩
    · rw [hb] at e19
      clear e25
      clear hf
      go_simp
      exact ⟨Reg.Ext.refl _, by first | rfl | simp | simp [hb]⟩
  refine Reg.wpAbs_nil ?_
  intro w₁ hE hS
  obtain ⟨hS1, hS2, hS3⟩ := hS
  refine Reg.wpFin_fix _ rfl ?_
  refine Reg.wpFin_fix _ rfl ?_
  refine Reg.wpFin_fix _ rfl ?_
  refine Reg.wpFin_fix _ rfl ?_
  refine Reg.wpFin_fix _ rfl ?_
  refine Reg.wpFin_drop (fun x20 => ?_)
  refine Reg.wpFin_drop (fun x21 => ?_)
  refine Reg.wpFin_drop (fun x22 => ?_)
  refine Reg.wpFin_drop (fun x23 => ?_)
  refine Reg.wpFin_drop (fun x24 => ?_)
  refine Reg.wpFin_drop (fun x25 => ?_)
  refine Reg.wpFin_fix _ rfl ?_
  show _
  simp only [Reg.wpFin, List.setIfInBounds_toArray, List.set_cons_succ, List.set_cons_zero]
  rw [hp]
  have HE1 := Lib.hid hE
  clear hE b0 b1 b2
  generalize (bif p1 then Value.pointer (some ⟨B0, 1, none⟩) else undef) = z20
  go_wp2_with fail
  go_loopw [3, 4, 30] (fun _ _ i wr => ∃ k : Nat, k ≤ m ∧ i = .int .i64 k ∧ (T.links.take k).all (linkOK T) = true ∧ Ext w₁ wr) (fun _ _ i _ => m - (intOf i).toNat)
  case atStart => exact ⟨0, by omega, rfl, rfl, Ext.refl _⟩
  case round =>
    obtain ⟨k, hk, rfl, ha, hEw⟩ := hrel
    have HA := Lib.hid ha
    have HE := Lib.hid hEw
    have HEw := Lib.hid (HB.out.trans (HE1.out.trans hEw))
    have b0 := hEw.cell hS1
    have b1 := hEw.cell hS2
    have b2 := hEw.cell hS3
    clear ha hEw
    by_cases hlt : k < m
    · obtain ⟨l, hl⟩ : ∃ l, lnk T.links k = l := ⟨_, rfl⟩
      obtain ⟨k0, k1, k2, k3, k4, k5, k6⟩ := link_cells HC.out k (by rw [HM.out]; exact hlt)
      rw [hl] at k0 k1 k2 k3 k4 k5 k6
      have g0 := HEw.out.cell k0
      have g1 := HEw.out.cell k1
      have g2 := HEw.out.cell k2
      have g3 := HEw.out.cell k3
      have g4 := HEw.out.cell k4
      have g5 := HEw.out.cell k5
      have g6 := HEw.out.cell k6
      have hT := H.out.mono HEw.out
      obtain ⟨q1, G1⟩ : ∃ q, Hid ((l.a == l.b) = q) := ⟨_, rfl⟩
      obtain ⟨q2, G2⟩ : ∃ q, Hid (nodeB T l.a = q) := ⟨_, rfl⟩
      obtain ⟨q3, G3⟩ : ∃ q, Hid (nodeB T l.b = q) := ⟨_, rfl⟩
      obtain ⟨q4, G4⟩ : ∃ q, Hid (withinB l.c0 1 65535 = q) := ⟨_, rfl⟩
      obtain ⟨q5, G5⟩ : ∃ q, Hid (withinB l.c1 1 65535 = q) := ⟨_, rfl⟩
      obtain ⟨q6, G6⟩ : ∃ q, Hid (withinB l.cap 0 1048576 = q) := ⟨_, rfl⟩
      obtain ⟨q7, G7⟩ : ∃ q, Hid (withinB l.delay 1 65536 = q) := ⟨_, rfl⟩
      obtain ⟨q8, G8⟩ : ∃ q, Hid (withinB l.grp 0 64 = q) := ⟨_, rfl⟩
      have HOK := Lib.hid (linkOK_eq G1.out G2.out G3.out G4.out G5.out G6.out G7.out G8.out)
      have HF := Lib.hid fun h : linkOK T l = false => all_fail (linkOK T) T.links k (by rw [HM.out]; exact hlt) (by rw [hl]; exact h)
      have HG := Lib.hid fun h : linkOK T l = true => (show (T.links.take (k + 1)).all (linkOK T) = true by rw [all_take (linkOK T) T.links k (by rw [HM.out]; exact hlt), HA.out, hl, h]; rfl)
      clear hl k0 k1 k2 k3 k4 k5 k6 hS1 hS2 hS3
      go_wp2_with fail
      refine Reg.wp_region_abs (fun w => (w.cell? ⟨B0, 0, none⟩ = some (.int .i64 T.nodes)) ∧ (w.cell? ⟨B0, 1, none⟩ = some (.slice ca mo cc)) ∧ (w.cell? ⟨B0, 2, none⟩ = some (.slice (some ⟨b, off, none⟩) m c)) ∧ (w.cell? ⟨b, off + k * 7, none⟩ = some (.int .i64 l.a)) ∧ (w.cell? ⟨b, off + k * 7 + 1, none⟩ = some (.int .i64 l.b)) ∧ (w.cell? ⟨b, off + k * 7 + 2, none⟩ = some (.int .i64 l.c0)) ∧ (w.cell? ⟨b, off + k * 7 + 3, none⟩ = some (.int .i64 l.c1)) ∧ (w.cell? ⟨b, off + k * 7 + 4, none⟩ = some (.int .i64 l.cap)) ∧ (w.cell? ⟨b, off + k * 7 + 5, none⟩ = some (.int .i64 l.delay)) ∧ (w.cell? ⟨b, off + k * 7 + 6, none⟩ = some (.int .i64 l.grp)) ∧ (TopoV w (.agg #[.int .i64 T.nodes, .slice ca mo cc, .slice (some ⟨b, off, none⟩) m c]) T)) [37, 38, 39, 40, 41, 42, 43, 44, 45, 46, 47, 48, 49, 50, 51, 52, 53, 54, 55, 56, 57, 58, 59, 60, 61, 62, 63] (fun w w' hE h => ⟨hE.cell h.1, hE.cell h.2.1, hE.cell h.2.2.1, hE.cell h.2.2.2.1, hE.cell h.2.2.2.2.1, hE.cell h.2.2.2.2.2.1, hE.cell h.2.2.2.2.2.2.1, hE.cell h.2.2.2.2.2.2.2.1, hE.cell h.2.2.2.2.2.2.2.2.1, hE.cell h.2.2.2.2.2.2.2.2.2.1, h.2.2.2.2.2.2.2.2.2.2.mono hE⟩) (⟨by assumption, by assumption, by assumption, by assumption, by assumption, by assumption, by assumption, by assumption, by assumption, by assumption, by assumption⟩) (by kernel_rfl) (by kernel_rfl) (by kernel_rfl) ?_
      refine Reg.wpAbs_ex ?_
      apply Exists.intro
      refine ⟨?_, ?_⟩
      · intro ρ w₁ hρ hC hs
        have e4 := hs 4 (by decide)
        have hc := hρ.const
        have hf := hρ.func
        have hg := hρ.glob
        clear hs hρ
        change ρ (.tmp 4) = _ at e4
        obtain ⟨hE, ⟨hS1, hS2, hS3, hS4, hS5, hS6, hS7, hS8, hS9, hS10, hS11⟩⟩ := hC
        refine Reg.step_plain rfl ?_
        clear hf
        go_simp
        exact ⟨Reg.Ext.refl _, rfl⟩
      refine Reg.wpAbs_ex ?_
      apply Exists.intro
      refine ⟨?_, ?_⟩
      · intro ρ w₁ hρ hC hs
        have e37 := hs 37 (by decide)
        have hc := hρ.const
        have hf := hρ.func
        have hg := hρ.glob
        clear hs hρ
        change ρ (.tmp 37) = _ at e37
        obtain ⟨hE, ⟨hS1, hS2, hS3, hS4, hS5, hS6, hS7, hS8, hS9, hS10, hS11⟩⟩ := hC
        refine Reg.step_plain rfl ?_
        clear hf
        go_simp
        exact ⟨Reg.Ext.refl _, rfl⟩
      refine Reg.wpAbs_ex ?_
      apply Exists.intro
      refine ⟨?_, ?_⟩
      · intro ρ w₁ hρ hC hs
        have e38 := hs 38 (by decide)
        have hc := hρ.const
        have hf := hρ.func
        have hg := hρ.glob
        clear hs hρ
        change ρ (.tmp 38) = _ at e38
        obtain ⟨hE, ⟨hS1, hS2, hS3, hS4, hS5, hS6, hS7, hS8, hS9, hS10, hS11⟩⟩ := hC
        refine Reg.step_plain rfl ?_
        clear hf
        go_simp
        exact ⟨Reg.Ext.refl _, rfl⟩
      refine Reg.wpAbs_ex ?_
      apply Exists.intro
      refine ⟨?_, ?_⟩
      · intro ρ w₁ hρ hC hs
        have e39 := hs 39 (by decide)
        have hc := hρ.const
        have hf := hρ.func
        have hg := hρ.glob
        clear hs hρ
        change ρ (.tmp 39) = _ at e39
        obtain ⟨hE, ⟨hS1, hS2, hS3, hS4, hS5, hS6, hS7, hS8, hS9, hS10, hS11⟩⟩ := hC
        refine Reg.step_plain rfl ?_
        clear hf
        go_simp
        exact ⟨Reg.Ext.refl _, rfl⟩
      refine Reg.wpAbs_ex ?_
      apply Exists.intro
      refine ⟨?_, ?_⟩
      · intro ρ w₁ hρ hC hs
        have e4 := hs 4 (by decide)
        have hc := hρ.const
        have hf := hρ.func
        have hg := hρ.glob
        clear hs hρ
        change ρ (.tmp 4) = _ at e4
        obtain ⟨hE, ⟨hS1, hS2, hS3, hS4, hS5, hS6, hS7, hS8, hS9, hS10, hS11⟩⟩ := hC
        refine Reg.step_plain rfl ?_
        clear hf
        go_simp
        exact ⟨Reg.Ext.refl _, rfl⟩
      refine Reg.wpAbs_ex ?_
      apply Exists.intro
      refine ⟨?_, ?_⟩
      · intro ρ w₁ hρ hC hs
        have e41 := hs 41 (by decide)
        have hc := hρ.const
        have hf := hρ.func
        have hg := hρ.glob
        clear hs hρ
        change ρ (.tmp 41) = _ at e41
        obtain ⟨hE, ⟨hS1, hS2, hS3, hS4, hS5, hS6, hS7, hS8, hS9, hS10, hS11⟩⟩ := hC
        refine Reg.step_plain rfl ?_
        clear hf
        go_simp
        exact ⟨Reg.Ext.refl _, rfl⟩
      refine Reg.wpAbs_ex ?_
      apply Exists.intro
      refine ⟨?_, ?_⟩
      · intro ρ w₁ hρ hC hs
        have e42 := hs 42 (by decide)
        have hc := hρ.const
        have hf := hρ.func
        have hg := hρ.glob
        clear hs hρ
        change ρ (.tmp 42) = _ at e42
        obtain ⟨hE, ⟨hS1, hS2, hS3, hS4, hS5, hS6, hS7, hS8, hS9, hS10, hS11⟩⟩ := hC
        refine Reg.step_plain rfl ?_
        clear hf
        go_simp
        exact ⟨Reg.Ext.refl _, rfl⟩
      refine Reg.wpAbs_ex ?_
      apply Exists.intro
      refine ⟨?_, ?_⟩
      · intro ρ w₁ hρ hC hs
        have e43 := hs 43 (by decide)
        have hc := hρ.const
        have hf := hρ.func
        have hg := hρ.glob
        clear hs hρ
        change ρ (.tmp 43) = _ at e43
        obtain ⟨hE, ⟨hS1, hS2, hS3, hS4, hS5, hS6, hS7, hS8, hS9, hS10, hS11⟩⟩ := hC
        refine Reg.step_plain rfl ?_
        clear hf
        go_simp
        exact ⟨Reg.Ext.refl _, rfl⟩
      refine Reg.wpAbs_fix (.bool (q1)) ?_ ?_
      · intro ρ w₁ hρ hC hs
        have e40 := hs 40 (by decide)
        have e44 := hs 44 (by decide)
        have hc := hρ.const
        have hf := hρ.func
        have hg := hρ.glob
        clear hs hρ
        change ρ (.tmp 40) = _ at e40
        change ρ (.tmp 44) = _ at e44
        obtain ⟨hE, ⟨hS1, hS2, hS3, hS4, hS5, hS6, hS7, hS8, hS9, hS10, hS11⟩⟩ := hC
        refine Reg.step_plain rfl ?_
        clear hf
        go_simp
        exact ⟨Reg.Ext.refl _, val_bool G1.out⟩
      refine Reg.wpAbs_fix (.bool (q1)) ?_ ?_
      · intro ρ w₁ hρ hC hs
        have e45 := hs 45 (by decide)
        have hc := hρ.const
        have hf := hρ.func
        have hg := hρ.glob
        clear hs hρ
        change ρ (.tmp 45) = _ at e45
        obtain ⟨hE, ⟨hS1, hS2, hS3, hS4, hS5, hS6, hS7, hS8, hS9, hS10, hS11⟩⟩ := hC
        refine Reg.step_plain rfl ?_
        clear hf
        go_simp
        exact ⟨Reg.Ext.refl _, rfl⟩
      refine Reg.wpAbs_exC (!q1) ?_
      apply Exists.intro
      refine ⟨?_, ?_⟩
      · intro ρ w₁ hρ hC hs
        have e1 := hs 1 (by decide)
        have e46 := hs 46 (by decide)
        have hc := hρ.const
        have hf := hρ.func
        have hg := hρ.glob
        clear hs hρ
        change ρ (.tmp 1) = _ at e1
        change ρ (.tmp 46) = _ at e46
        obtain ⟨hE, ⟨hS1, hS2, hS3, hS4, hS5, hS6, hS7, hS8, hS9, hS10, hS11⟩⟩ := hC
        refine ⟨fun hgd => ⟨Reg.wanted_of (t := 46) rfl rfl (by rw [e46, show (q1) = false from Reg.of_not_true hgd]), ?_⟩, fun hgd => ?_⟩
        · clear hf
          go_simp
          exact ⟨Reg.Ext.refl _, rfl⟩
        · exact Reg.unwanted_of (t := 46) rfl rfl (.inl (by rw [e46, show (q1) = true from Reg.of_not_false hgd]; rfl))
      refine Reg.wpAbs_exC (!q1) ?_
      apply Exists.intro
      refine ⟨?_, ?_⟩
      · intro ρ w₁ hρ hC hs
        have e4 := hs 4 (by decide)
        have e46 := hs 46 (by decide)
        have hc := hρ.const
        have hf := hρ.func
        have hg := hρ.glob
        clear hs hρ
        change ρ (.tmp 4) = _ at e4
        change ρ (.tmp 46) = _ at e46
        obtain ⟨hE, ⟨hS1, hS2, hS3, hS4, hS5, hS6, hS7, hS8, hS9, hS10, hS11⟩⟩ := hC
        refine ⟨fun hgd => ⟨Reg.wanted_of (t := 46) rfl rfl (by rw [e46, show (q1) = false from Reg.of_not_true hgd]), ?_⟩, fun hgd => ?_⟩
        · clear hf
          go_simp
          exact ⟨Reg.Ext.refl _, rfl⟩
        · exact Reg.unwanted_of (t := 46) rfl rfl (.inl (by rw [e46, show (q1) = true from Reg.of_not_false hgd]; rfl))
      refine Reg.wpAbs_exC (!q1) ?_
      apply Exists.intro
      refine ⟨?_, ?_⟩
      · intro ρ w₁ hρ hC hs
        have e48 := hs 48 (by decide)
        have e46 := hs 46 (by decide)
        have hc := hρ.const
        have hf := hρ.func
        have hg := hρ.glob
        clear hs hρ
        change ρ (.tmp 48) = _ at e48
        change ρ (.tmp 46) = _ at e46
        obtain ⟨hE, ⟨hS1, hS2, hS3, hS4, hS5, hS6, hS7, hS8, hS9, hS10, hS11⟩⟩ := hC
        refine ⟨fun hgd => ⟨Reg.wanted_of (t := 46) rfl rfl (by rw [e46, show (q1) = false from Reg.of_not_true hgd]), ?_⟩, fun hgd => ?_⟩
        · rw [hgd] at e48
          simp only [cond_true] at e48
          clear hf
          go_simp
          exact ⟨Reg.Ext.refl _, rfl⟩
        · exact Reg.unwanted_of (t := 46) rfl rfl (.inl (by rw [e46, show (q1) = true from Reg.of_not_false hgd]; rfl))
      refine Reg.wpAbs_exC (!q1) ?_
      apply Exists.intro
      refine ⟨?_, ?_⟩
      · intro ρ w₁ hρ hC hs
        have e49 := hs 49 (by decide)
        have e46 := hs 46 (by decide)
        have hc := hρ.const
        have hf := hρ.func
        have hg := hρ.glob
        clear hs hρ
        change ρ (.tmp 49) = _ at e49
        change ρ (.tmp 46) = _ at e46
        obtain ⟨hE, ⟨hS1, hS2, hS3, hS4, hS5, hS6, hS7, hS8, hS9, hS10, hS11⟩⟩ := hC
        refine ⟨fun hgd => ⟨Reg.wanted_of (t := 46) rfl rfl (by rw [e46, show (q1) = false from Reg.of_not_true hgd]), ?_⟩, fun hgd => ?_⟩
        · rw [hgd] at e49
          simp only [cond_true] at e49
          clear hf
          go_simp
          exact ⟨Reg.Ext.refl _, rfl⟩
        · exact Reg.unwanted_of (t := 46) rfl rfl (.inl (by rw [e46, show (q1) = true from Reg.of_not_false hgd]; rfl))
      refine Reg.wpAbs_exC (!q1) ?_
      apply Exists.intro
      refine ⟨?_, ?_⟩
      · intro ρ w₁ hρ hC hs
        have e50 := hs 50 (by decide)
        have e46 := hs 46 (by decide)
        have hc := hρ.const
        have hf := hρ.func
        have hg := hρ.glob
        clear hs hρ
        change ρ (.tmp 50) = _ at e50
        change ρ (.tmp 46) = _ at e46
        obtain ⟨hE, ⟨hS1, hS2, hS3, hS4, hS5, hS6, hS7, hS8, hS9, hS10, hS11⟩⟩ := hC
        refine ⟨fun hgd => ⟨Reg.wanted_of (t := 46) rfl rfl (by rw [e46, show (q1) = false from Reg.of_not_true hgd]), ?_⟩, fun hgd => ?_⟩
        · rw [hgd] at e50
          simp only [cond_true] at e50
          clear hf
          go_simp
          exact ⟨Reg.Ext.refl _, rfl⟩
        · exact Reg.unwanted_of (t := 46) rfl rfl (.inl (by rw [e46, show (q1) = true from Reg.of_not_false hgd]; rfl))
      refine Reg.wpAbs_exC (!q1) ?_
      refine ⟨.bool (q2), ?_, ?_⟩
      · intro ρ w₁ hρ hC hs
        have e47 := hs 47 (by decide)
        have e51 := hs 51 (by decide)
        have e46 := hs 46 (by decide)
        have hc := hρ.const
        have hf := hρ.func
        have hg := hρ.glob
        clear hs hρ
        change ρ (.tmp 47) = _ at e47
        change ρ (.tmp 51) = _ at e51
        change ρ (.tmp 46) = _ at e46
        obtain ⟨hE, ⟨hS1, hS2, hS3, hS4, hS5, hS6, hS7, hS8, hS9, hS10, hS11⟩⟩ := hC
        refine ⟨fun hgd => ⟨Reg.wanted_of (t := 46) rfl rfl (by rw [e46, show (q1) = false from Reg.of_not_true hgd]), ?_⟩, fun hgd => ?_⟩
        · rw [hgd] at e47
          simp only [cond_true] at e47
          rw [hgd] at e51
          simp only [cond_true] at e51
          rw [Reg.execOp_callR hf]
          clear hf
          go_simp
          refine ⟨Reg.Ext.refl _, ?_⟩
          with_reducible exact (by have := node_any hS11 l.a; rw [G2.out] at this; exact this)
        · exact Reg.unwanted_of (t := 46) rfl rfl (.inl (by rw [e46, show (q1) = true from Reg.of_not_false hgd]; rfl))
      refine Reg.wpAbs_exC (!q1) ?_
      refine ⟨.bool (!q2), ?_, ?_⟩
      · intro ρ w₁ hρ hC hs
        have e52 := hs 52 (by decide)
        have e46 := hs 46 (by decide)
        have hc := hρ.const
        have hf := hρ.func
        have hg := hρ.glob
        clear hs hρ
        change ρ (.tmp 52) = _ at e52
        change ρ (.tmp 46) = _ at e46
        obtain ⟨hE, ⟨hS1, hS2, hS3, hS4, hS5, hS6, hS7, hS8, hS9, hS10, hS11⟩⟩ := hC
        refine ⟨fun hgd => ⟨Reg.wanted_of (t := 46) rfl rfl (by rw [e46, show (q1) = false from Reg.of_not_true hgd]), ?_⟩, fun hgd => ?_⟩
        · rw [hgd] at e52
          simp only [cond_true] at e52
          clear hf
          go_simp
          exact ⟨Reg.Ext.refl _, rfl⟩
        · exact Reg.unwanted_of (t := 46) rfl rfl (.inl (by rw [e46, show (q1) = true from Reg.of_not_false hgd]; rfl))
      refine Reg.wpAbs_fix (.bool (q1 || (!q2))) ?_ ?_
      · intro ρ w₁ hρ hC hs
        have e46 := hs 46 (by decide)
        have e53 := hs 53 (by decide)
        have hc := hρ.const
        have hf := hρ.func
        have hg := hρ.glob
        clear hs hρ
        change ρ (.tmp 46) = _ at e46
        change ρ (.tmp 53) = _ at e53
        obtain ⟨hE, ⟨hS1, hS2, hS3, hS4, hS5, hS6, hS7, hS8, hS9, hS10, hS11⟩⟩ := hC
        refine Reg.step_plain rfl ?_
        rcases Bool.eq_false_or_eq_true (q1) with hb | hb
        · rw [hb] at e46
          clear e53
          clear hf
          go_simp
          exact ⟨Reg.Ext.refl _, by first | rfl | simp | simp [hb]⟩
        · rw [hb] at e46
          rw [show (!q1) = true by simp [hb]] at e53
          simp only [cond_true] at e53
          clear hf
          go_simp
          exact ⟨Reg.Ext.refl _, by first | rfl | simp | simp [hb]⟩
      refine Reg.wpAbs_fix (.bool (q1 || (!q2))) ?_ ?_
      · intro ρ w₁ hρ hC hs
        have e54 := hs 54 (by decide)
        have hc := hρ.const
        have hf := hρ.func
        have hg := hρ.glob
        clear hs hρ
        change ρ (.tmp 54) = _ at e54
        obtain ⟨hE, ⟨hS1, hS2, hS3, hS4, hS5, hS6, hS7, hS8, hS9, hS10, hS11⟩⟩ := hC
        refine Reg.step_plain rfl ?_
        clear hf
        go_simp
        exact ⟨Reg.Ext.refl _, rfl⟩
      refine Reg.wpAbs_exC (!(q1 || (!q2))) ?_
      apply Exists.intro
      refine ⟨?_, ?_⟩
      · intro ρ w₁ hρ hC hs
        have e1 := hs 1 (by decide)
        have e55 := hs 55 (by decide)
        have hc := hρ.const
        have hf := hρ.func
        have hg := hρ.glob
        clear hs hρ
        change ρ (.tmp 1) = _ at e1
        change ρ (.tmp 55) = _ at e55
        obtain ⟨hE, ⟨hS1, hS2, hS3, hS4, hS5, hS6, hS7, hS8, hS9, hS10, hS11⟩⟩ := hC
        refine ⟨fun hgd => ⟨Reg.wanted_of (t := 55) rfl rfl (by rw [e55, show (q1 || (!q2)) = false from Reg.of_not_true hgd]), ?_⟩, fun hgd => ?_⟩
        · clear hf
          go_simp
          exact ⟨Reg.Ext.refl _, rfl⟩
        · exact Reg.unwanted_of (t := 55) rfl rfl (.inl (by rw [e55, show (q1 || (!q2)) = true from Reg.of_not_false hgd]; rfl))
      refine Reg.wpAbs_exC (!(q1 || (!q2))) ?_
      apply Exists.intro
      refine ⟨?_, ?_⟩
      · intro ρ w₁ hρ hC hs
        have e4 := hs 4 (by decide)
        have e55 := hs 55 (by decide)
        have hc := hρ.const
        have hf := hρ.func
        have hg := hρ.glob
        clear hs hρ
        change ρ (.tmp 4) = _ at e4
        change ρ (.tmp 55) = _ at e55
        obtain ⟨hE, ⟨hS1, hS2, hS3, hS4, hS5, hS6, hS7, hS8, hS9, hS10, hS11⟩⟩ := hC
        refine ⟨fun hgd => ⟨Reg.wanted_of (t := 55) rfl rfl (by rw [e55, show (q1 || (!q2)) = false from Reg.of_not_true hgd]), ?_⟩, fun hgd => ?_⟩
        · clear hf
          go_simp
          exact ⟨Reg.Ext.refl _, rfl⟩
        · exact Reg.unwanted_of (t := 55) rfl rfl (.inl (by rw [e55, show (q1 || (!q2)) = true from Reg.of_not_false hgd]; rfl))
      refine Reg.wpAbs_exC (!(q1 || (!q2))) ?_
      apply Exists.intro
      refine ⟨?_, ?_⟩
      · intro ρ w₁ hρ hC hs
        have e57 := hs 57 (by decide)
        have e55 := hs 55 (by decide)
        have hc := hρ.const
        have hf := hρ.func
        have hg := hρ.glob
        clear hs hρ
        change ρ (.tmp 57) = _ at e57
        change ρ (.tmp 55) = _ at e55
        obtain ⟨hE, ⟨hS1, hS2, hS3, hS4, hS5, hS6, hS7, hS8, hS9, hS10, hS11⟩⟩ := hC
        refine ⟨fun hgd => ⟨Reg.wanted_of (t := 55) rfl rfl (by rw [e55, show (q1 || (!q2)) = false from Reg.of_not_true hgd]), ?_⟩, fun hgd => ?_⟩
        · rw [hgd] at e57
          simp only [cond_true] at e57
          clear hf
          go_simp
          exact ⟨Reg.Ext.refl _, rfl⟩
        · exact Reg.unwanted_of (t := 55) rfl rfl (.inl (by rw [e55, show (q1 || (!q2)) = true from Reg.of_not_false hgd]; rfl))
      refine Reg.wpAbs_exC (!(q1 || (!q2))) ?_
      apply Exists.intro
      refine ⟨?_, ?_⟩
      · intro ρ w₁ hρ hC hs
        have e58 := hs 58 (by decide)
        have e55 := hs 55 (by decide)
        have hc := hρ.const
        have hf := hρ.func
        have hg := hρ.glob
        clear hs hρ
        change ρ (.tmp 58) = _ at e58
        change ρ (.tmp 55) = _ at e55
        obtain ⟨hE, ⟨hS1, hS2, hS3, hS4, hS5, hS6, hS7, hS8, hS9, hS10, hS11⟩⟩ := hC
        refine ⟨fun hgd => ⟨Reg.wanted_of (t := 55) rfl rfl (by rw [e55, show (q1 || (!q2)) = false from Reg.of_not_true hgd]), ?_⟩, fun hgd => ?_⟩
        · rw [hgd] at e58
          simp only [cond_true] at e58
          clear hf
          go_simp
          exact ⟨Reg.Ext.refl _, rfl⟩
        · exact Reg.unwanted_of (t := 55) rfl rfl (.inl (by rw [e55, show (q1 || (!q2)) = true from Reg.of_not_false hgd]; rfl))
      refine Reg.wpAbs_exC (!(q1 || (!q2))) ?_
      apply Exists.intro
      refine ⟨?_, ?_⟩
      · intro ρ w₁ hρ hC hs
        have e59 := hs 59 (by decide)
        have e55 := hs 55 (by decide)
        have hc := hρ.const
        have hf := hρ.func
        have hg := hρ.glob
        clear hs hρ
        change ρ (.tmp 59) = _ at e59
        change ρ (.tmp 55) = _ at e55
        obtain ⟨hE, ⟨hS1, hS2, hS3, hS4, hS5, hS6, hS7, hS8, hS9, hS10, hS11⟩⟩ := hC
        refine ⟨fun hgd => ⟨Reg.wanted_of (t := 55) rfl rfl (by rw [e55, show (q1 || (!q2)) = false from Reg.of_not_true hgd]), ?_⟩, fun hgd => ?_⟩
        · rw [hgd] at e59
          simp only [cond_true] at e59
          clear hf
          go_simp
          exact ⟨Reg.Ext.refl _, rfl⟩
        · exact Reg.unwanted_of (t := 55) rfl rfl (.inl (by rw [e55, show (q1 || (!q2)) = true from Reg.of_not_false hgd]; rfl))
      refine Reg.wpAbs_exC (!(q1 || (!q2))) ?_
      refine ⟨.bool (q3), ?_, ?_⟩
      · intro ρ w₁ hρ hC hs
        have e56 := hs 56 (by decide)
        have e60 := hs 60 (by decide)
        have e55 := hs 55 (by decide)
        have hc := hρ.const
        have hf := hρ.func
        have hg := hρ.glob
        clear hs hρ
        change ρ (.tmp 56) = _ at e56
        change ρ (.tmp 60) = _ at e60
        change ρ (.tmp 55) = _ at e55
        obtain ⟨hE, ⟨hS1, hS2, hS3, hS4, hS5, hS6, hS7, hS8, hS9, hS10, hS11⟩⟩ := hC
        refine ⟨fun hgd => ⟨Reg.wanted_of (t := 55) rfl rfl (by rw [e55, show (q1 || (!q2)) = false from Reg.of_not_true hgd]), ?_⟩, fun hgd => ?_⟩
        · rw [hgd] at e56
          simp only [cond_true] at e56
          rw [hgd] at e60
          simp only [cond_true] at e60
          rw [Reg.execOp_callR hf]
          clear hf
          go_simp
          refine ⟨Reg.Ext.refl _, ?_⟩
          with_reducible exact (by have := node_any hS11 l.b; rw [G3.out] at this; exact this)
        · exact Reg.unwanted_of (t := 55) rfl rfl (.inl (by rw [e55, show (q1 || (!q2)) = true from Reg.of_not_false hgd]; rfl))
      refine Reg.wpAbs_exC (!(q1 || (!q2))) ?_
      refine ⟨.bool (!q3), ?_, ?_⟩
      · intro ρ w₁ hρ hC hs
        have e61 := hs 61 (by decide)
        have e55 := hs 55 (by decide)
        have hc := hρ.const
        have hf := hρ.func
        have hg := hρ.glob
        clear hs hρ
        change ρ (.tmp 61) = _ at e61
        change ρ (.tmp 55) = _ at e55
        obtain ⟨hE, ⟨hS1, hS2, hS3, hS4, hS5, hS6, hS7, hS8, hS9, hS10, hS11⟩⟩ := hC
        refine ⟨fun hgd => ⟨Reg.wanted_of (t := 55) rfl rfl (by rw [e55, show (q1 || (!q2)) = false from Reg.of_not_true hgd]), ?_⟩, fun hgd => ?_⟩
        · rw [hgd] at e61
          simp only [cond_true] at e61
          clear hf
          go_simp
          exact ⟨Reg.Ext.refl _, rfl⟩
        · exact Reg.unwanted_of (t := 55) rfl rfl (.inl (by rw [e55, show (q1 || (!q2)) = true from Reg.of_not_false hgd]; rfl))
      refine Reg.wpAbs_fix (.bool ((q1 || (!q2)) || (!q3))) ?_ ?_
      · intro ρ w₁ hρ hC hs
        have e55 := hs 55 (by decide)
        have e62 := hs 62 (by decide)
        have hc := hρ.const
        have hf := hρ.func
        have hg := hρ.glob
        clear hs hρ
        change ρ (.tmp 55) = _ at e55
        change ρ (.tmp 62) = _ at e62
        obtain ⟨hE, ⟨hS1, hS2, hS3, hS4, hS5, hS6, hS7, hS8, hS9, hS10, hS11⟩⟩ := hC
        refine Reg.step_plain rfl ?_
        rcases Bool.eq_false_or_eq_true (q1 || (!q2)) with hb | hb
        · rw [hb] at e55
          clear e62
          clear hf
          go_simp
          exact ⟨Reg.Ext.refl _, by first | rfl | simp | simp [hb]⟩
        · rw [hb] at e55
          rw [show (!(q1 || (!q2))) = true by simp [hb]] at e62
          simp only [cond_true] at e62
          clear hf
          go_simp
          exact ⟨Reg.Ext.refl _, by first | rfl | simp | simp [hb]⟩
      refine Reg.wpAbs_nil ?_
      intro w₁ hE hS
      obtain ⟨hS1, hS2, hS3, hS4, hS5, hS6, hS7, hS8, hS9, hS10, hS11⟩ := hS
      refine Reg.wpFin_fix _ rfl ?_
      refine Reg.wpFin_fix _ rfl ?_
      refine Reg.wpFin_fix _ rfl ?_
      refine Reg.wpFin_fix _ rfl ?_
      refine Reg.wpFin_fix _ rfl ?_
      refine Reg.wpFin_fix _ rfl ?_
      refine Reg.wpFin_fix _ rfl ?_
      refine Reg.wpFin_fix _ rfl ?_
      refine Reg.wpFin_fix _ rfl ?_
      refine Reg.wpFin_fix _ rfl ?_
      refine Reg.wpFin_drop (fun x47 => ?_)
      refine Reg.wpFin_drop (fun x48 => ?_)
      refine Reg.wpFin_drop (fun x49 => ?_)
      refine Reg.wpFin_drop (fun x50 => ?_)
      refine Reg.wpFin_drop (fun x51 => ?_)
      refine Reg.wpFin_drop (fun x52 => ?_)
      refine Reg.wpFin_drop (fun x53 => ?_)
      refine Reg.wpFin_fix _ rfl ?_
      refine Reg.wpFin_fix _ rfl ?_
      refine Reg.wpFin_drop (fun x56 => ?_)
      refine Reg.wpFin_drop (fun x57 => ?_)
      refine Reg.wpFin_drop (fun x58 => ?_)
      refine Reg.wpFin_drop (fun x59 => ?_)
      refine Reg.wpFin_drop (fun x60 => ?_)
      refine Reg.wpFin_drop (fun x61 => ?_)
      refine Reg.wpFin_drop (fun x62 => ?_)
      refine Reg.wpFin_fix _ rfl ?_
      show _
      simp only [Reg.wpFin, List.setIfInBounds_toArray, List.set_cons_succ, List.set_cons_zero]
      have HE2 := Lib.hid hE
      clear hE b0 b1 b2 g0 g1 g2 g3 g4 g5 g6 hT
      rcases Bool.eq_false_or_eq_true ((q1 || !q2) || !q3) with hz | hz
      · rw [hz]
        go_wp2_with fail
        go_ret
        exact ⟨_, rfl, HEw.out.trans HE2.out, val_bool (by rw [HV.out, HF.out (by rw [HOK.out]; revert hz; cases q1 <;> cases q2 <;> cases q3 <;> simp)])⟩
      · rw [hz]
        go_upto_region 11 with fail
        refine Reg.wp_region_seq (fun w => (w.cell? ⟨B0, 0, none⟩ = some (.int .i64 T.nodes)) ∧ (w.cell? ⟨B0, 1, none⟩ = some (.slice ca mo cc)) ∧ (w.cell? ⟨B0, 2, none⟩ = some (.slice (some ⟨b, off, none⟩) m c)) ∧ (w.cell? ⟨b, off + k * 7, none⟩ = some (.int .i64 l.a)) ∧ (w.cell? ⟨b, off + k * 7 + 1, none⟩ = some (.int .i64 l.b)) ∧ (w.cell? ⟨b, off + k * 7 + 2, none⟩ = some (.int .i64 l.c0)) ∧ (w.cell? ⟨b, off + k * 7 + 3, none⟩ = some (.int .i64 l.c1)) ∧ (w.cell? ⟨b, off + k * 7 + 4, none⟩ = some (.int .i64 l.cap)) ∧ (w.cell? ⟨b, off + k * 7 + 5, none⟩ = some (.int .i64 l.delay)) ∧ (w.cell? ⟨b, off + k * 7 + 6, none⟩ = some (.int .i64 l.grp)) ∧ (TopoV w (.agg #[.int .i64 T.nodes, .slice ca mo cc, .slice (some ⟨b, off, none⟩) m c]) T)) [64, 65, 66, 67, 68, 69, 70, 71, 72, 73, 74, 75, 76, 77, 78, 79] (fun w w' hE h => ⟨hE.cell h.1, hE.cell h.2.1, hE.cell h.2.2.1, hE.cell h.2.2.2.1, hE.cell h.2.2.2.2.1, hE.cell h.2.2.2.2.2.1, hE.cell h.2.2.2.2.2.2.1, hE.cell h.2.2.2.2.2.2.2.1, hE.cell h.2.2.2.2.2.2.2.2.1, hE.cell h.2.2.2.2.2.2.2.2.2.1, h.2.2.2.2.2.2.2.2.2.2.mono hE⟩) (⟨by assumption, by assumption, by assumption, by assumption, by assumption, by assumption, by assumption, by assumption, by assumption, by assumption, by assumption⟩) (by kernel_rfl) ?_
        refine Reg.wpAbs_ex ?_
        apply Exists.intro
        refine ⟨?_, ?_⟩
        · intro ρ w₁ hρ hC hs
          have e4 := hs 4 (by decide)
          have hc := hρ.const
          have hf := hρ.func
          have hg := hρ.glob
          clear hs hρ
          change ρ (.tmp 4) = _ at e4
          obtain ⟨hE, ⟨hS1, hS2, hS3, hS4, hS5, hS6, hS7, hS8, hS9, hS10, hS11⟩⟩ := hC
          refine Reg.step_plain rfl ?_
          clear hf
          go_simp
          exact ⟨Reg.Ext.refl _, rfl⟩
        refine Reg.wpAbs_ex ?_
        apply Exists.intro
        refine ⟨?_, ?_⟩
        · intro ρ w₁ hρ hC hs
          have e64 := hs 64 (by decide)
          have hc := hρ.const
          have hf := hρ.func
          have hg := hρ.glob
          clear hs hρ
          change ρ (.tmp 64) = _ at e64
          obtain ⟨hE, ⟨hS1, hS2, hS3, hS4, hS5, hS6, hS7, hS8, hS9, hS10, hS11⟩⟩ := hC
          refine Reg.step_plain rfl ?_
          clear hf
          go_simp
          exact ⟨Reg.Ext.refl _, rfl⟩
        refine Reg.wpAbs_ex ?_
        apply Exists.intro
        refine ⟨?_, ?_⟩
        · intro ρ w₁ hρ hC hs
          have e65 := hs 65 (by decide)
          have hc := hρ.const
          have hf := hρ.func
          have hg := hρ.glob
          clear hs hρ
          change ρ (.tmp 65) = _ at e65
          obtain ⟨hE, ⟨hS1, hS2, hS3, hS4, hS5, hS6, hS7, hS8, hS9, hS10, hS11⟩⟩ := hC
          refine Reg.step_plain rfl ?_
          clear hf
          go_simp
          exact ⟨Reg.Ext.refl _, rfl⟩
        refine Reg.wpAbs_ex ?_
        apply Exists.intro
        refine ⟨?_, ?_⟩
        · intro ρ w₁ hρ hC hs
          have e66 := hs 66 (by decide)
          have hc := hρ.const
          have hf := hρ.func
          have hg := hρ.glob
          clear hs hρ
          change ρ (.tmp 66) = _ at e66
          obtain ⟨hE, ⟨hS1, hS2, hS3, hS4, hS5, hS6, hS7, hS8, hS9, hS10, hS11⟩⟩ := hC
          refine Reg.step_plain rfl ?_
          clear hf
          go_simp
          exact ⟨Reg.Ext.refl _, rfl⟩
        refine Reg.wpAbs_ex ?_
        apply Exists.intro
        refine ⟨?_, ?_⟩
        · intro ρ w₁ hρ hC hs
          have e67 := hs 67 (by decide)
          have hc := hρ.const
          have hf := hρ.func
          have hg := hρ.glob
          clear hs hρ
          change ρ (.tmp 67) = _ at e67
          obtain ⟨hE, ⟨hS1, hS2, hS3, hS4, hS5, hS6, hS7, hS8, hS9, hS10, hS11⟩⟩ := hC
          refine Reg.step_plain rfl ?_
          clear hf
          go_simp
          exact ⟨Reg.Ext.refl _, rfl⟩
        refine Reg.wpAbs_fix (.bool (q4)) ?_ ?_
        · intro ρ w₁ hρ hC hs
          have e68 := hs 68 (by decide)
          have hc := hρ.const
          have hf := hρ.func
          have hg := hρ.glob
          clear hs hρ
          change ρ (.tmp 68) = _ at e68
          obtain ⟨hE, ⟨hS1, hS2, hS3, hS4, hS5, hS6, hS7, hS8, hS9, hS10, hS11⟩⟩ := hC
          refine Reg.step_plain rfl ?_
          rw [Reg.execOp_callR hf]
          clear hf
          go_simp
          refine ⟨Reg.Ext.refl _, ?_⟩
          with_reducible exact (by have := within_any l.c0 1 65535 w₁; rw [G4.out] at this; exact this)
        refine Reg.wpAbs_fix (.bool (!q4)) ?_ ?_
        · intro ρ w₁ hρ hC hs
          have e69 := hs 69 (by decide)
          have hc := hρ.const
          have hf := hρ.func
          have hg := hρ.glob
          clear hs hρ
          change ρ (.tmp 69) = _ at e69
          obtain ⟨hE, ⟨hS1, hS2, hS3, hS4, hS5, hS6, hS7, hS8, hS9, hS10, hS11⟩⟩ := hC
          refine Reg.step_plain rfl ?_
          clear hf
          go_simp
          exact ⟨Reg.Ext.refl _, rfl⟩
        refine Reg.wpAbs_fix (.bool (!q4)) ?_ ?_
        · intro ρ w₁ hρ hC hs
          have e70 := hs 70 (by decide)
          have hc := hρ.const
          have hf := hρ.func
          have hg := hρ.glob
          clear hs hρ
          change ρ (.tmp 70) = _ at e70
          obtain ⟨hE, ⟨hS1, hS2, hS3, hS4, hS5, hS6, hS7, hS8, hS9, hS10, hS11⟩⟩ := hC
          refine Reg.step_plain rfl ?_
          clear hf
          go_simp
          exact ⟨Reg.Ext.refl _, rfl⟩
        refine Reg.wpAbs_exC (!(!q4)) ?_
        apply Exists.intro
        refine ⟨?_, ?_⟩
        · intro ρ w₁ hρ hC hs
          have e4 := hs 4 (by decide)
          have e71 := hs 71 (by decide)
          have hc := hρ.const
          have hf := hρ.func
          have hg := hρ.glob
          clear hs hρ
          change ρ (.tmp 4) = _ at e4
          change ρ (.tmp 71) = _ at e71
          obtain ⟨hE, ⟨hS1, hS2, hS3, hS4, hS5, hS6, hS7, hS8, hS9, hS10, hS11⟩⟩ := hC
          refine ⟨fun hgd => ⟨Reg.wanted_of (t := 71) rfl rfl (by rw [e71, show (!q4) = false from Reg.of_not_true hgd]), ?_⟩, fun hgd => ?_⟩
          · clear hf
            go_simp
            exact ⟨Reg.Ext.refl _, rfl⟩
          · exact Reg.unwanted_of (t := 71) rfl rfl (.inl (by rw [e71, show (!q4) = true from Reg.of_not_false hgd]; rfl))
        refine Reg.wpAbs_exC (!(!q4)) ?_
        apply Exists.intro
        refine ⟨?_, ?_⟩
        · intro ρ w₁ hρ hC hs
          have e72 := hs 72 (by decide)
          have e71 := hs 71 (by decide)
          have hc := hρ.const
          have hf := hρ.func
          have hg := hρ.glob
          clear hs hρ
          change ρ (.tmp 72) = _ at e72
          change ρ (.tmp 71) = _ at e71
          obtain ⟨hE, ⟨hS1, hS2, hS3, hS4, hS5, hS6, hS7, hS8, hS9, hS10, hS11⟩⟩ := hC
          refine ⟨fun hgd => ⟨Reg.wanted_of (t := 71) rfl rfl (by rw [e71, show (!q4) = false from Reg.of_not_true hgd]), ?_⟩, fun hgd => ?_⟩
          · rw [hgd] at e72
            simp only [cond_true] at e72
            clear hf
            go_simp
            exact ⟨Reg.Ext.refl _, rfl⟩
          · exact Reg.unwanted_of (t := 71) rfl rfl (.inl (by rw [e71, show (!q4) = true from Reg.of_not_false hgd]; rfl))
        refine Reg.wpAbs_exC (!(!q4)) ?_
        apply Exists.intro
        refine ⟨?_, ?_⟩
        · intro ρ w₁ hρ hC hs
          have e73 := hs 73 (by decide)
          have e71 := hs 71 (by decide)
          have hc := hρ.const
          have hf := hρ.func
          have hg := hρ.glob
          clear hs hρ
          change ρ (.tmp 73) = _ at e73
          change ρ (.tmp 71) = _ at e71
          obtain ⟨hE, ⟨hS1, hS2, hS3, hS4, hS5, hS6, hS7, hS8, hS9, hS10, hS11⟩⟩ := hC
          refine ⟨fun hgd => ⟨Reg.wanted_of (t := 71) rfl rfl (by rw [e71, show (!q4) = false from Reg.of_not_true hgd]), ?_⟩, fun hgd => ?_⟩
          · rw [hgd] at e73
            simp only [cond_true] at e73
            clear hf
            go_simp
            exact ⟨Reg.Ext.refl _, rfl⟩
          · exact Reg.unwanted_of (t := 71) rfl rfl (.inl (by rw [e71, show (!q4) = true from Reg.of_not_false hgd]; rfl))
        refine Reg.wpAbs_exC (!(!q4)) ?_
        apply Exists.intro
        refine ⟨?_, ?_⟩
        · intro ρ w₁ hρ hC hs
          have e74 := hs 74 (by decide)
          have e71 := hs 71 (by decide)
          have hc := hρ.const
          have hf := hρ.func
          have hg := hρ.glob
          clear hs hρ
          change ρ (.tmp 74) = _ at e74
          change ρ (.tmp 71) = _ at e71
          obtain ⟨hE, ⟨hS1, hS2, hS3, hS4, hS5, hS6, hS7, hS8, hS9, hS10, hS11⟩⟩ := hC
          refine ⟨fun hgd => ⟨Reg.wanted_of (t := 71) rfl rfl (by rw [e71, show (!q4) = false from Reg.of_not_true hgd]), ?_⟩, fun hgd => ?_⟩
          · rw [hgd] at e74
            simp only [cond_true] at e74
            clear hf
            go_simp
            exact ⟨Reg.Ext.refl _, rfl⟩
          · exact Reg.unwanted_of (t := 71) rfl rfl (.inl (by rw [e71, show (!q4) = true from Reg.of_not_false hgd]; rfl))
        refine Reg.wpAbs_exC (!(!q4)) ?_
        apply Exists.intro
        refine ⟨?_, ?_⟩
        · intro ρ w₁ hρ hC hs
          have e75 := hs 75 (by decide)
          have e71 := hs 71 (by decide)
          have hc := hρ.const
          have hf := hρ.func
          have hg := hρ.glob
          clear hs hρ
          change ρ (.tmp 75) = _ at e75
          change ρ (.tmp 71) = _ at e71
          obtain ⟨hE, ⟨hS1, hS2, hS3, hS4, hS5, hS6, hS7, hS8, hS9, hS10, hS11⟩⟩ := hC
          refine ⟨fun hgd => ⟨Reg.wanted_of (t := 71) rfl rfl (by rw [e71, show (!q4) = false from Reg.of_not_true hgd]), ?_⟩, fun hgd => ?_⟩
          · rw [hgd] at e75
            simp only [cond_true] at e75
            clear hf
            go_simp
            exact ⟨Reg.Ext.refl _, rfl⟩
          · exact Reg.unwanted_of (t := 71) rfl rfl (.inl (by rw [e71, show (!q4) = true from Reg.of_not_false hgd]; rfl))
        refine Reg.wpAbs_exC (!(!q4)) ?_
        refine ⟨.bool (q5), ?_, ?_⟩
        · intro ρ w₁ hρ hC hs
          have e76 := hs 76 (by decide)
          have e71 := hs 71 (by decide)
          have hc := hρ.const
          have hf := hρ.func
          have hg := hρ.glob
          clear hs hρ
          change ρ (.tmp 76) = _ at e76
          change ρ (.tmp 71) = _ at e71
          obtain ⟨hE, ⟨hS1, hS2, hS3, hS4, hS5, hS6, hS7, hS8, hS9, hS10, hS11⟩⟩ := hC
          refine ⟨fun hgd => ⟨Reg.wanted_of (t := 71) rfl rfl (by rw [e71, show (!q4) = false from Reg.of_not_true hgd]), ?_⟩, fun hgd => ?_⟩
          · rw [hgd] at e76
            simp only [cond_true] at e76
            rw [Reg.execOp_callR hf]
            clear hf
            go_simp
            refine ⟨Reg.Ext.refl _, ?_⟩
            with_reducible exact (by have := within_any l.c1 1 65535 w₁; rw [G5.out] at this; exact this)
          · exact Reg.unwanted_of (t := 71) rfl rfl (.inl (by rw [e71, show (!q4) = true from Reg.of_not_false hgd]; rfl))
        refine Reg.wpAbs_exC (!(!q4)) ?_
        refine ⟨.bool (!q5), ?_, ?_⟩
        · intro ρ w₁ hρ hC hs
          have e77 := hs 77 (by decide)
          have e71 := hs 71 (by decide)
          have hc := hρ.const
          have hf := hρ.func
          have hg := hρ.glob
          clear hs hρ
          change ρ (.tmp 77) = _ at e77
          change ρ (.tmp 71) = _ at e71
          obtain ⟨hE, ⟨hS1, hS2, hS3, hS4, hS5, hS6, hS7, hS8, hS9, hS10, hS11⟩⟩ := hC
          refine ⟨fun hgd => ⟨Reg.wanted_of (t := 71) rfl rfl (by rw [e71, show (!q4) = false from Reg.of_not_true hgd]), ?_⟩, fun hgd => ?_⟩
          · rw [hgd] at e77
            simp only [cond_true] at e77
            clear hf
            go_simp
            exact ⟨Reg.Ext.refl _, rfl⟩
          · exact Reg.unwanted_of (t := 71) rfl rfl (.inl (by rw [e71, show (!q4) = true from Reg.of_not_false hgd]; rfl))
        refine Reg.wpAbs_fix (.bool ((!q4) || (!q5))) ?_ ?_
        · intro ρ w₁ hρ hC hs
          have e71 := hs 71 (by decide)
          have e78 := hs 78 (by decide)
          have hc := hρ.const
          have hf := hρ.func
          have hg := hρ.glob
          clear hs hρ
          change ρ (.tmp 71) = _ at e71
          change ρ (.tmp 78) = _ at e78
          obtain ⟨hE, ⟨hS1, hS2, hS3, hS4, hS5, hS6, hS7, hS8, hS9, hS10, hS11⟩⟩ := hC
          refine Reg.step_plain rfl ?_
          rcases Bool.eq_false_or_eq_true (!q4) with hb | hb
          · rw [hb] at e71
            clear e78
            clear hf
            go_simp
            exact ⟨Reg.Ext.refl _, by first | rfl | simp | simp [hb]⟩
          · rw [hb] at e71
            rw [show (!(!q4)) = true by simp [hb]] at e78
            simp only [cond_true] at e78
            clear hf
            go_simp
            exact ⟨Reg.Ext.refl _, by first | rfl | simp | simp [hb]⟩
        refine Reg.wpAbs_nil ?_
        intro w₁ hE hS
        obtain ⟨hS1, hS2, hS3, hS4, hS5, hS6, hS7, hS8, hS9, hS10, hS11⟩ := hS
        refine Reg.wpFin_fix _ rfl ?_
        refine Reg.wpFin_fix _ rfl ?_
        refine Reg.wpFin_fix _ rfl ?_
        refine Reg.wpFin_fix _ rfl ?_
        refine Reg.wpFin_fix _ rfl ?_
        refine Reg.wpFin_fix _ rfl ?_
        refine Reg.wpFin_fix _ rfl ?_
        refine Reg.wpFin_fix _ rfl ?_
        refine Reg.wpFin_drop (fun x72 => ?_)
        refine Reg.wpFin_drop (fun x73 => ?_)
        refine Reg.wpFin_drop (fun x74 => ?_)
        refine Reg.wpFin_drop (fun x75 => ?_)
        refine Reg.wpFin_drop (fun x76 => ?_)
        refine Reg.wpFin_drop (fun x77 => ?_)
        refine Reg.wpFin_drop (fun x78 => ?_)
        refine Reg.wpFin_fix _ rfl ?_
        show _
        simp only [Reg.wpFin, List.setIfInBounds_toArray, List.set_cons_succ, List.set_cons_zero]
        have HE3 := Lib.hid hE
        clear hE
        rcases Bool.eq_false_or_eq_true (!q4 || !q5) with hy | hy
        · rw [hy]
          go_wp2_with fail
          go_ret
          exact ⟨_, rfl, HEw.out.trans (HE2.out.trans HE3.out), val_bool (by rw [HV.out, HF.out (by rw [HOK.out]; revert hy; cases q4 <;> cases q5 <;> simp)])⟩
        · rw [hy]
          go_upto_region 13 with fail
          refine Reg.wp_region_seq (fun w => (w.cell? ⟨B0, 0, none⟩ = some (.int .i64 T.nodes)) ∧ (w.cell? ⟨B0, 1, none⟩ = some (.slice ca mo cc)) ∧ (w.cell? ⟨B0, 2, none⟩ = some (.slice (some ⟨b, off, none⟩) m c)) ∧ (w.cell? ⟨b, off + k * 7, none⟩ = some (.int .i64 l.a)) ∧ (w.cell? ⟨b, off + k * 7 + 1, none⟩ = some (.int .i64 l.b)) ∧ (w.cell? ⟨b, off + k * 7 + 2, none⟩ = some (.int .i64 l.c0)) ∧ (w.cell? ⟨b, off + k * 7 + 3, none⟩ = some (.int .i64 l.c1)) ∧ (w.cell? ⟨b, off + k * 7 + 4, none⟩ = some (.int .i64 l.cap)) ∧ (w.cell? ⟨b, off + k * 7 + 5, none⟩ = some (.int .i64 l.delay)) ∧ (w.cell? ⟨b, off + k * 7 + 6, none⟩ = some (.int .i64 l.grp)) ∧ (TopoV w (.agg #[.int .i64 T.nodes, .slice ca mo cc, .slice (some ⟨b, off, none⟩) m c]) T)) [80, 81, 82, 83, 84, 85, 86, 87, 88, 89, 90, 91, 92, 93, 94, 95, 96, 97, 98, 99, 100, 101] (fun w w' hE h => ⟨hE.cell h.1, hE.cell h.2.1, hE.cell h.2.2.1, hE.cell h.2.2.2.1, hE.cell h.2.2.2.2.1, hE.cell h.2.2.2.2.2.1, hE.cell h.2.2.2.2.2.2.1, hE.cell h.2.2.2.2.2.2.2.1, hE.cell h.2.2.2.2.2.2.2.2.1, hE.cell h.2.2.2.2.2.2.2.2.2.1, h.2.2.2.2.2.2.2.2.2.2.mono hE⟩) (⟨by assumption, by assumption, by assumption, by assumption, by assumption, by assumption, by assumption, by assumption, by assumption, by assumption, by assumption⟩) (by kernel_rfl) ?_
          refine Reg.wpAbs_ex ?_
          apply Exists.intro
          refine ⟨?_, ?_⟩
          · intro ρ w₁ hρ hC hs
            have e4 := hs 4 (by decide)
            have hc := hρ.const
            have hf := hρ.func
            have hg := hρ.glob
            clear hs hρ
            change ρ (.tmp 4) = _ at e4
            obtain ⟨hE, ⟨hS1, hS2, hS3, hS4, hS5, hS6, hS7, hS8, hS9, hS10, hS11⟩⟩ := hC
            refine Reg.step_plain rfl ?_
            clear hf
            go_simp
            exact ⟨Reg.Ext.refl _, rfl⟩
          refine Reg.wpAbs_ex ?_
          apply Exists.intro
          refine ⟨?_, ?_⟩
          · intro ρ w₁ hρ hC hs
            have e80 := hs 80 (by decide)
            have hc := hρ.const
            have hf := hρ.func
            have hg := hρ.glob
            clear hs hρ
            change ρ (.tmp 80) = _ at e80
            obtain ⟨hE, ⟨hS1, hS2, hS3, hS4, hS5, hS6, hS7, hS8, hS9, hS10, hS11⟩⟩ := hC
            refine Reg.step_plain rfl ?_
            clear hf
            go_simp
            exact ⟨Reg.Ext.refl _, rfl⟩
          refine Reg.wpAbs_ex ?_
          apply Exists.intro
          refine ⟨?_, ?_⟩
          · intro ρ w₁ hρ hC hs
            have e81 := hs 81 (by decide)
            have hc := hρ.const
            have hf := hρ.func
            have hg := hρ.glob
            clear hs hρ
            change ρ (.tmp 81) = _ at e81
            obtain ⟨hE, ⟨hS1, hS2, hS3, hS4, hS5, hS6, hS7, hS8, hS9, hS10, hS11⟩⟩ := hC
            refine Reg.step_plain rfl ?_
            clear hf
            go_simp
            exact ⟨Reg.Ext.refl _, rfl⟩
          refine Reg.wpAbs_ex ?_
          apply Exists.intro
          refine ⟨?_, ?_⟩
          · intro ρ w₁ hρ hC hs
            have e82 := hs 82 (by decide)
            have hc := hρ.const
            have hf := hρ.func
            have hg := hρ.glob
            clear hs hρ
            change ρ (.tmp 82) = _ at e82
            obtain ⟨hE, ⟨hS1, hS2, hS3, hS4, hS5, hS6, hS7, hS8, hS9, hS10, hS11⟩⟩ := hC
            refine Reg.step_plain rfl ?_
            clear hf
            go_simp
            exact ⟨Reg.Ext.refl _, rfl⟩
          refine Reg.wpAbs_fix (.bool (q6)) ?_ ?_
          · intro ρ w₁ hρ hC hs
            have e83 := hs 83 (by decide)
            have hc := hρ.const
            have hf := hρ.func
            have hg := hρ.glob
            clear hs hρ
            change ρ (.tmp 83) = _ at e83
            obtain ⟨hE, ⟨hS1, hS2, hS3, hS4, hS5, hS6, hS7, hS8, hS9, hS10, hS11⟩⟩ := hC
            refine Reg.step_plain rfl ?_
            rw [Reg.execOp_callR hf]
            clear hf
            go_simp
            refine ⟨Reg.Ext.refl _, ?_⟩
            with_reducible exact (by have := within_any l.cap 0 1048576 w₁; rw [G6.out] at this; exact this)
          refine Reg.wpAbs_fix (.bool (!q6)) ?_ ?_
          · intro ρ w₁ hρ hC hs
            have e84 := hs 84 (by decide)
            have hc := hρ.const
            have hf := hρ.func
            have hg := hρ.glob
            clear hs hρ
            change ρ (.tmp 84) = _ at e84
            obtain ⟨hE, ⟨hS1, hS2, hS3, hS4, hS5, hS6, hS7, hS8, hS9, hS10, hS11⟩⟩ := hC
            refine Reg.step_plain rfl ?_
            clear hf
            go_simp
            exact ⟨Reg.Ext.refl _, rfl⟩
          refine Reg.wpAbs_fix (.bool (!q6)) ?_ ?_
          · intro ρ w₁ hρ hC hs
            have e85 := hs 85 (by decide)
            have hc := hρ.const
            have hf := hρ.func
            have hg := hρ.glob
            clear hs hρ
            change ρ (.tmp 85) = _ at e85
            obtain ⟨hE, ⟨hS1, hS2, hS3, hS4, hS5, hS6, hS7, hS8, hS9, hS10, hS11⟩⟩ := hC
            refine Reg.step_plain rfl ?_
            clear hf
            go_simp
            exact ⟨Reg.Ext.refl _, rfl⟩
          refine Reg.wpAbs_exC (!(!q6)) ?_
          apply Exists.intro
          refine ⟨?_, ?_⟩
          · intro ρ w₁ hρ hC hs
            have e4 := hs 4 (by decide)
            have e86 := hs 86 (by decide)
            have hc := hρ.const
            have hf := hρ.func
            have hg := hρ.glob
            clear hs hρ
            change ρ (.tmp 4) = _ at e4
            change ρ (.tmp 86) = _ at e86
            obtain ⟨hE, ⟨hS1, hS2, hS3, hS4, hS5, hS6, hS7, hS8, hS9, hS10, hS11⟩⟩ := hC
            refine ⟨fun hgd => ⟨Reg.wanted_of (t := 86) rfl rfl (by rw [e86, show (!q6) = false from Reg.of_not_true hgd]), ?_⟩, fun hgd => ?_⟩
            · clear hf
              go_simp
              exact ⟨Reg.Ext.refl _, rfl⟩
            · exact Reg.unwanted_of (t := 86) rfl rfl (.inl (by rw [e86, show (!q6) = true from Reg.of_not_false hgd]; rfl))
          refine Reg.wpAbs_exC (!(!q6)) ?_
          apply Exists.intro
          refine ⟨?_, ?_⟩
          · intro ρ w₁ hρ hC hs
            have e87 := hs 87 (by decide)
            have e86 := hs 86 (by decide)
            have hc := hρ.const
            have hf := hρ.func
            have hg := hρ.glob
            clear hs hρ
            change ρ (.tmp 87) = _ at e87
            change ρ (.tmp 86) = _ at e86
            obtain ⟨hE, ⟨hS1, hS2, hS3, hS4, hS5, hS6, hS7, hS8, hS9, hS10, hS11⟩⟩ := hC
            refine ⟨fun hgd => ⟨Reg.wanted_of (t := 86) rfl rfl (by rw [e86, show (!q6) = false from Reg.of_not_true hgd]), ?_⟩, fun hgd => ?_⟩
            · rw [hgd] at e87
              simp only [cond_true] at e87
              clear hf
              go_simp
              exact ⟨Reg.Ext.refl _, rfl⟩
            · exact Reg.unwanted_of (t := 86) rfl rfl (.inl (by rw [e86, show (!q6) = true from Reg.of_not_false hgd]; rfl))
          refine Reg.wpAbs_exC (!(!q6)) ?_
          apply Exists.intro
          refine ⟨?_, ?_⟩
          · intro ρ w₁ hρ hC hs
            have e88 := hs 88 (by decide)
            have e86 := hs 86 (by decide)
            have hc := hρ.const
            have hf := hρ.func
            have hg := hρ.glob
            clear hs hρ
            change ρ (.tmp 88) = _ at e88
            change ρ (.tmp 86) = _ at e86
            obtain ⟨hE, ⟨hS1, hS2, hS3, hS4, hS5, hS6, hS7, hS8, hS9, hS10, hS11⟩⟩ := hC
            refine ⟨fun hgd => ⟨Reg.wanted_of (t := 86) rfl rfl (by rw [e86, show (!q6) = false from Reg.of_not_true hgd]), ?_⟩, fun hgd => ?_⟩
            · rw [hgd] at e88
              simp only [cond_true] at e88
              clear hf
              go_simp
              exact ⟨Reg.Ext.refl _, rfl⟩
            · exact Reg.unwanted_of (t := 86) rfl rfl (.inl (by rw [e86, show (!q6) = true from Reg.of_not_false hgd]; rfl))
          refine Reg.wpAbs_exC (!(!q6)) ?_
          apply Exists.intro
          refine ⟨?_, ?_⟩
          · intro ρ w₁ hρ hC hs
            have e89 := hs 89 (by decide)
            have e86 := hs 86 (by decide)
            have hc := hρ.const
            have hf := hρ.func
            have hg := hρ.glob
            clear hs hρ
            change ρ (.tmp 89) = _ at e89
            change ρ (.tmp 86) = _ at e86
            obtain ⟨hE, ⟨hS1, hS2, hS3, hS4, hS5, hS6, hS7, hS8, hS9, hS10, hS11⟩⟩ := hC
            refine ⟨fun hgd => ⟨Reg.wanted_of (t := 86) rfl rfl (by rw [e86, show (!q6) = false from Reg.of_not_true hgd]), ?_⟩, fun hgd => ?_⟩
            · rw [hgd] at e89
              simp only [cond_true] at e89
              clear hf
              go_simp
              exact ⟨Reg.Ext.refl _, rfl⟩
            · exact Reg.unwanted_of (t := 86) rfl rfl (.inl (by rw [e86, show (!q6) = true from Reg.of_not_false hgd]; rfl))
          refine Reg.wpAbs_exC (!(!q6)) ?_
          refine ⟨.bool (q7), ?_, ?_⟩
          · intro ρ w₁ hρ hC hs
            have e90 := hs 90 (by decide)
            have e86 := hs 86 (by decide)
            have hc := hρ.const
            have hf := hρ.func
            have hg := hρ.glob
            clear hs hρ
            change ρ (.tmp 90) = _ at e90
            change ρ (.tmp 86) = _ at e86
            obtain ⟨hE, ⟨hS1, hS2, hS3, hS4, hS5, hS6, hS7, hS8, hS9, hS10, hS11⟩⟩ := hC
            refine ⟨fun hgd => ⟨Reg.wanted_of (t := 86) rfl rfl (by rw [e86, show (!q6) = false from Reg.of_not_true hgd]), ?_⟩, fun hgd => ?_⟩
            · rw [hgd] at e90
              simp only [cond_true] at e90
              rw [Reg.execOp_callR hf]
              clear hf
              go_simp
              refine ⟨Reg.Ext.refl _, ?_⟩
              with_reducible exact (by have := within_any l.delay 1 65536 w₁; rw [G7.out] at this; exact this)
            · exact Reg.unwanted_of (t := 86) rfl rfl (.inl (by rw [e86, show (!q6) = true from Reg.of_not_false hgd]; rfl))
          refine Reg.wpAbs_exC (!(!q6)) ?_
          refine ⟨.bool (!q7), ?_, ?_⟩
          · intro ρ w₁ hρ hC hs
            have e91 := hs 91 (by decide)
            have e86 := hs 86 (by decide)
            have hc := hρ.const
            have hf := hρ.func
            have hg := hρ.glob
            clear hs hρ
            change ρ (.tmp 91) = _ at e91
            change ρ (.tmp 86) = _ at e86
            obtain ⟨hE, ⟨hS1, hS2, hS3, hS4, hS5, hS6, hS7, hS8, hS9, hS10, hS11⟩⟩ := hC
            refine ⟨fun hgd => ⟨Reg.wanted_of (t := 86) rfl rfl (by rw [e86, show (!q6) = false from Reg.of_not_true hgd]), ?_⟩, fun hgd => ?_⟩
            · rw [hgd] at e91
              simp only [cond_true] at e91
              clear hf
              go_simp
              exact ⟨Reg.Ext.refl _, rfl⟩
            · exact Reg.unwanted_of (t := 86) rfl rfl (.inl (by rw [e86, show (!q6) = true from Reg.of_not_false hgd]; rfl))
          refine Reg.wpAbs_fix (.bool ((!q6) || (!q7))) ?_ ?_
          · intro ρ w₁ hρ hC hs
            have e86 := hs 86 (by decide)
            have e92 := hs 92 (by decide)
            have hc := hρ.const
            have hf := hρ.func
            have hg := hρ.glob
            clear hs hρ
            change ρ (.tmp 86) = _ at e86
            change ρ (.tmp 92) = _ at e92
            obtain ⟨hE, ⟨hS1, hS2, hS3, hS4, hS5, hS6, hS7, hS8, hS9, hS10, hS11⟩⟩ := hC
            refine Reg.step_plain rfl ?_
            rcases Bool.eq_false_or_eq_true (!q6) with hb | hb
            · rw [hb] at e86
              clear e92
              clear hf
              go_simp
              exact ⟨Reg.Ext.refl _, by first | rfl | simp | simp [hb]⟩
            · rw [hb] at e86
              rw [show (!(!q6)) = true by simp [hb]] at e92
              simp only [cond_true] at e92
              clear hf
              go_simp
              exact ⟨Reg.Ext.refl _, by first | rfl | simp | simp [hb]⟩
          refine Reg.wpAbs_fix (.bool ((!q6) || (!q7))) ?_ ?_
          · intro ρ w₁ hρ hC hs
            have e93 := hs 93 (by decide)
            have hc := hρ.const
            have hf := hρ.func
            have hg := hρ.glob
            clear hs hρ
            change ρ (.tmp 93) = _ at e93
            obtain ⟨hE, ⟨hS1, hS2, hS3, hS4, hS5, hS6, hS7, hS8, hS9, hS10, hS11⟩⟩ := hC
            refine Reg.step_plain rfl ?_
            clear hf
            go_simp
            exact ⟨Reg.Ext.refl _, rfl⟩
          refine Reg.wpAbs_exC (!((!q6) || (!q7))) ?_
          apply Exists.intro
          refine ⟨?_, ?_⟩
          · intro ρ w₁ hρ hC hs
            have e4 := hs 4 (by decide)
            have e94 := hs 94 (by decide)
            have hc := hρ.const
            have hf := hρ.func
            have hg := hρ.glob
            clear hs hρ
            change ρ (.tmp 4) = _ at e4
            change ρ (.tmp 94) = _ at e94
            obtain ⟨hE, ⟨hS1, hS2, hS3, hS4, hS5, hS6, hS7, hS8, hS9, hS10, hS11⟩⟩ := hC
            refine ⟨fun hgd => ⟨Reg.wanted_of (t := 94) rfl rfl (by rw [e94, show ((!q6) || (!q7)) = false from Reg.of_not_true hgd]), ?_⟩, fun hgd => ?_⟩
            · clear hf
              go_simp
              exact ⟨Reg.Ext.refl _, rfl⟩
            · exact Reg.unwanted_of (t := 94) rfl rfl (.inl (by rw [e94, show ((!q6) || (!q7)) = true from Reg.of_not_false hgd]; rfl))
          refine Reg.wpAbs_exC (!((!q6) || (!q7))) ?_
          apply Exists.intro
          refine ⟨?_, ?_⟩
          · intro ρ w₁ hρ hC hs
            have e95 := hs 95 (by decide)
            have e94 := hs 94 (by decide)
            have hc := hρ.const
            have hf := hρ.func
            have hg := hρ.glob
            clear hs hρ
            change ρ (.tmp 95) = _ at e95
            change ρ (.tmp 94) = _ at e94
            obtain ⟨hE, ⟨hS1, hS2, hS3, hS4, hS5, hS6, hS7, hS8, hS9, hS10, hS11⟩⟩ := hC
            refine ⟨fun hgd => ⟨Reg.wanted_of (t := 94) rfl rfl (by rw [e94, show ((!q6) || (!q7)) = false from Reg.of_not_true hgd]), ?_⟩, fun hgd => ?_⟩
            · rw [hgd] at e95
              simp only [cond_true] at e95
              clear hf
              go_simp
              exact ⟨Reg.Ext.refl _, rfl⟩
            · exact Reg.unwanted_of (t := 94) rfl rfl (.inl (by rw [e94, show ((!q6) || (!q7)) = true from Reg.of_not_false hgd]; rfl))
          refine Reg.wpAbs_exC (!((!q6) || (!q7))) ?_
          apply Exists.intro
          refine ⟨?_, ?_⟩
          · intro ρ w₁ hρ hC hs
            have e96 := hs 96 (by decide)
            have e94 := hs 94 (by decide)
            have hc := hρ.const
            have hf := hρ.func
            have hg := hρ.glob
            clear hs hρ
            change ρ (.tmp 96) = _ at e96
            change ρ (.tmp 94) = _ at e94
            obtain ⟨hE, ⟨hS1, hS2, hS3, hS4, hS5, hS6, hS7, hS8, hS9, hS10, hS11⟩⟩ := hC
            refine ⟨fun hgd => ⟨Reg.wanted_of (t := 94) rfl rfl (by rw [e94, show ((!q6) || (!q7)) = false from Reg.of_not_true hgd]), ?_⟩, fun hgd => ?_⟩
            · rw [hgd] at e96
              simp only [cond_true] at e96
              clear hf
              go_simp
              exact ⟨Reg.Ext.refl _, rfl⟩
            · exact Reg.unwanted_of (t := 94) rfl rfl (.inl (by rw [e94, show ((!q6) || (!q7)) = true from Reg.of_not_false hgd]; rfl))
          refine Reg.wpAbs_exC (!((!q6) || (!q7))) ?_
          apply Exists.intro
          refine ⟨?_, ?_⟩
          · intro ρ w₁ hρ hC hs
            have e97 := hs 97 (by decide)
            have e94 := hs 94 (by decide)
            have hc := hρ.const
            have hf := hρ.func
            have hg := hρ.glob
            clear hs hρ
            change ρ (.tmp 97) = _ at e97
            change ρ (.tmp 94) = _ at e94
            obtain ⟨hE, ⟨hS1, hS2, hS3, hS4, hS5, hS6, hS7, hS8, hS9, hS10, hS11⟩⟩ := hC
            refine ⟨fun hgd => ⟨Reg.wanted_of (t := 94) rfl rfl (by rw [e94, show ((!q6) || (!q7)) = false from Reg.of_not_true hgd]), ?_⟩, fun hgd => ?_⟩
            · rw [hgd] at e97
              simp only [cond_true] at e97
              clear hf
              go_simp
              exact ⟨Reg.Ext.refl _, rfl⟩
            · exact Reg.unwanted_of (t := 94) rfl rfl (.inl (by rw [e94, show ((!q6) || (!q7)) = true from Reg.of_not_false hgd]; rfl))
          refine Reg.wpAbs_exC (!((!q6) || (!q7))) ?_
          refine ⟨.bool (q8), ?_, ?_⟩
          · intro ρ w₁ hρ hC hs
            have e98 := hs 98 (by decide)
            have e94 := hs 94 (by decide)
            have hc := hρ.const
            have hf := hρ.func
            have hg := hρ.glob
            clear hs hρ
            change ρ (.tmp 98) = _ at e98
            change ρ (.tmp 94) = _ at e94
            obtain ⟨hE, ⟨hS1, hS2, hS3, hS4, hS5, hS6, hS7, hS8, hS9, hS10, hS11⟩⟩ := hC
            refine ⟨fun hgd => ⟨Reg.wanted_of (t := 94) rfl rfl (by rw [e94, show ((!q6) || (!q7)) = false from Reg.of_not_true hgd]), ?_⟩, fun hgd => ?_⟩
            · rw [hgd] at e98
              simp only [cond_true] at e98
              rw [Reg.execOp_callR hf]
              clear hf
              go_simp
              refine ⟨Reg.Ext.refl _, ?_⟩
              with_reducible exact (by have := within_any l.grp 0 64 w₁; rw [G8.out] at this; exact this)
            · exact Reg.unwanted_of (t := 94) rfl rfl (.inl (by rw [e94, show ((!q6) || (!q7)) = true from Reg.of_not_false hgd]; rfl))
          refine Reg.wpAbs_exC (!((!q6) || (!q7))) ?_
          refine ⟨.bool (!q8), ?_, ?_⟩
          · intro ρ w₁ hρ hC hs
            have e99 := hs 99 (by decide)
            have e94 := hs 94 (by decide)
            have hc := hρ.const
            have hf := hρ.func
            have hg := hρ.glob
            clear hs hρ
            change ρ (.tmp 99) = _ at e99
            change ρ (.tmp 94) = _ at e94
            obtain ⟨hE, ⟨hS1, hS2, hS3, hS4, hS5, hS6, hS7, hS8, hS9, hS10, hS11⟩⟩ := hC
            refine ⟨fun hgd => ⟨Reg.wanted_of (t := 94) rfl rfl (by rw [e94, show ((!q6) || (!q7)) = false from Reg.of_not_true hgd]), ?_⟩, fun hgd => ?_⟩
            · rw [hgd] at e99
              simp only [cond_true] at e99
              clear hf
              go_simp
              exact ⟨Reg.Ext.refl _, rfl⟩
            · exact Reg.unwanted_of (t := 94) rfl rfl (.inl (by rw [e94, show ((!q6) || (!q7)) = true from Reg.of_not_false hgd]; rfl))
          refine Reg.wpAbs_fix (.bool (((!q6) || (!q7)) || (!q8))) ?_ ?_
          · intro ρ w₁ hρ hC hs
            have e94 := hs 94 (by decide)
            have e100 := hs 100 (by decide)
            have hc := hρ.const
            have hf := hρ.func
            have hg := hρ.glob
            clear hs hρ
            change ρ (.tmp 94) = _ at e94
            change ρ (.tmp 100) = _ at e100
            obtain ⟨hE, ⟨hS1, hS2, hS3, hS4, hS5, hS6, hS7, hS8, hS9, hS10, hS11⟩⟩ := hC
            refine Reg.step_plain rfl ?_
            rcases Bool.eq_false_or_eq_true ((!q6) || (!q7)) with hb | hb
            · rw [hb] at e94
              clear e100
              clear hf
              go_simp
              exact ⟨Reg.Ext.refl _, by first | rfl | simp | simp [hb]⟩
            · rw [hb] at e94
              rw [show (!((!q6) || (!q7))) = true by simp [hb]] at e100
              simp only [cond_true] at e100
              clear hf
              go_simp
              exact ⟨Reg.Ext.refl _, by first | rfl | simp | simp [hb]⟩
          refine Reg.wpAbs_nil ?_
          intro w₁ hE hS
          obtain ⟨hS1, hS2, hS3, hS4, hS5, hS6, hS7, hS8, hS9, hS10, hS11⟩ := hS
          refine Reg.wpFin_fix _ rfl ?_
          refine Reg.wpFin_fix _ rfl ?_
          refine Reg.wpFin_fix _ rfl ?_
          refine Reg.wpFin_fix _ rfl ?_
          refine Reg.wpFin_fix _ rfl ?_
          refine Reg.wpFin_fix _ rfl ?_
          refine Reg.wpFin_fix _ rfl ?_
          refine Reg.wpFin_drop (fun x87 => ?_)
          refine Reg.wpFin_drop (fun x88 => ?_)
          refine Reg.wpFin_drop (fun x89 => ?_)
          refine Reg.wpFin_drop (fun x90 => ?_)
          refine Reg.wpFin_drop (fun x91 => ?_)
          refine Reg.wpFin_drop (fun x92 => ?_)
          refine Reg.wpFin_fix _ rfl ?_
          refine Reg.wpFin_fix _ rfl ?_
          refine Reg.wpFin_drop (fun x95 => ?_)
          refine Reg.wpFin_drop (fun x96 => ?_)
          refine Reg.wpFin_drop (fun x97 => ?_)
          refine Reg.wpFin_drop (fun x98 => ?_)
          refine Reg.wpFin_drop (fun x99 => ?_)
          refine Reg.wpFin_drop (fun x100 => ?_)
          refine Reg.wpFin_fix _ rfl ?_
          show _
          simp only [Reg.wpFin, List.setIfInBounds_toArray, List.set_cons_succ, List.set_cons_zero]
          have HE4 := Lib.hid hE
          clear hE
          rcases Bool.eq_false_or_eq_true ((!q6 || !q7) || !q8) with hx | hx
          · rw [hx]
            go_wp2_with fail
            go_ret
            exact ⟨_, rfl, HEw.out.trans (HE2.out.trans (HE3.out.trans HE4.out)), val_bool (by rw [HV.out, HF.out (by rw [HOK.out]; revert hx; cases q6 <;> cases q7 <;> cases q8 <;> simp)])⟩
          · rw [hx]
            go_wp2_with fail
            go_roundw
            case rel => exact ⟨k + 1, by omega, by go_num, HG.out (by rw [HOK.out]; revert hx hy hz; cases q1 <;> cases q2 <;> cases q3 <;> cases q4 <;> cases q5 <;> cases q6 <;> cases q7 <;> cases q8 <;> simp), HE.out.trans (HE2.out.trans (HE3.out.trans HE4.out))⟩
            case measure => simp [intOf]; omega
    · have HT := Lib.hid (show T.links.all (linkOK T) = true by have := HA.out; rw [List.take_of_length_le (by rw [HM.out]; omega)] at this; exact this)
      go_wp2_with fail
      go_ret
      exact ⟨_, rfl, HEw.out, val_bool (by rw [HV.out, HT.out])⟩

set_option maxRecDepth 100000 in
set_option maxHeartbeats 1000000 in
theorem valid_any {T : Topo} {v : Value} {w : World} (h : TopoV w v T) : Calls Tryd.prog 27 #[v] w (Ret (fun x _ => x = .bool (validB T)) w) := by
  have H := Lib.hid h
  obtain ⟨so, sl, rfl, h1, h2⟩ := h
  obtain ⟨oa, oc, rfl, ho1, ho2⟩ := row_slice h1
  obtain ⟨la, lc, rfl, hl1, hl2⟩ := row_slice h2
  by_cases hn : withinB T.nodes 1 64 = true
  · by_cases hm : T.links.length ≤ 256
    · by_cases ho : T.over.length = 0 ∨ (T.over.length : Int) = T.nodes
      · by_cases h0 : 0 < T.links.length
        · obtain ⟨b, off, c, hb, hb1, hb2, hb3⟩ := row_addr h2 h0
          simp only [Value.slice.injEq, true_and] at hb
          obtain ⟨rfl, rfl⟩ := hb
          exact valid_loop hn hm ho h0 H.out hb3
        · have hz : T.links.length = 0 := by omega
          have HV := Lib.hid (show true = validB T by rw [valid_some T hn hm ho, List.length_eq_zero_iff.1 hz]; rfl)
          obtain ⟨p1, hp1⟩ : ∃ p, ((T.over.length : Int) != 0) = p := ⟨_, rfl⟩
          obtain ⟨p2, hp2⟩ : ∃ p, ((T.over.length : Int) != T.nodes) = p := ⟨_, rfl⟩
          have hp : p1 = false ∨ (p1 = true ∧ p2 = false) := by
            cases p1 with
            | false => exact .inl rfl
            | true =>
              right
              rw [bne_iff_ne] at hp1
              rw [← hp2, (by omega : (T.over.length : Int) = T.nodes)]
              simp
          clear h1 h2 ho h0 H
          rw [hz] at hl1 hl2 ⊢
          clear hz hm
          generalize T.over.length = mo at *
          rcases hp with hp | ⟨hp, hp'⟩
          · subst hp
            clear hp2
            go_enter Tryd.func27, Tryd.ntmps27
            go_wp2_with fail
            refine (within_same _ _ _ _).mono ?_
            rintro e w' ⟨rfl, rfl⟩
            go_wp2_with fail
            refine wp_loop_rounds 1 ?_
            rw [rounds_succ]
            go_wp2_with fail
            go_ret
            exact ⟨_, rfl, (Ext.refl _).alloc _, val_bool HV.out⟩
          · subst hp hp'
            go_enter Tryd.func27, Tryd.ntmps27
            go_wp2_with fail
            refine (within_same _ _ _ _).mono ?_
            rintro e w' ⟨rfl, rfl⟩
            go_wp2_with fail
            refine wp_loop_rounds 1 ?_
            rw [rounds_succ]
            go_wp2_with fail
            go_ret
            exact ⟨_, rfl, (Ext.refl _).alloc _, val_bool HV.out⟩
      · have HV := Lib.hid (valid_none T (.inr (.inr ⟨fun e => ho (.inl e), fun e => ho (.inr e)⟩)))
        have hp1 : ((T.over.length : Int) != 0) = true := by rw [bne_iff_ne]; omega
        have hp2 : ((T.over.length : Int) != T.nodes) = true := by rw [bne_iff_ne]; omega
        clear h1 h2 ho H
        generalize T.over.length = mo at *
        generalize T.links.length = m at *
        go_enter Tryd.func27, Tryd.ntmps27
        go_wp2_with fail
        refine (within_same _ _ _ _).mono ?_
        rintro e w' ⟨rfl, rfl⟩
        go_wp2_with fail
        go_ret
        exact ⟨_, rfl, (Ext.refl _).alloc _, val_bool HV.out⟩
    · have HV := Lib.hid (valid_none T (.inr (.inl (by omega))))
      clear h1 h2 H
      generalize T.over.length = mo at *
      generalize T.links.length = m at *
      go_enter Tryd.func27, Tryd.ntmps27
      go_wp2_with fail
      refine (within_same _ _ _ _).mono ?_
      rintro e w' ⟨rfl, rfl⟩
      go_wp2_with fail
      go_ret
      exact ⟨_, rfl, (Ext.refl _).alloc _, val_bool HV.out⟩
  · have hn' : withinB T.nodes 1 64 = false := by simpa using hn
    have HV := Lib.hid (valid_none T (.inl hn'))
    clear h1 h2 H hn
    generalize T.over.length = mo at *
    generalize T.links.length = m at *
    go_enter Tryd.func27, Tryd.ntmps27
    go_wp2_with fail
    refine (within_same _ _ _ _).mono ?_
    rintro e w' ⟨rfl, rfl⟩
    go_wp2_with fail
    go_ret
    exact ⟨_, rfl, (Ext.refl _).alloc _, val_bool HV.out⟩

end Net
end Go.Proofs.YtkaalpdfppbdeaaDoor
