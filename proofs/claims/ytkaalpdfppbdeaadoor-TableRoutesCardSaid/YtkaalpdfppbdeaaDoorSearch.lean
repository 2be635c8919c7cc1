/- The contract of the reference's search for distances. -/
import Derived.Test.YtkaalpdfppbdeaaDoorRef11
import Derived.Test.YtkaalpdfppbdeaaDoorRelax
import Derived.Deep.LoopGhost
namespace Go.Proofs.YtkaalpdfppbdeaaDoor
namespace Net
open Go.ChangeShapes Go.WideShapes Go.ChangeAt Go.RowKit
open Reg Mem

theorem sound_of {T : Topo} (h : validB T = true) : Sound T := by
  have hb := valid_bd h
  have lk : ∀ i, i < T.links.length → (0 ≤ (lnk T.links i).a ∧ (lnk T.links i).a < T.nodes) ∧ (0 ≤ (lnk T.links i).b ∧ (lnk T.links i).b < T.nodes) ∧ (1 ≤ (lnk T.links i).c0 ∧ (lnk T.links i).c0 ≤ 65535) ∧ (1 ≤ (lnk T.links i).c1 ∧ (lnk T.links i).c1 ≤ 65535) := fun i hi => by
    have := valid_link h i hi
    simp only [linkOK, nodeB, withinB, Bool.and_eq_true, decide_eq_true_eq] at this
    obtain ⟨⟨⟨⟨⟨⟨⟨_, h1⟩, h2⟩, h3⟩, h4⟩, _⟩, _⟩, _⟩ := this
    exact ⟨h1, h2, h3, h4⟩
  have fl : ∀ a, a < 2 * T.links.length → flip a < 2 * T.links.length := fun a ha => by unfold flip; split <;> omega
  have tl : ∀ a, a < 2 * T.links.length → 0 ≤ tailN T a ∧ tailN T a < T.nodes := fun a ha => by
    have := lk (a / 2) (by omega)
    unfold tailN; split
    · exact this.1
    · exact this.2.1
  refine ⟨fun a ha => ?_, tl, fun a ha => tl _ (fl a ha), ⟨hb.1, hb.2.1⟩⟩
  have := lk (a / 2) (by omega)
  unfold costN; split
  · exact this.2.2.1
  · exact this.2.2.2

def initTo (N k : Nat) : List Int := List.replicate k (-1) ++ List.replicate (N - k) 0
theorem initTo_succ (N k : Nat) (h : k < N) : (initTo N k).set k (-1) = initTo N (k + 1) := by
  unfold initTo
  rw [List.set_append_right _ _ (by simp)]
  rw [List.length_replicate, Nat.sub_self, show N - k = (N - (k + 1)) + 1 by omega, List.replicate_succ, List.set_cons_zero, List.replicate_succ', List.append_assoc]
  rfl
theorem initTo_all (N n : Nat) : (initTo N N).set n 0 = start N n := by simp [initTo, start]

/-- What the search for distances returns. -/
def DistV (T : Topo) (D : List Bool) (n : Nat) (dir : Bool) (x : Value) (w : World) : Prop := ∃ s, x = .tuple #[s, .int .i64 0] ∧ IntsV w s (distL T D n dir)

theorem Inv.ub {T : Topo} {D : List Bool} {n : Nat} {dir : Bool} {out : List Int} (h : Inv T D n dir out) (x : Nat) (hx : (x : Int) < T.nodes) (hN : T.nodes ≤ 64) : at' out (x : Int) ≤ 4194240 := by
  have h1 := h.bnd x hx
  have h2 := cnt_le out
  have h3 := h.len
  omega
theorem rhead_nat (T : Topo) (k : Nat) (hk : k < 2 * T.links.length) : rhead T (k : Int) = headN T k := by
  unfold rhead; rw [if_pos ⟨by omega, by omega⟩]; rfl
theorem rcost_nat (T : Topo) (k : Nat) (hk : k < 2 * T.links.length) : rcost T (k : Int) = costN T k := by
  unfold rcost; rw [if_pos ⟨by omega, by omega⟩]; rfl

set_option maxRecDepth 100000 in
set_option maxHeartbeats 4000000 in
theorem rsearch_any {T : Topo} {v u : Value} {w : World} {D : List Bool} (h : TopoV w v T) (hv : validB T = true) (hD : Bools w u D) (hf : fitsB T D = true) (n : Nat) (hn : (n : Int) < T.nodes) (dir : Bool) :
    Calls Tryd.prog 54 #[v, u, .int .i64 n, .bool dir] w (Ret (DistV T D n dir) w) := by
  have H := Lib.hid h
  have HV := Lib.hid hv
  have HD := Lib.hid hD
  have HF := Lib.hid hf
  have HT := Lib.hid (sound_of hv)
  have hbd := valid_bd hv
  obtain ⟨N, hN⟩ := Int.eq_ofNat_of_zero_le (by omega : 0 ≤ T.nodes)
  have HN := Lib.hid hN
  have hN64 : N ≤ 64 := by omega
  have hnN : n < N := by omega
  have hm := hbd.2.2.1
  obtain ⟨m, hmm⟩ : ∃ m, T.links.length = m := ⟨_, rfl⟩
  have HM := Lib.hid hmm
  rw [hmm] at hm
  obtain ⟨so, sl, rfl, h1, h2⟩ := h
  obtain ⟨la, lc, rfl, hl1, hl2⟩ := row_slice h2
  rw [hmm] at hl1 hl2 H ⊢
  rw [hN] at H ⊢
  clear h1 h2 hv hD hf hbd hmm hN hn
  go_enter Tryd.func54, Tryd.ntmps54
  go_wp2_with fail
  refine (rfits_any (T := T) (D := D) (H.out.mono ((Ext.refl _).alloc _)) (HD.out.mono ((Ext.refl _).alloc _))).mono ?_
  rintro e w1 ⟨x, rfl, hE, rfl⟩
  rw [HV.out, HF.out]
  have b0 := hE.cell (p := ⟨w.heap.size, 0, none⟩) (v := .int .i64 (N : Int)) (by simp [go_sem])
  have b1 := hE.cell (p := ⟨w.heap.size, 1, none⟩) (v := so) (by simp [go_sem])
  have b2 := hE.cell (p := ⟨w.heap.size, 2, none⟩) (v := .slice la m lc) (by simp [go_sem])
  have HE := Lib.hid (((Ext.refl w).alloc _).trans hE)
  clear hE
  obtain ⟨B0, hB⟩ : ∃ B, w.heap.size = B := ⟨_, rfl⟩
  rw [hB] at b0 b1 b2 ⊢
  clear hB
  obtain ⟨i0, hi, hz0, hz1, hz2⟩ := info_parts info_int
  go_wp2_with (at_make; refine wpList_make_full _ rfl (.tmp 30) (.tmp 30) 29 rfl w1.heap.size 3 i0 (.int .i64 0) 1 Tryd.underlying29 hi hz0 hz1 .i64 .i64 _ _ N rfl rfl rfl rfl (by rw [hz2]; omega) (by unfold maxLen; omega) (Nat.le_refl _) ?_)
  intro w2 hown hg2
  rw [made_ints] at hown
  have HE2 := Lib.hid (ext_of_grown hg2)
  have HO := Lib.hid hown
  clear hown hg2 hi hz0 hz1 hz2
  obtain ⟨g, hgg⟩ : ∃ g, w1.heap.size = g := ⟨_, rfl⟩
  rw [hgg] at HO ⊢
  have HG := Lib.hid hgg
  clear hgg
  have hgw : w1.heap.size ≤ g := by rw [HG.out]; exact Nat.le_refl _
  go_wp2_with fail
  go_loopw [11] (fun i wr => ∃ k : Nat, k ≤ N ∧ i = .int .i64 k ∧ wr.ownsRow g 3 1 (.slice (some ⟨g, 0, none⟩) N N) N (ints (initTo N k)) ∧ Ext w1 wr) (fun i _ => N - (intOf i).toNat)
  case atStart => exact ⟨0, by omega, rfl, by have := HO.out; simpa [initTo] using this, HE2.out⟩
  case round =>
    obtain ⟨k, hk, rfl, hown, hEw⟩ := hrel
    have HO1 := Lib.hid hown
    have HW := Lib.hid hEw
    by_cases hlt : k < N
    · have hc := own_cell hown k hlt
      have hfr := hown.frozenAt k
      clear hown hEw
      go_wp2_with fail
      obtain ⟨a1, a2⟩ := own_set HO1.out k (-1) HW.out hgw
      rw [initTo_succ N k hlt] at a1
      have A1 := Lib.hid a1
      have A2 := Lib.hid a2
      clear a1 a2
      go_roundw
      case rel => exact ⟨k + 1, by omega, by go_num, A1.out, A2.out⟩
      case measure => simp [intOf]; omega
    · obtain rfl : k = N := by omega
      have hc := own_cell hown n hnN
      have hfr := hown.frozenAt n
      clear hown hEw
      go_wp2_with fail
      obtain ⟨a1, a2⟩ := own_set HO1.out n 0 HW.out hgw
      rw [initTo_all] at a1
      have A1 := Lib.hid a1
      have A2 := Lib.hid a2
      have d0 := a2.cell b0
      have d1 := a2.cell b1
      have d2 := a2.cell b2
      clear a1 a2 hc hfr
      obtain ⟨w3, hw3⟩ : ∃ x, wr.setCell ⟨g, n, none⟩ (.int .i64 0) = x := ⟨_, rfl⟩
      rw [hw3] at A1 A2 d0 d1 d2 ⊢
      clear hw3
      have HI := Lib.hid (start_inv (T := T) (D := D) (N := k) (n := n) (dir := dir) HN.out.symm hnN)
      obtain ⟨N, hkN⟩ : ∃ N, k = N := ⟨_, rfl⟩
      subst hkN
      go_loopg [12, 13, 14, 15, 16] (2 * mu (start k n) + 1) (fun gk c _ _ _ _ wr => ∃ (out : List Int) (b : Bool), c = .bool b ∧ wr.ownsRow g 3 1 (.slice (some ⟨g, 0, none⟩) k k) k (ints out) ∧ Ext w1 wr ∧ Inv T D n dir out ∧ (b = false → ∀ a, a < 2 * T.links.length → ¬ Gains T D n dir out a) ∧ gk = 2 * mu out + (if b then 1 else 0))
      case atStart => exact ⟨start k n, true, rfl, A1.out, A2.out, HI.out, fun e => by (cases e), rfl⟩
      case round =>
        obtain ⟨out, b, rfl, hown, hEw, hinv, hno, hgk⟩ := hrel
        have HO2 := Lib.hid hown
        have HW2 := Lib.hid hEw
        have HI2 := Lib.hid hinv
        clear hown hEw hinv
        cases b
        · have HZ := Lib.hid (distL_eq HT.out (inv_dist HI2.out (hno rfl)))
          have HL := Lib.hid (show k = out.length by have := HI2.out.len; have := HN.out; omega)
          clear d0 d1 d2 b0 b1 b2 hno hgk
          go_wp2_with fail
          go_ret2
          exact ⟨_, rfl, HE.out.trans HW2.out, _, rfl, by rw [HZ.out]; exact IntsV.owns HO2.out HL.out⟩
        · have HGk := Lib.hid (show gk = 2 * mu out + 1 from hgk)
          clear hno hgk
          go_wp2_with fail
          go_loopw [12, 13, 14, 15, 16] (fun c i _ _ _ wr => ∃ (j : Nat) (out' : List Int) (b' : Bool), j ≤ 2 * m ∧ i = .int .i64 j ∧ c = .bool b' ∧ wr.ownsRow g 3 1 (.slice (some ⟨g, 0, none⟩) k k) k (ints out') ∧ Ext w1 wr ∧ Inv T D n dir out' ∧ (b' = false → out' = out ∧ ∀ a, a < j → ¬ Gains T D n dir out a) ∧ (b' = true → mu out' < mu out)) (fun _ i _ _ _ _ => 2 * m - (intOf i).toNat)
          case atStart => exact ⟨0, out, false, by omega, rfl, rfl, HO2.out, HW2.out, HI2.out, fun _ => ⟨rfl, fun a ha => absurd ha (by omega)⟩, fun e => by (cases e)⟩
          case round =>
            obtain ⟨j, out', b', hj, rfl, rfl, hown, hEw, hinv, hno, hyes⟩ := hrel
            have HO3 := Lib.hid hown
            have HW3 := Lib.hid hEw
            have HI3 := Lib.hid hinv
            have HNo := Lib.hid hno
            have HYes := Lib.hid hyes
            clear hno hyes hinv d0 d1 d2
            have d0 := hEw.cell b0
            have d1 := hEw.cell b1
            have d2 := hEw.cell b2
            have HL := Lib.hid (show k = out'.length by have := HI3.out.len; have := HN.out; omega)
            clear hEw
            by_cases hlt : j < 2 * m
            · cases dir
              · obtain ⟨tn, htn⟩ := Int.eq_ofNat_of_zero_le (HT.out.tail j (by rw [HM.out]; exact hlt)).1
                obtain ⟨hd, hhd⟩ := Int.eq_ofNat_of_zero_le (HT.out.head j (by rw [HM.out]; exact hlt)).1
                have htN : tn < k := by have := (HT.out.tail j (by rw [HM.out]; exact hlt)).2; rw [htn, HN.out] at this; omega
                have hhN : hd < k := by have := (HT.out.head j (by rw [HM.out]; exact hlt)).2; rw [hhd, HN.out] at this; omega
                have RT := Lib.hid (show rtail T (j : Int) = (tn : Int) by rw [rtail_nat T j (by rw [HM.out]; exact hlt), htn])
                have RH := Lib.hid (show rhead T (j : Int) = (hd : Int) by rw [rhead_nat T j (by rw [HM.out]; exact hlt), hhd])
                have HX := Lib.hid (show arcX T false j = ((tn : Nat) : Int) from htn)
                have HY := Lib.hid (show arcY T false j = ((hd : Nat) : Int) from hhd)
                have hcy := own_cell hown hd (by omega)
                have hcx := own_cell hown tn (by omega)
                have hfr := hown.frozenAt tn
                have AX := Lib.hid (show at' out' (tn : Int) = out'.getD tn 0 by rw [at_eq _ _ (by rw [← HL.out]; omega)]; simp [show tn < out'.length by rw [← HL.out]; omega])
                have AY := Lib.hid (show at' out' (hd : Int) = out'.getD hd 0 by rw [at_eq _ _ (by rw [← HL.out]; omega)]; simp [show hd < out'.length by rw [← HL.out]; omega])
                obtain ⟨ox, hox⟩ : ∃ z, out'.getD tn 0 = z := ⟨_, rfl⟩
                obtain ⟨oy, hoy⟩ : ∃ z, out'.getD hd 0 = z := ⟨_, rfl⟩
                rw [hox] at hcx AX
                rw [hoy] at hcy AY
                have hub := HI3.out.ub hd (by rw [HN.out]; omega) (by rw [HN.out]; omega)
                rw [AY.out] at hub
                have hcb := HT.out.cost j (by rw [HM.out]; exact hlt)
                have RC := Lib.hid (rcost_nat T j (by rw [HM.out]; exact hlt))
                obtain ⟨c, hcc⟩ : ∃ z, costN T j = z := ⟨_, rfl⟩
                rw [hcc] at RC hcb
                have HC := Lib.hid hcc
                obtain ⟨qd, hqd⟩ : ∃ q, (!downN D j) = q := ⟨_, rfl⟩
                obtain ⟨qo, hqo⟩ : ∃ q, decide (oy < 0) = q := ⟨_, rfl⟩
                obtain ⟨qt, hqt⟩ : ∃ q, (decide (hd = n) || !overN T hd) = q := ⟨_, rfl⟩
                have HQd := Lib.hid hqd
                have HQo := Lib.hid hqo
                have HQt := Lib.hid hqt
                have HDL := Lib.hid (show D.length = 0 ∨ j < D.length by have := HF.out; have hh := HM.out; simp only [fitsB, decide_eq_true_eq] at this; omega)
                have hTV := H.out.mono (HE.out.trans HW3.out)
                have hDV := HD.out.mono (HE.out.trans HW3.out)
                clear htn hhd hown hox hoy hcc hqd hqo hqt b0 b1 b2
                go_upto_region 17 with fail
                refine Reg.wp_region_abs (fun w => (w.cell? ⟨B0, 0, none⟩ = some (.int .i64 (k : Int))) ∧ (w.cell? ⟨B0, 1, none⟩ = some so) ∧ (w.cell? ⟨B0, 2, none⟩ = some (.slice la m lc)) ∧ (TopoV w (.agg #[.int .i64 (k : Int), so, .slice la m lc]) T) ∧ (Bools w u D) ∧ (w.cell? ⟨g, hd, none⟩ = some (.int .i64 oy)) ∧ (w.cell? ⟨g, tn, none⟩ = some (.int .i64 ox))) [53, 54, 55, 56, 57, 58, 14, 15] (fun w w' hE h => ⟨hE.cell h.1, hE.cell h.2.1, hE.cell h.2.2.1, h.2.2.2.1.mono hE, h.2.2.2.2.1.mono hE, hE.cell h.2.2.2.2.2.1, hE.cell h.2.2.2.2.2.2⟩) (⟨by assumption, by assumption, by assumption, by assumption, by assumption, by assumption, by assumption⟩) (by kernel_rfl) (by kernel_rfl) (by kernel_rfl) ?_
                refine Reg.wpAbs_ex ?_
                apply Exists.intro
                refine ⟨?_, ?_⟩
                · intro ρ w₁ hρ hC hs
                  have e4 := hs 4 (by decide)
                  have hc := hρ.const
                  have hf := hρ.func
                  have hg := hρ.glob
                  clear hs hρ
                  change ρ (.tmp 4) = _ at e4
                  obtain ⟨hE, ⟨hS1, hS2, hS3, hS4, hS5, hS6, hS7⟩⟩ := hC
                  refine Reg.step_plain rfl ?_
                  clear hf
                  go_simp
                  exact ⟨Reg.Ext.refl _, rfl⟩
                refine Reg.wpAbs_ex ?_
                apply Exists.intro
                refine ⟨?_, ?_⟩
                · intro ρ w₁ hρ hC hs
                  have e13 := hs 13 (by decide)
                  have hc := hρ.const
                  have hf := hρ.func
                  have hg := hρ.glob
                  clear hs hρ
                  change ρ (.tmp 13) = _ at e13
                  obtain ⟨hE, ⟨hS1, hS2, hS3, hS4, hS5, hS6, hS7⟩⟩ := hC
                  refine Reg.step_plain rfl ?_
                  clear hf
                  go_simp
                  exact ⟨Reg.Ext.refl _, rfl⟩
                refine Reg.wpAbs_ex ?_
                apply Exists.intro
                refine ⟨?_, ?_⟩
                · intro ρ w₁ hρ hC hs
                  have e53 := hs 53 (by decide)
                  have e54 := hs 54 (by decide)
                  have hc := hρ.const
                  have hf := hρ.func
                  have hg := hρ.glob
                  clear hs hρ
                  change ρ (.tmp 53) = _ at e53
                  change ρ (.tmp 54) = _ at e54
                  obtain ⟨hE, ⟨hS1, hS2, hS3, hS4, hS5, hS6, hS7⟩⟩ := hC
                  refine Reg.step_plain rfl ?_
                  rw [Reg.execOp_callR hf]
                  clear hf
                  go_simp
                  refine ⟨Reg.Ext.refl _, ?_⟩
                  with_reducible exact (by have := rtail_any hS4 HV.out (j : Int); rw [RT.out] at this; exact this)
                refine Reg.wpAbs_ex ?_
                apply Exists.intro
                refine ⟨?_, ?_⟩
                · intro ρ w₁ hρ hC hs
                  have e4 := hs 4 (by decide)
                  have hc := hρ.const
                  have hf := hρ.func
                  have hg := hρ.glob
                  clear hs hρ
                  change ρ (.tmp 4) = _ at e4
                  obtain ⟨hE, ⟨hS1, hS2, hS3, hS4, hS5, hS6, hS7⟩⟩ := hC
                  refine Reg.step_plain rfl ?_
                  clear hf
                  go_simp
                  exact ⟨Reg.Ext.refl _, rfl⟩
                refine Reg.wpAbs_ex ?_
                apply Exists.intro
                refine ⟨?_, ?_⟩
                · intro ρ w₁ hρ hC hs
                  have e13 := hs 13 (by decide)
                  have hc := hρ.const
                  have hf := hρ.func
                  have hg := hρ.glob
                  clear hs hρ
                  change ρ (.tmp 13) = _ at e13
                  obtain ⟨hE, ⟨hS1, hS2, hS3, hS4, hS5, hS6, hS7⟩⟩ := hC
                  refine Reg.step_plain rfl ?_
                  clear hf
                  go_simp
                  exact ⟨Reg.Ext.refl _, rfl⟩
                refine Reg.wpAbs_ex ?_
                apply Exists.intro
                refine ⟨?_, ?_⟩
                · intro ρ w₁ hρ hC hs
                  have e56 := hs 56 (by decide)
                  have e57 := hs 57 (by decide)
                  have hc := hρ.const
                  have hf := hρ.func
                  have hg := hρ.glob
                  clear hs hρ
                  change ρ (.tmp 56) = _ at e56
                  change ρ (.tmp 57) = _ at e57
                  obtain ⟨hE, ⟨hS1, hS2, hS3, hS4, hS5, hS6, hS7⟩⟩ := hC
                  refine Reg.step_plain rfl ?_
                  rw [Reg.execOp_callR hf]
                  clear hf
                  go_simp
                  refine ⟨Reg.Ext.refl _, ?_⟩
                  with_reducible exact (by have := rhead_any hS4 HV.out (j : Int); rw [RH.out] at this; exact this)
                refine Reg.wpAbs_ex ?_
                apply Exists.intro
                refine ⟨?_, ?_⟩
                · intro ρ w₁ hρ hC hs
                  have e55 := hs 55 (by decide)
                  have hc := hρ.const
                  have hf := hρ.func
                  have hg := hρ.glob
                  clear hs hρ
                  change ρ (.tmp 55) = _ at e55
                  obtain ⟨hE, ⟨hS1, hS2, hS3, hS4, hS5, hS6, hS7⟩⟩ := hC
                  refine Reg.step_plain rfl ?_
                  clear hf
                  go_simp
                  exact ⟨Reg.Ext.refl _, rfl⟩
                refine Reg.wpAbs_ex ?_
                apply Exists.intro
                refine ⟨?_, ?_⟩
                · intro ρ w₁ hρ hC hs
                  have e58 := hs 58 (by decide)
                  have hc := hρ.const
                  have hf := hρ.func
                  have hg := hρ.glob
                  clear hs hρ
                  change ρ (.tmp 58) = _ at e58
                  obtain ⟨hE, ⟨hS1, hS2, hS3, hS4, hS5, hS6, hS7⟩⟩ := hC
                  refine Reg.step_plain rfl ?_
                  clear hf
                  go_simp
                  exact ⟨Reg.Ext.refl _, rfl⟩
                refine Reg.wpAbs_nil ?_
                intro w₁ hE hS
                obtain ⟨hS1, hS2, hS3, hS4, hS5, hS6, hS7⟩ := hS
                refine Reg.wpFin_fix _ rfl ?_
                refine Reg.wpFin_fix _ rfl ?_
                refine Reg.wpFin_fix _ rfl ?_
                refine Reg.wpFin_fix _ rfl ?_
                refine Reg.wpFin_fix _ rfl ?_
                refine Reg.wpFin_fix _ rfl ?_
                refine Reg.wpFin_fix _ rfl ?_
                refine Reg.wpFin_fix _ rfl ?_
                show _
                simp only [Reg.wpFin, List.setIfInBounds_toArray, List.set_cons_succ, List.set_cons_zero]
                have HE5 := Lib.hid (HW3.out.trans hE)
                have HO5 := Lib.hid (ownsRow_ext HO3.out hE)
                clear hE d0 d1 d2 hTV hDV hcy hcx hfr
                go_upto_region 20 with fail
                refine Reg.wp_region_seq (fun w => (w.cell? ⟨B0, 0, none⟩ = some (.int .i64 (k : Int))) ∧ (w.cell? ⟨B0, 1, none⟩ = some so) ∧ (w.cell? ⟨B0, 2, none⟩ = some (.slice la m lc)) ∧ (TopoV w (.agg #[.int .i64 (k : Int), so, .slice la m lc]) T) ∧ (Bools w u D) ∧ (w.cell? ⟨g, hd, none⟩ = some (.int .i64 oy)) ∧ (w.cell? ⟨g, tn, none⟩ = some (.int .i64 ox))) [62, 63, 64, 65, 66, 67, 68, 69, 70, 71, 72, 73, 74, 75, 76, 77, 78, 79] (fun w w' hE h => ⟨hE.cell h.1, hE.cell h.2.1, hE.cell h.2.2.1, h.2.2.2.1.mono hE, h.2.2.2.2.1.mono hE, hE.cell h.2.2.2.2.2.1, hE.cell h.2.2.2.2.2.2⟩) (⟨by assumption, by assumption, by assumption, by assumption, by assumption, by assumption, by assumption⟩) (by kernel_rfl) ?_
                refine Reg.wpAbs_ex ?_
                apply Exists.intro
                refine ⟨?_, ?_⟩
                · intro ρ w₁ hρ hC hs
                  have e1 := hs 1 (by decide)
                  have hc := hρ.const
                  have hf := hρ.func
                  have hg := hρ.glob
                  clear hs hρ
                  change ρ (.tmp 1) = _ at e1
                  obtain ⟨hE, ⟨hS1, hS2, hS3, hS4, hS5, hS6, hS7⟩⟩ := hC
                  refine Reg.step_plain rfl ?_
                  clear hf
                  go_simp
                  exact ⟨Reg.Ext.refl _, rfl⟩
                refine Reg.wpAbs_ex ?_
                apply Exists.intro
                refine ⟨?_, ?_⟩
                · intro ρ w₁ hρ hC hs
                  have e13 := hs 13 (by decide)
                  have hc := hρ.const
                  have hf := hρ.func
                  have hg := hρ.glob
                  clear hs hρ
                  change ρ (.tmp 13) = _ at e13
                  obtain ⟨hE, ⟨hS1, hS2, hS3, hS4, hS5, hS6, hS7⟩⟩ := hC
                  refine Reg.step_plain rfl ?_
                  clear hf
                  go_simp
                  exact ⟨Reg.Ext.refl _, rfl⟩
                refine Reg.wpAbs_fix (.bool (qd)) ?_ ?_
                · intro ρ w₁ hρ hC hs
                  have e62 := hs 62 (by decide)
                  have e63 := hs 63 (by decide)
                  have hc := hρ.const
                  have hf := hρ.func
                  have hg := hρ.glob
                  clear hs hρ
                  change ρ (.tmp 62) = _ at e62
                  change ρ (.tmp 63) = _ at e63
                  obtain ⟨hE, ⟨hS1, hS2, hS3, hS4, hS5, hS6, hS7⟩⟩ := hC
                  refine Reg.step_plain rfl ?_
                  rw [Reg.execOp_callR hf]
                  clear hf
                  go_simp
                  refine ⟨Reg.Ext.refl _, ?_⟩
                  with_reducible exact (by have := rup_any hS5 j HDL.out; rw [HQd.out] at this; exact this)
                refine Reg.wpAbs_fix (.bool (!qd)) ?_ ?_
                · intro ρ w₁ hρ hC hs
                  have e64 := hs 64 (by decide)
                  have hc := hρ.const
                  have hf := hρ.func
                  have hg := hρ.glob
                  clear hs hρ
                  change ρ (.tmp 64) = _ at e64
                  obtain ⟨hE, ⟨hS1, hS2, hS3, hS4, hS5, hS6, hS7⟩⟩ := hC
                  refine Reg.step_plain rfl ?_
                  clear hf
                  go_simp
                  exact ⟨Reg.Ext.refl _, rfl⟩
                refine Reg.wpAbs_fix (.bool (!qd)) ?_ ?_
                · intro ρ w₁ hρ hC hs
                  have e65 := hs 65 (by decide)
                  have hc := hρ.const
                  have hf := hρ.func
                  have hg := hρ.glob
                  clear hs hρ
                  change ρ (.tmp 65) = _ at e65
                  obtain ⟨hE, ⟨hS1, hS2, hS3, hS4, hS5, hS6, hS7⟩⟩ := hC
                  refine Reg.step_plain rfl ?_
                  clear hf
                  go_simp
                  exact ⟨Reg.Ext.refl _, rfl⟩
                refine Reg.wpAbs_exC (!(!qd)) ?_
                apply Exists.intro
                refine ⟨?_, ?_⟩
                · intro ρ w₁ hρ hC hs
                  have e10 := hs 10 (by decide)
                  have e66 := hs 66 (by decide)
                  have hc := hρ.const
                  have hf := hρ.func
                  have hg := hρ.glob
                  clear hs hρ
                  change ρ (.tmp 10) = _ at e10
                  change ρ (.tmp 66) = _ at e66
                  obtain ⟨hE, ⟨hS1, hS2, hS3, hS4, hS5, hS6, hS7⟩⟩ := hC
                  refine ⟨fun hgd => ⟨Reg.wanted_of (t := 66) rfl rfl (by rw [e66, show (!qd) = false from Reg.of_not_true hgd]), ?_⟩, fun hgd => ?_⟩
                  · clear hf
                    go_simp
                    exact ⟨Reg.Ext.refl _, rfl⟩
                  · exact Reg.unwanted_of (t := 66) rfl rfl (.inl (by rw [e66, show (!qd) = true from Reg.of_not_false hgd]; rfl))
                refine Reg.wpAbs_exC (!(!qd)) ?_
                apply Exists.intro
                refine ⟨?_, ?_⟩
                · intro ρ w₁ hρ hC hs
                  have e15 := hs 15 (by decide)
                  have e66 := hs 66 (by decide)
                  have hc := hρ.const
                  have hf := hρ.func
                  have hg := hρ.glob
                  clear hs hρ
                  change ρ (.tmp 15) = _ at e15
                  change ρ (.tmp 66) = _ at e66
                  obtain ⟨hE, ⟨hS1, hS2, hS3, hS4, hS5, hS6, hS7⟩⟩ := hC
                  refine ⟨fun hgd => ⟨Reg.wanted_of (t := 66) rfl rfl (by rw [e66, show (!qd) = false from Reg.of_not_true hgd]), ?_⟩, fun hgd => ?_⟩
                  · clear hf
                    go_simp
                    exact ⟨Reg.Ext.refl _, rfl⟩
                  · exact Reg.unwanted_of (t := 66) rfl rfl (.inl (by rw [e66, show (!qd) = true from Reg.of_not_false hgd]; rfl))
                refine Reg.wpAbs_exC (!(!qd)) ?_
                apply Exists.intro
                refine ⟨?_, ?_⟩
                · intro ρ w₁ hρ hC hs
                  have e67 := hs 67 (by decide)
                  have e68 := hs 68 (by decide)
                  have e66 := hs 66 (by decide)
                  have hc := hρ.const
                  have hf := hρ.func
                  have hg := hρ.glob
                  clear hs hρ
                  change ρ (.tmp 67) = _ at e67
                  change ρ (.tmp 68) = _ at e68
                  change ρ (.tmp 66) = _ at e66
                  obtain ⟨hE, ⟨hS1, hS2, hS3, hS4, hS5, hS6, hS7⟩⟩ := hC
                  refine ⟨fun hgd => ⟨Reg.wanted_of (t := 66) rfl rfl (by rw [e66, show (!qd) = false from Reg.of_not_true hgd]), ?_⟩, fun hgd => ?_⟩
                  · rw [hgd] at e67
                    simp only [cond_true] at e67
                    rw [hgd] at e68
                    simp only [cond_true] at e68
                    clear hf
                    go_simp
                    exact ⟨Reg.Ext.refl _, rfl⟩
                  · exact Reg.unwanted_of (t := 66) rfl rfl (.inl (by rw [e66, show (!qd) = true from Reg.of_not_false hgd]; rfl))
                refine Reg.wpAbs_exC (!(!qd)) ?_
                apply Exists.intro
                refine ⟨?_, ?_⟩
                · intro ρ w₁ hρ hC hs
                  have e69 := hs 69 (by decide)
                  have e66 := hs 66 (by decide)
                  have hc := hρ.const
                  have hf := hρ.func
                  have hg := hρ.glob
                  clear hs hρ
                  change ρ (.tmp 69) = _ at e69
                  change ρ (.tmp 66) = _ at e66
                  obtain ⟨hE, ⟨hS1, hS2, hS3, hS4, hS5, hS6, hS7⟩⟩ := hC
                  refine ⟨fun hgd => ⟨Reg.wanted_of (t := 66) rfl rfl (by rw [e66, show (!qd) = false from Reg.of_not_true hgd]), ?_⟩, fun hgd => ?_⟩
                  · rw [hgd] at e69
                    simp only [cond_true] at e69
                    clear hf
                    go_simp
                    exact ⟨Reg.Ext.refl _, rfl⟩
                  · exact Reg.unwanted_of (t := 66) rfl rfl (.inl (by rw [e66, show (!qd) = true from Reg.of_not_false hgd]; rfl))
                refine Reg.wpAbs_exC (!(!qd)) ?_
                refine ⟨.bool (qo), ?_, ?_⟩
                · intro ρ w₁ hρ hC hs
                  have e70 := hs 70 (by decide)
                  have e66 := hs 66 (by decide)
                  have hc := hρ.const
                  have hf := hρ.func
                  have hg := hρ.glob
                  clear hs hρ
                  change ρ (.tmp 70) = _ at e70
                  change ρ (.tmp 66) = _ at e66
                  obtain ⟨hE, ⟨hS1, hS2, hS3, hS4, hS5, hS6, hS7⟩⟩ := hC
                  refine ⟨fun hgd => ⟨Reg.wanted_of (t := 66) rfl rfl (by rw [e66, show (!qd) = false from Reg.of_not_true hgd]), ?_⟩, fun hgd => ?_⟩
                  · rw [hgd] at e70
                    simp only [cond_true] at e70
                    clear hf
                    go_simp
                    exact ⟨Reg.Ext.refl _, val_bool HQo.out⟩
                  · exact Reg.unwanted_of (t := 66) rfl rfl (.inl (by rw [e66, show (!qd) = true from Reg.of_not_false hgd]; rfl))
                refine Reg.wpAbs_fix (.bool ((!qd) || qo)) ?_ ?_
                · intro ρ w₁ hρ hC hs
                  have e66 := hs 66 (by decide)
                  have e71 := hs 71 (by decide)
                  have hc := hρ.const
                  have hf := hρ.func
                  have hg := hρ.glob
                  clear hs hρ
                  change ρ (.tmp 66) = _ at e66
                  change ρ (.tmp 71) = _ at e71
                  obtain ⟨hE, ⟨hS1, hS2, hS3, hS4, hS5, hS6, hS7⟩⟩ := hC
                  refine Reg.step_plain rfl ?_
                  rcases Bool.eq_false_or_eq_true (!qd) with hb | hb
                  · rw [hb] at e66
                    clear e71
                    clear hf
                    go_simp
                    exact ⟨Reg.Ext.refl _, by first | rfl | simp | simp [hb]⟩
                  · rw [hb] at e66
                    rw [show (!(!qd)) = true by simp [hb]] at e71
                    simp only [cond_true] at e71
                    clear hf
                    go_simp
                    exact ⟨Reg.Ext.refl _, by first | rfl | simp | simp [hb]⟩
                refine Reg.wpAbs_fix (.bool ((!qd) || qo)) ?_ ?_
                · intro ρ w₁ hρ hC hs
                  have e72 := hs 72 (by decide)
                  have hc := hρ.const
                  have hf := hρ.func
                  have hg := hρ.glob
                  clear hs hρ
                  change ρ (.tmp 72) = _ at e72
                  obtain ⟨hE, ⟨hS1, hS2, hS3, hS4, hS5, hS6, hS7⟩⟩ := hC
                  refine Reg.step_plain rfl ?_
                  clear hf
                  go_simp
                  exact ⟨Reg.Ext.refl _, rfl⟩
                refine Reg.wpAbs_exC (!((!qd) || qo)) ?_
                apply Exists.intro
                refine ⟨?_, ?_⟩
                · intro ρ w₁ hρ hC hs
                  have e4 := hs 4 (by decide)
                  have e73 := hs 73 (by decide)
                  have hc := hρ.const
                  have hf := hρ.func
                  have hg := hρ.glob
                  clear hs hρ
                  change ρ (.tmp 4) = _ at e4
                  change ρ (.tmp 73) = _ at e73
                  obtain ⟨hE, ⟨hS1, hS2, hS3, hS4, hS5, hS6, hS7⟩⟩ := hC
                  refine ⟨fun hgd => ⟨Reg.wanted_of (t := 73) rfl rfl (by rw [e73, show ((!qd) || qo) = false from Reg.of_not_true hgd]), ?_⟩, fun hgd => ?_⟩
                  · clear hf
                    go_simp
                    exact ⟨Reg.Ext.refl _, rfl⟩
                  · exact Reg.unwanted_of (t := 73) rfl rfl (.inl (by rw [e73, show ((!qd) || qo) = true from Reg.of_not_false hgd]; rfl))
                refine Reg.wpAbs_exC (!((!qd) || qo)) ?_
                apply Exists.intro
                refine ⟨?_, ?_⟩
                · intro ρ w₁ hρ hC hs
                  have e15 := hs 15 (by decide)
                  have e73 := hs 73 (by decide)
                  have hc := hρ.const
                  have hf := hρ.func
                  have hg := hρ.glob
                  clear hs hρ
                  change ρ (.tmp 15) = _ at e15
                  change ρ (.tmp 73) = _ at e73
                  obtain ⟨hE, ⟨hS1, hS2, hS3, hS4, hS5, hS6, hS7⟩⟩ := hC
                  refine ⟨fun hgd => ⟨Reg.wanted_of (t := 73) rfl rfl (by rw [e73, show ((!qd) || qo) = false from Reg.of_not_true hgd]), ?_⟩, fun hgd => ?_⟩
                  · clear hf
                    go_simp
                    exact ⟨Reg.Ext.refl _, rfl⟩
                  · exact Reg.unwanted_of (t := 73) rfl rfl (.inl (by rw [e73, show ((!qd) || qo) = true from Reg.of_not_false hgd]; rfl))
                refine Reg.wpAbs_exC (!((!qd) || qo)) ?_
                apply Exists.intro
                refine ⟨?_, ?_⟩
                · intro ρ w₁ hρ hC hs
                  have e2 := hs 2 (by decide)
                  have e73 := hs 73 (by decide)
                  have hc := hρ.const
                  have hf := hρ.func
                  have hg := hρ.glob
                  clear hs hρ
                  change ρ (.tmp 2) = _ at e2
                  change ρ (.tmp 73) = _ at e73
                  obtain ⟨hE, ⟨hS1, hS2, hS3, hS4, hS5, hS6, hS7⟩⟩ := hC
                  refine ⟨fun hgd => ⟨Reg.wanted_of (t := 73) rfl rfl (by rw [e73, show ((!qd) || qo) = false from Reg.of_not_true hgd]), ?_⟩, fun hgd => ?_⟩
                  · clear hf
                    go_simp
                    exact ⟨Reg.Ext.refl _, rfl⟩
                  · exact Reg.unwanted_of (t := 73) rfl rfl (.inl (by rw [e73, show ((!qd) || qo) = true from Reg.of_not_false hgd]; rfl))
                refine Reg.wpAbs_exC (!((!qd) || qo)) ?_
                refine ⟨.bool (qt), ?_, ?_⟩
                · intro ρ w₁ hρ hC hs
                  have e74 := hs 74 (by decide)
                  have e75 := hs 75 (by decide)
                  have e76 := hs 76 (by decide)
                  have e73 := hs 73 (by decide)
                  have hc := hρ.const
                  have hf := hρ.func
                  have hg := hρ.glob
                  clear hs hρ
                  change ρ (.tmp 74) = _ at e74
                  change ρ (.tmp 75) = _ at e75
                  change ρ (.tmp 76) = _ at e76
                  change ρ (.tmp 73) = _ at e73
                  obtain ⟨hE, ⟨hS1, hS2, hS3, hS4, hS5, hS6, hS7⟩⟩ := hC
                  refine ⟨fun hgd => ⟨Reg.wanted_of (t := 73) rfl rfl (by rw [e73, show ((!qd) || qo) = false from Reg.of_not_true hgd]), ?_⟩, fun hgd => ?_⟩
                  · rw [hgd] at e74
                    simp only [cond_true] at e74
                    rw [hgd] at e75
                    simp only [cond_true] at e75
                    rw [hgd] at e76
                    simp only [cond_true] at e76
                    rw [Reg.execOp_callR hf]
                    clear hf
                    go_simp
                    refine ⟨Reg.Ext.refl _, ?_⟩
                    with_reducible exact (by have := rtransit_any hS4 HV.out hd n; rw [HQt.out] at this; exact this)
                  · exact Reg.unwanted_of (t := 73) rfl rfl (.inl (by rw [e73, show ((!qd) || qo) = true from Reg.of_not_false hgd]; rfl))
                refine Reg.wpAbs_exC (!((!qd) || qo)) ?_
                refine ⟨.bool (!qt), ?_, ?_⟩
                · intro ρ w₁ hρ hC hs
                  have e77 := hs 77 (by decide)
                  have e73 := hs 73 (by decide)
                  have hc := hρ.const
                  have hf := hρ.func
                  have hg := hρ.glob
                  clear hs hρ
                  change ρ (.tmp 77) = _ at e77
                  change ρ (.tmp 73) = _ at e73
                  obtain ⟨hE, ⟨hS1, hS2, hS3, hS4, hS5, hS6, hS7⟩⟩ := hC
                  refine ⟨fun hgd => ⟨Reg.wanted_of (t := 73) rfl rfl (by rw [e73, show ((!qd) || qo) = false from Reg.of_not_true hgd]), ?_⟩, fun hgd => ?_⟩
                  · rw [hgd] at e77
                    simp only [cond_true] at e77
                    clear hf
                    go_simp
                    exact ⟨Reg.Ext.refl _, rfl⟩
                  · exact Reg.unwanted_of (t := 73) rfl rfl (.inl (by rw [e73, show ((!qd) || qo) = true from Reg.of_not_false hgd]; rfl))
                refine Reg.wpAbs_fix (.bool (((!qd) || qo) || (!qt))) ?_ ?_
                · intro ρ w₁ hρ hC hs
                  have e73 := hs 73 (by decide)
                  have e78 := hs 78 (by decide)
                  have hc := hρ.const
                  have hf := hρ.func
                  have hg := hρ.glob
                  clear hs hρ
                  change ρ (.tmp 73) = _ at e73
                  change ρ (.tmp 78) = _ at e78
                  obtain ⟨hE, ⟨hS1, hS2, hS3, hS4, hS5, hS6, hS7⟩⟩ := hC
                  refine Reg.step_plain rfl ?_
                  rcases Bool.eq_false_or_eq_true ((!qd) || qo) with hb | hb
                  · rw [hb] at e73
                    clear e78
                    clear hf
                    go_simp
                    exact ⟨Reg.Ext.refl _, by first | rfl | simp | simp [hb]⟩
                  · rw [hb] at e73
                    rw [show (!((!qd) || qo)) = true by simp [hb]] at e78
                    simp only [cond_true] at e78
                    clear hf
                    go_simp
                    exact ⟨Reg.Ext.refl _, by first | rfl | simp | simp [hb]⟩
                refine Reg.wpAbs_nil ?_
                intro w₁ hE hS
                obtain ⟨hS1, hS2, hS3, hS4, hS5, hS6, hS7⟩ := hS
                refine Reg.wpFin_fix _ rfl ?_
                refine Reg.wpFin_fix _ rfl ?_
                refine Reg.wpFin_fix _ rfl ?_
                refine Reg.wpFin_fix _ rfl ?_
                refine Reg.wpFin_fix _ rfl ?_
                refine Reg.wpFin_drop (fun x67 => ?_)
                refine Reg.wpFin_drop (fun x68 => ?_)
                refine Reg.wpFin_drop (fun x69 => ?_)
                refine Reg.wpFin_drop (fun x70 => ?_)
                refine Reg.wpFin_drop (fun x71 => ?_)
                refine Reg.wpFin_fix _ rfl ?_
                refine Reg.wpFin_fix _ rfl ?_
                refine Reg.wpFin_drop (fun x74 => ?_)
                refine Reg.wpFin_drop (fun x75 => ?_)
                refine Reg.wpFin_drop (fun x76 => ?_)
                refine Reg.wpFin_drop (fun x77 => ?_)
                refine Reg.wpFin_drop (fun x78 => ?_)
                refine Reg.wpFin_fix _ rfl ?_
                show _
                simp only [Reg.wpFin, List.setIfInBounds_toArray, List.set_cons_succ, List.set_cons_zero]
                have HE6 := Lib.hid (HE5.out.trans hE)
                have HO6 := Lib.hid (ownsRow_ext HO5.out hE)
                clear hE
                rcases Bool.eq_false_or_eq_true ((!qd || qo) || !qt) with hz | hz
                · rw [hz]
                  have HG := Lib.hid (show ¬ Gains T D n false out' j by
                    rintro ⟨⟨g1, g2, g3⟩, -⟩
                    rw [HY.out] at g2 g3
                    rw [AY.out] at g2
                    have e1 : qd = true := by rw [← HQd.out, g1]; rfl
                    have e2 : qo = false := by rw [← HQo.out]; simp; omega
                    have e3 : qt = true := by
                      rw [← HQt.out]
                      rcases g3 with g3 | g3
                      · simp [show hd = n by omega]
                      · rw [Int.toNat_natCast] at g3; simp [g3]
                    rw [e1, e2, e3] at hz
                    cases hz)
                  go_wp2_with fail
                  go_roundw
                  case rel => exact ⟨j + 1, out', b', by omega, by go_num, rfl, HO6.out, HE6.out, HI3.out, fun e => ⟨(HNo.out e).1, fun a ha => if h : a = j then by rw [h, ← (HNo.out e).1]; exact HG.out else (HNo.out e).2 a (by omega)⟩, HYes.out⟩
                  case measure => simp [intOf]; omega
                · rw [hz]
                  have e1 : qd = true := by revert hz; cases qd <;> simp
                  have e2 : qo = false := by revert hz; cases qo <;> simp
                  have e3 : qt = true := by revert hz; cases qt <;> simp
                  have hoy0 : 0 ≤ oy := by have := HQo.out.trans e2; simp at this; omega
                  have HWay := Lib.hid (show Way T D n false out' j from ⟨by have := HQd.out.trans e1; simpa using this, by rw [HY.out, AY.out]; exact hoy0, by
                    rw [HY.out, Int.toNat_natCast]
                    have := HQt.out.trans e3
                    simp only [Bool.or_eq_true, decide_eq_true_eq, Bool.not_eq_true'] at this
                    rcases this with h | h
                    · exact .inl (by rw [h])
                    · exact .inr h⟩)
                  have HWr := Lib.hid (IntWalk.i64_in (oy + c) (by omega))
                  obtain ⟨q1, hq1⟩ : ∃ q, decide (ox < 0) = q := ⟨_, rfl⟩
                  obtain ⟨q2, hq2⟩ : ∃ q, decide (oy + c < ox) = q := ⟨_, rfl⟩
                  have HQ1 := Lib.hid hq1
                  have HQ2 := Lib.hid hq2
                  clear hz e1 e2 e3 hq1 hq2
                  go_upto_region 21 with fail
                  have hwr := HWr.out
                  refine Reg.wp_region_abs (fun w => (w.cell? ⟨B0, 0, none⟩ = some (.int .i64 (k : Int))) ∧ (w.cell? ⟨B0, 1, none⟩ = some so) ∧ (w.cell? ⟨B0, 2, none⟩ = some (.slice la m lc)) ∧ (TopoV w (.agg #[.int .i64 (k : Int), so, .slice la m lc]) T) ∧ (Bools w u D) ∧ (w.cell? ⟨g, hd, none⟩ = some (.int .i64 oy)) ∧ (w.cell? ⟨g, tn, none⟩ = some (.int .i64 ox))) [80, 81, 82, 83, 84, 85, 86, 87, 16] (fun w w' hE h => ⟨hE.cell h.1, hE.cell h.2.1, hE.cell h.2.2.1, h.2.2.2.1.mono hE, h.2.2.2.2.1.mono hE, hE.cell h.2.2.2.2.2.1, hE.cell h.2.2.2.2.2.2⟩) (⟨by assumption, by assumption, by assumption, by assumption, by assumption, by assumption, by assumption⟩) (by kernel_rfl) (by kernel_rfl) (by kernel_rfl) ?_
                  refine Reg.wpAbs_ex ?_
                  apply Exists.intro
                  refine ⟨?_, ?_⟩
                  · intro ρ w₁ hρ hC hs
                    have e10 := hs 10 (by decide)
                    have hc := hρ.const
                    have hf := hρ.func
                    have hg := hρ.glob
                    clear hs hρ
                    change ρ (.tmp 10) = _ at e10
                    obtain ⟨hE, ⟨hS1, hS2, hS3, hS4, hS5, hS6, hS7⟩⟩ := hC
                    refine Reg.step_plain rfl ?_
                    clear hf
                    go_simp
                    exact ⟨Reg.Ext.refl _, rfl⟩
                  refine Reg.wpAbs_ex ?_
                  apply Exists.intro
                  refine ⟨?_, ?_⟩
                  · intro ρ w₁ hρ hC hs
                    have e15 := hs 15 (by decide)
                    have hc := hρ.const
                    have hf := hρ.func
                    have hg := hρ.glob
                    clear hs hρ
                    change ρ (.tmp 15) = _ at e15
                    obtain ⟨hE, ⟨hS1, hS2, hS3, hS4, hS5, hS6, hS7⟩⟩ := hC
                    refine Reg.step_plain rfl ?_
                    clear hf
                    go_simp
                    exact ⟨Reg.Ext.refl _, rfl⟩
                  refine Reg.wpAbs_ex ?_
                  apply Exists.intro
                  refine ⟨?_, ?_⟩
                  · intro ρ w₁ hρ hC hs
                    have e80 := hs 80 (by decide)
                    have e81 := hs 81 (by decide)
                    have hc := hρ.const
                    have hf := hρ.func
                    have hg := hρ.glob
                    clear hs hρ
                    change ρ (.tmp 80) = _ at e80
                    change ρ (.tmp 81) = _ at e81
                    obtain ⟨hE, ⟨hS1, hS2, hS3, hS4, hS5, hS6, hS7⟩⟩ := hC
                    refine Reg.step_plain rfl ?_
                    clear hf
                    go_simp
                    exact ⟨Reg.Ext.refl _, rfl⟩
                  refine Reg.wpAbs_ex ?_
                  apply Exists.intro
                  refine ⟨?_, ?_⟩
                  · intro ρ w₁ hρ hC hs
                    have e82 := hs 82 (by decide)
                    have hc := hρ.const
                    have hf := hρ.func
                    have hg := hρ.glob
                    clear hs hρ
                    change ρ (.tmp 82) = _ at e82
                    obtain ⟨hE, ⟨hS1, hS2, hS3, hS4, hS5, hS6, hS7⟩⟩ := hC
                    refine Reg.step_plain rfl ?_
                    clear hf
                    go_simp
                    exact ⟨Reg.Ext.refl _, rfl⟩
                  refine Reg.wpAbs_ex ?_
                  apply Exists.intro
                  refine ⟨?_, ?_⟩
                  · intro ρ w₁ hρ hC hs
                    have e4 := hs 4 (by decide)
                    have hc := hρ.const
                    have hf := hρ.func
                    have hg := hρ.glob
                    clear hs hρ
                    change ρ (.tmp 4) = _ at e4
                    obtain ⟨hE, ⟨hS1, hS2, hS3, hS4, hS5, hS6, hS7⟩⟩ := hC
                    refine Reg.step_plain rfl ?_
                    clear hf
                    go_simp
                    exact ⟨Reg.Ext.refl _, rfl⟩
                  refine Reg.wpAbs_ex ?_
                  apply Exists.intro
                  refine ⟨?_, ?_⟩
                  · intro ρ w₁ hρ hC hs
                    have e13 := hs 13 (by decide)
                    have hc := hρ.const
                    have hf := hρ.func
                    have hg := hρ.glob
                    clear hs hρ
                    change ρ (.tmp 13) = _ at e13
                    obtain ⟨hE, ⟨hS1, hS2, hS3, hS4, hS5, hS6, hS7⟩⟩ := hC
                    refine Reg.step_plain rfl ?_
                    clear hf
                    go_simp
                    exact ⟨Reg.Ext.refl _, rfl⟩
                  refine Reg.wpAbs_ex ?_
                  apply Exists.intro
                  refine ⟨?_, ?_⟩
                  · intro ρ w₁ hρ hC hs
                    have e84 := hs 84 (by decide)
                    have e85 := hs 85 (by decide)
                    have hc := hρ.const
                    have hf := hρ.func
                    have hg := hρ.glob
                    clear hs hρ
                    change ρ (.tmp 84) = _ at e84
                    change ρ (.tmp 85) = _ at e85
                    obtain ⟨hE, ⟨hS1, hS2, hS3, hS4, hS5, hS6, hS7⟩⟩ := hC
                    refine Reg.step_plain rfl ?_
                    rw [Reg.execOp_callR hf]
                    clear hf
                    go_simp
                    refine ⟨Reg.Ext.refl _, ?_⟩
                    with_reducible exact (by have := rcost_any hS4 HV.out (j : Int); rw [RC.out] at this; exact this)
                  refine Reg.wpAbs_ex ?_
                  apply Exists.intro
                  refine ⟨?_, ?_⟩
                  · intro ρ w₁ hρ hC hs
                    have e83 := hs 83 (by decide)
                    have e86 := hs 86 (by decide)
                    have hc := hρ.const
                    have hf := hρ.func
                    have hg := hρ.glob
                    clear hs hρ
                    change ρ (.tmp 83) = _ at e83
                    change ρ (.tmp 86) = _ at e86
                    obtain ⟨hE, ⟨hS1, hS2, hS3, hS4, hS5, hS6, hS7⟩⟩ := hC
                    refine Reg.step_plain rfl ?_
                    clear hf
                    go_simp
                    exact ⟨Reg.Ext.refl _, rfl⟩
                  refine Reg.wpAbs_ex ?_
                  apply Exists.intro
                  refine ⟨?_, ?_⟩
                  · intro ρ w₁ hρ hC hs
                    have e87 := hs 87 (by decide)
                    have hc := hρ.const
                    have hf := hρ.func
                    have hg := hρ.glob
                    clear hs hρ
                    change ρ (.tmp 87) = _ at e87
                    obtain ⟨hE, ⟨hS1, hS2, hS3, hS4, hS5, hS6, hS7⟩⟩ := hC
                    refine Reg.step_plain rfl ?_
                    clear hf
                    go_simp
                    exact ⟨Reg.Ext.refl _, rfl⟩
                  refine Reg.wpAbs_nil ?_
                  intro w₁ hE hS
                  obtain ⟨hS1, hS2, hS3, hS4, hS5, hS6, hS7⟩ := hS
                  refine Reg.wpFin_fix _ rfl ?_
                  refine Reg.wpFin_fix _ rfl ?_
                  refine Reg.wpFin_fix _ rfl ?_
                  refine Reg.wpFin_fix _ rfl ?_
                  refine Reg.wpFin_fix _ rfl ?_
                  refine Reg.wpFin_fix _ rfl ?_
                  refine Reg.wpFin_fix _ rfl ?_
                  refine Reg.wpFin_fix _ rfl ?_
                  refine Reg.wpFin_fix _ rfl ?_
                  show _
                  simp only [Reg.wpFin, List.setIfInBounds_toArray, List.set_cons_succ, List.set_cons_zero]
                  have HE7 := Lib.hid (HE6.out.trans hE)
                  have HO7 := Lib.hid (ownsRow_ext HO6.out hE)
                  clear hE
                  go_upto_region 22 with fail
                  refine Reg.wp_region_seq (fun w => (w.cell? ⟨B0, 0, none⟩ = some (.int .i64 (k : Int))) ∧ (w.cell? ⟨B0, 1, none⟩ = some so) ∧ (w.cell? ⟨B0, 2, none⟩ = some (.slice la m lc)) ∧ (TopoV w (.agg #[.int .i64 (k : Int), so, .slice la m lc]) T) ∧ (Bools w u D) ∧ (w.cell? ⟨g, hd, none⟩ = some (.int .i64 oy)) ∧ (w.cell? ⟨g, tn, none⟩ = some (.int .i64 ox))) [88, 89, 90, 91, 92, 93, 94, 95, 96, 97, 98, 99, 100] (fun w w' hE h => ⟨hE.cell h.1, hE.cell h.2.1, hE.cell h.2.2.1, h.2.2.2.1.mono hE, h.2.2.2.2.1.mono hE, hE.cell h.2.2.2.2.2.1, hE.cell h.2.2.2.2.2.2⟩) (⟨by assumption, by assumption, by assumption, by assumption, by assumption, by assumption, by assumption⟩) (by kernel_rfl) ?_
                  refine Reg.wpAbs_ex ?_
                  apply Exists.intro
                  refine ⟨?_, ?_⟩
                  · intro ρ w₁ hρ hC hs
                    have e10 := hs 10 (by decide)
                    have hc := hρ.const
                    have hf := hρ.func
                    have hg := hρ.glob
                    clear hs hρ
                    change ρ (.tmp 10) = _ at e10
                    obtain ⟨hE, ⟨hS1, hS2, hS3, hS4, hS5, hS6, hS7⟩⟩ := hC
                    refine Reg.step_plain rfl ?_
                    clear hf
                    go_simp
                    exact ⟨Reg.Ext.refl _, rfl⟩
                  refine Reg.wpAbs_ex ?_
                  apply Exists.intro
                  refine ⟨?_, ?_⟩
                  · intro ρ w₁ hρ hC hs
                    have e14 := hs 14 (by decide)
                    have hc := hρ.const
                    have hf := hρ.func
                    have hg := hρ.glob
                    clear hs hρ
                    change ρ (.tmp 14) = _ at e14
                    obtain ⟨hE, ⟨hS1, hS2, hS3, hS4, hS5, hS6, hS7⟩⟩ := hC
                    refine Reg.step_plain rfl ?_
                    clear hf
                    go_simp
                    exact ⟨Reg.Ext.refl _, rfl⟩
                  refine Reg.wpAbs_ex ?_
                  apply Exists.intro
                  refine ⟨?_, ?_⟩
                  · intro ρ w₁ hρ hC hs
                    have e88 := hs 88 (by decide)
                    have e89 := hs 89 (by decide)
                    have hc := hρ.const
                    have hf := hρ.func
                    have hg := hρ.glob
                    clear hs hρ
                    change ρ (.tmp 88) = _ at e88
                    change ρ (.tmp 89) = _ at e89
                    obtain ⟨hE, ⟨hS1, hS2, hS3, hS4, hS5, hS6, hS7⟩⟩ := hC
                    refine Reg.step_plain rfl ?_
                    clear hf
                    go_simp
                    exact ⟨Reg.Ext.refl _, rfl⟩
                  refine Reg.wpAbs_ex ?_
                  apply Exists.intro
                  refine ⟨?_, ?_⟩
                  · intro ρ w₁ hρ hC hs
                    have e90 := hs 90 (by decide)
                    have hc := hρ.const
                    have hf := hρ.func
                    have hg := hρ.glob
                    clear hs hρ
                    change ρ (.tmp 90) = _ at e90
                    obtain ⟨hE, ⟨hS1, hS2, hS3, hS4, hS5, hS6, hS7⟩⟩ := hC
                    refine Reg.step_plain rfl ?_
                    clear hf
                    go_simp
                    exact ⟨Reg.Ext.refl _, rfl⟩
                  refine Reg.wpAbs_fix (.bool (q1)) ?_ ?_
                  · intro ρ w₁ hρ hC hs
                    have e91 := hs 91 (by decide)
                    have hc := hρ.const
                    have hf := hρ.func
                    have hg := hρ.glob
                    clear hs hρ
                    change ρ (.tmp 91) = _ at e91
                    obtain ⟨hE, ⟨hS1, hS2, hS3, hS4, hS5, hS6, hS7⟩⟩ := hC
                    refine Reg.step_plain rfl ?_
                    clear hf
                    go_simp
                    exact ⟨Reg.Ext.refl _, val_bool HQ1.out⟩
                  refine Reg.wpAbs_fix (.bool (q1)) ?_ ?_
                  · intro ρ w₁ hρ hC hs
                    have e92 := hs 92 (by decide)
                    have hc := hρ.const
                    have hf := hρ.func
                    have hg := hρ.glob
                    clear hs hρ
                    change ρ (.tmp 92) = _ at e92
                    obtain ⟨hE, ⟨hS1, hS2, hS3, hS4, hS5, hS6, hS7⟩⟩ := hC
                    refine Reg.step_plain rfl ?_
                    clear hf
                    go_simp
                    exact ⟨Reg.Ext.refl _, rfl⟩
                  refine Reg.wpAbs_exC (!q1) ?_
                  apply Exists.intro
                  refine ⟨?_, ?_⟩
                  · intro ρ w₁ hρ hC hs
                    have e16 := hs 16 (by decide)
                    have e93 := hs 93 (by decide)
                    have hc := hρ.const
                    have hf := hρ.func
                    have hg := hρ.glob
                    clear hs hρ
                    change ρ (.tmp 16) = _ at e16
                    change ρ (.tmp 93) = _ at e93
                    obtain ⟨hE, ⟨hS1, hS2, hS3, hS4, hS5, hS6, hS7⟩⟩ := hC
                    refine ⟨fun hgd => ⟨Reg.wanted_of (t := 93) rfl rfl (by rw [e93, show (q1) = false from Reg.of_not_true hgd]), ?_⟩, fun hgd => ?_⟩
                    · clear hf
                      go_simp
                      exact ⟨Reg.Ext.refl _, rfl⟩
                    · exact Reg.unwanted_of (t := 93) rfl rfl (.inl (by rw [e93, show (q1) = true from Reg.of_not_false hgd]; rfl))
                  refine Reg.wpAbs_exC (!q1) ?_
                  apply Exists.intro
                  refine ⟨?_, ?_⟩
                  · intro ρ w₁ hρ hC hs
                    have e10 := hs 10 (by decide)
                    have e93 := hs 93 (by decide)
                    have hc := hρ.const
                    have hf := hρ.func
                    have hg := hρ.glob
                    clear hs hρ
                    change ρ (.tmp 10) = _ at e10
                    change ρ (.tmp 93) = _ at e93
                    obtain ⟨hE, ⟨hS1, hS2, hS3, hS4, hS5, hS6, hS7⟩⟩ := hC
                    refine ⟨fun hgd => ⟨Reg.wanted_of (t := 93) rfl rfl (by rw [e93, show (q1) = false from Reg.of_not_true hgd]), ?_⟩, fun hgd => ?_⟩
                    · clear hf
                      go_simp
                      exact ⟨Reg.Ext.refl _, rfl⟩
                    · exact Reg.unwanted_of (t := 93) rfl rfl (.inl (by rw [e93, show (q1) = true from Reg.of_not_false hgd]; rfl))
                  refine Reg.wpAbs_exC (!q1) ?_
                  apply Exists.intro
                  refine ⟨?_, ?_⟩
                  · intro ρ w₁ hρ hC hs
                    have e14 := hs 14 (by decide)
                    have e93 := hs 93 (by decide)
                    have hc := hρ.const
                    have hf := hρ.func
                    have hg := hρ.glob
                    clear hs hρ
                    change ρ (.tmp 14) = _ at e14
                    change ρ (.tmp 93) = _ at e93
                    obtain ⟨hE, ⟨hS1, hS2, hS3, hS4, hS5, hS6, hS7⟩⟩ := hC
                    refine ⟨fun hgd => ⟨Reg.wanted_of (t := 93) rfl rfl (by rw [e93, show (q1) = false from Reg.of_not_true hgd]), ?_⟩, fun hgd => ?_⟩
                    · clear hf
                      go_simp
                      exact ⟨Reg.Ext.refl _, rfl⟩
                    · exact Reg.unwanted_of (t := 93) rfl rfl (.inl (by rw [e93, show (q1) = true from Reg.of_not_false hgd]; rfl))
                  refine Reg.wpAbs_exC (!q1) ?_
                  apply Exists.intro
                  refine ⟨?_, ?_⟩
                  · intro ρ w₁ hρ hC hs
                    have e95 := hs 95 (by decide)
                    have e96 := hs 96 (by decide)
                    have e93 := hs 93 (by decide)
                    have hc := hρ.const
                    have hf := hρ.func
                    have hg := hρ.glob
                    clear hs hρ
                    change ρ (.tmp 95) = _ at e95
                    change ρ (.tmp 96) = _ at e96
                    change ρ (.tmp 93) = _ at e93
                    obtain ⟨hE, ⟨hS1, hS2, hS3, hS4, hS5, hS6, hS7⟩⟩ := hC
                    refine ⟨fun hgd => ⟨Reg.wanted_of (t := 93) rfl rfl (by rw [e93, show (q1) = false from Reg.of_not_true hgd]), ?_⟩, fun hgd => ?_⟩
                    · rw [hgd] at e95
                      simp only [cond_true] at e95
                      rw [hgd] at e96
                      simp only [cond_true] at e96
                      clear hf
                      go_simp
                      exact ⟨Reg.Ext.refl _, rfl⟩
                    · exact Reg.unwanted_of (t := 93) rfl rfl (.inl (by rw [e93, show (q1) = true from Reg.of_not_false hgd]; rfl))
                  refine Reg.wpAbs_exC (!q1) ?_
                  apply Exists.intro
                  refine ⟨?_, ?_⟩
                  · intro ρ w₁ hρ hC hs
                    have e97 := hs 97 (by decide)
                    have e93 := hs 93 (by decide)
                    have hc := hρ.const
                    have hf := hρ.func
                    have hg := hρ.glob
                    clear hs hρ
                    change ρ (.tmp 97) = _ at e97
                    change ρ (.tmp 93) = _ at e93
                    obtain ⟨hE, ⟨hS1, hS2, hS3, hS4, hS5, hS6, hS7⟩⟩ := hC
                    refine ⟨fun hgd => ⟨Reg.wanted_of (t := 93) rfl rfl (by rw [e93, show (q1) = false from Reg.of_not_true hgd]), ?_⟩, fun hgd => ?_⟩
                    · rw [hgd] at e97
                      simp only [cond_true] at e97
                      clear hf
                      go_simp
                      exact ⟨Reg.Ext.refl _, rfl⟩
                    · exact Reg.unwanted_of (t := 93) rfl rfl (.inl (by rw [e93, show (q1) = true from Reg.of_not_false hgd]; rfl))
                  refine Reg.wpAbs_exC (!q1) ?_
                  refine ⟨.bool (q2), ?_, ?_⟩
                  · intro ρ w₁ hρ hC hs
                    have e94 := hs 94 (by decide)
                    have e98 := hs 98 (by decide)
                    have e93 := hs 93 (by decide)
                    have hc := hρ.const
                    have hf := hρ.func
                    have hg := hρ.glob
                    clear hs hρ
                    change ρ (.tmp 94) = _ at e94
                    change ρ (.tmp 98) = _ at e98
                    change ρ (.tmp 93) = _ at e93
                    obtain ⟨hE, ⟨hS1, hS2, hS3, hS4, hS5, hS6, hS7⟩⟩ := hC
                    refine ⟨fun hgd => ⟨Reg.wanted_of (t := 93) rfl rfl (by rw [e93, show (q1) = false from Reg.of_not_true hgd]), ?_⟩, fun hgd => ?_⟩
                    · rw [hgd] at e94
                      simp only [cond_true] at e94
                      rw [hgd] at e98
                      simp only [cond_true] at e98
                      clear hf
                      go_simp
                      exact ⟨Reg.Ext.refl _, val_bool HQ2.out⟩
                    · exact Reg.unwanted_of (t := 93) rfl rfl (.inl (by rw [e93, show (q1) = true from Reg.of_not_false hgd]; rfl))
                  refine Reg.wpAbs_fix (.bool (q1 || q2)) ?_ ?_
                  · intro ρ w₁ hρ hC hs
                    have e93 := hs 93 (by decide)
                    have e99 := hs 99 (by decide)
                    have hc := hρ.const
                    have hf := hρ.func
                    have hg := hρ.glob
                    clear hs hρ
                    change ρ (.tmp 93) = _ at e93
                    change ρ (.tmp 99) = _ at e99
                    obtain ⟨hE, ⟨hS1, hS2, hS3, hS4, hS5, hS6, hS7⟩⟩ := hC
                    refine Reg.step_plain rfl ?_
                    rcases Bool.eq_false_or_eq_true (q1) with hb | hb
                    · rw [hb] at e93
                      clear e99
                      clear hf
                      go_simp
                      exact ⟨Reg.Ext.refl _, by first | rfl | simp | simp [hb]⟩
                    · rw [hb] at e93
                      rw [show (!q1) = true by simp [hb]] at e99
                      simp only [cond_true] at e99
                      clear hf
                      go_simp
                      exact ⟨Reg.Ext.refl _, by first | rfl | simp | simp [hb]⟩
                  refine Reg.wpAbs_nil ?_
                  intro w₁ hE hS
                  obtain ⟨hS1, hS2, hS3, hS4, hS5, hS6, hS7⟩ := hS
                  refine Reg.wpFin_fix _ rfl ?_
                  refine Reg.wpFin_fix _ rfl ?_
                  refine Reg.wpFin_fix _ rfl ?_
                  refine Reg.wpFin_fix _ rfl ?_
                  refine Reg.wpFin_fix _ rfl ?_
                  refine Reg.wpFin_fix _ rfl ?_
                  refine Reg.wpFin_drop (fun x94 => ?_)
                  refine Reg.wpFin_drop (fun x95 => ?_)
                  refine Reg.wpFin_drop (fun x96 => ?_)
                  refine Reg.wpFin_drop (fun x97 => ?_)
                  refine Reg.wpFin_drop (fun x98 => ?_)
                  refine Reg.wpFin_drop (fun x99 => ?_)
                  refine Reg.wpFin_fix _ rfl ?_
                  show _
                  simp only [Reg.wpFin, List.setIfInBounds_toArray, List.set_cons_succ, List.set_cons_zero]
                  have HE8 := Lib.hid (HE7.out.trans hE)
                  have HO8 := Lib.hid (ownsRow_ext HO7.out hE)
                  have hfr := HO8.out.frozenAt tn
                  clear hE hwr
                  rcases Bool.eq_false_or_eq_true (q1 || q2) with hz | hz
                  · rw [hz]
                    have HG := Lib.hid (show Gains T D n false out' j from ⟨HWay.out, by
                      rw [HX.out, HY.out, AX.out, AY.out, HC.out]
                      rcases Bool.or_eq_true_iff.1 hz with h | h
                      · exact .inl (by have := HQ1.out.trans h; simpa using this)
                      · exact .inr (by have := HQ2.out.trans h; simpa using this)⟩)
                    have HGI := Lib.hid (gain_inv HT.out HI3.out j (by rw [HM.out]; exact hlt) HG.out)
                    have HGE := Lib.hid (show gain T false out' j = out'.set tn (oy + c) by unfold gain; rw [HX.out, HY.out, AY.out, HC.out, Int.toNat_natCast])
                    clear hz
                    go_wp2_with fail
                    obtain ⟨a1, a2⟩ := own_set HO8.out tn (oy + c) HE8.out hgw
                    rw [← HGE.out] at a1
                    have A3 := Lib.hid a1
                    have A4 := Lib.hid a2
                    clear a1 a2
                    go_roundw
                    case rel => exact ⟨j + 1, gain T false out' j, true, by omega, by go_num, rfl, A3.out, A4.out, HGI.out.1, fun e => by (cases e), fun _ => by
                      have h1 := HGI.out.2
                      cases b' with
                      | false => rw [(HNo.out rfl).1] at h1 ⊢; exact h1
                      | true => exact Nat.lt_trans h1 (HYes.out rfl)⟩
                    case measure => simp [intOf]; omega
                  · rw [hz]
                    have HG := Lib.hid (show ¬ Gains T D n false out' j by
                      rintro ⟨-, hg⟩
                      rw [HX.out, HY.out, AX.out, AY.out, HC.out] at hg
                      obtain ⟨h1, h2⟩ := Bool.or_eq_false_iff.1 hz
                      have h3 := HQ1.out.trans h1
                      have h4 := HQ2.out.trans h2
                      simp at h3 h4
                      omega)
                    clear hz
                    go_wp2_with fail
                    go_roundw
                    case rel => exact ⟨j + 1, out', b', by omega, by go_num, rfl, HO8.out, HE8.out, HI3.out, fun e => ⟨(HNo.out e).1, fun a ha => if h : a = j then by rw [h, ← (HNo.out e).1]; exact HG.out else (HNo.out e).2 a (by omega)⟩, HYes.out⟩
                    case measure => simp [intOf]; omega
              · obtain ⟨tn, htn⟩ := Int.eq_ofNat_of_zero_le (HT.out.tail j (by rw [HM.out]; exact hlt)).1
                obtain ⟨hd, hhd⟩ := Int.eq_ofNat_of_zero_le (HT.out.head j (by rw [HM.out]; exact hlt)).1
                have htN : tn < k := by have := (HT.out.tail j (by rw [HM.out]; exact hlt)).2; rw [htn, HN.out] at this; omega
                have hhN : hd < k := by have := (HT.out.head j (by rw [HM.out]; exact hlt)).2; rw [hhd, HN.out] at this; omega
                have RT := Lib.hid (show rtail T (j : Int) = (tn : Int) by rw [rtail_nat T j (by rw [HM.out]; exact hlt), htn])
                have RH := Lib.hid (show rhead T (j : Int) = (hd : Int) by rw [rhead_nat T j (by rw [HM.out]; exact hlt), hhd])
                have HX := Lib.hid (show arcX T true j = ((hd : Nat) : Int) from hhd)
                have HY := Lib.hid (show arcY T true j = ((tn : Nat) : Int) from htn)
                have hcy := own_cell hown tn (by omega)
                have hcx := own_cell hown hd (by omega)
                have hfr := hown.frozenAt hd
                have AX := Lib.hid (show at' out' (hd : Int) = out'.getD hd 0 by rw [at_eq _ _ (by rw [← HL.out]; omega)]; simp [show hd < out'.length by rw [← HL.out]; omega])
                have AY := Lib.hid (show at' out' (tn : Int) = out'.getD tn 0 by rw [at_eq _ _ (by rw [← HL.out]; omega)]; simp [show tn < out'.length by rw [← HL.out]; omega])
                obtain ⟨ox, hox⟩ : ∃ z, out'.getD hd 0 = z := ⟨_, rfl⟩
                obtain ⟨oy, hoy⟩ : ∃ z, out'.getD tn 0 = z := ⟨_, rfl⟩
                rw [hox] at hcx AX
                rw [hoy] at hcy AY
                have hub := HI3.out.ub tn (by rw [HN.out]; omega) (by rw [HN.out]; omega)
                rw [AY.out] at hub
                have hcb := HT.out.cost j (by rw [HM.out]; exact hlt)
                have RC := Lib.hid (rcost_nat T j (by rw [HM.out]; exact hlt))
                obtain ⟨c, hcc⟩ : ∃ z, costN T j = z := ⟨_, rfl⟩
                rw [hcc] at RC hcb
                have HC := Lib.hid hcc
                obtain ⟨qd, hqd⟩ : ∃ q, (!downN D j) = q := ⟨_, rfl⟩
                obtain ⟨qo, hqo⟩ : ∃ q, decide (oy < 0) = q := ⟨_, rfl⟩
                obtain ⟨qt, hqt⟩ : ∃ q, (decide (tn = n) || !overN T tn) = q := ⟨_, rfl⟩
                have HQd := Lib.hid hqd
                have HQo := Lib.hid hqo
                have HQt := Lib.hid hqt
                have HDL := Lib.hid (show D.length = 0 ∨ j < D.length by have := HF.out; have hh := HM.out; simp only [fitsB, decide_eq_true_eq] at this; omega)
                have hTV := H.out.mono (HE.out.trans HW3.out)
                have hDV := HD.out.mono (HE.out.trans HW3.out)
                clear htn hhd hown hox hoy hcc hqd hqo hqt b0 b1 b2
                go_upto_region 17 with fail
                refine Reg.wp_region_abs (fun w => (w.cell? ⟨B0, 0, none⟩ = some (.int .i64 (k : Int))) ∧ (w.cell? ⟨B0, 1, none⟩ = some so) ∧ (w.cell? ⟨B0, 2, none⟩ = some (.slice la m lc)) ∧ (TopoV w (.agg #[.int .i64 (k : Int), so, .slice la m lc]) T) ∧ (Bools w u D) ∧ (w.cell? ⟨g, tn, none⟩ = some (.int .i64 oy)) ∧ (w.cell? ⟨g, hd, none⟩ = some (.int .i64 ox))) [53, 54, 55, 56, 57, 58, 14, 15] (fun w w' hE h => ⟨hE.cell h.1, hE.cell h.2.1, hE.cell h.2.2.1, h.2.2.2.1.mono hE, h.2.2.2.2.1.mono hE, hE.cell h.2.2.2.2.2.1, hE.cell h.2.2.2.2.2.2⟩) (⟨by assumption, by assumption, by assumption, by assumption, by assumption, by assumption, by assumption⟩) (by kernel_rfl) (by kernel_rfl) (by kernel_rfl) ?_
                refine Reg.wpAbs_ex ?_
                apply Exists.intro
                refine ⟨?_, ?_⟩
                · intro ρ w₁ hρ hC hs
                  have e4 := hs 4 (by decide)
                  have hc := hρ.const
                  have hf := hρ.func
                  have hg := hρ.glob
                  clear hs hρ
                  change ρ (.tmp 4) = _ at e4
                  obtain ⟨hE, ⟨hS1, hS2, hS3, hS4, hS5, hS6, hS7⟩⟩ := hC
                  refine Reg.step_plain rfl ?_
                  clear hf
                  go_simp
                  exact ⟨Reg.Ext.refl _, rfl⟩
                refine Reg.wpAbs_ex ?_
                apply Exists.intro
                refine ⟨?_, ?_⟩
                · intro ρ w₁ hρ hC hs
                  have e13 := hs 13 (by decide)
                  have hc := hρ.const
                  have hf := hρ.func
                  have hg := hρ.glob
                  clear hs hρ
                  change ρ (.tmp 13) = _ at e13
                  obtain ⟨hE, ⟨hS1, hS2, hS3, hS4, hS5, hS6, hS7⟩⟩ := hC
                  refine Reg.step_plain rfl ?_
                  clear hf
                  go_simp
                  exact ⟨Reg.Ext.refl _, rfl⟩
                refine Reg.wpAbs_ex ?_
                apply Exists.intro
                refine ⟨?_, ?_⟩
                · intro ρ w₁ hρ hC hs
                  have e53 := hs 53 (by decide)
                  have e54 := hs 54 (by decide)
                  have hc := hρ.const
                  have hf := hρ.func
                  have hg := hρ.glob
                  clear hs hρ
                  change ρ (.tmp 53) = _ at e53
                  change ρ (.tmp 54) = _ at e54
                  obtain ⟨hE, ⟨hS1, hS2, hS3, hS4, hS5, hS6, hS7⟩⟩ := hC
                  refine Reg.step_plain rfl ?_
                  rw [Reg.execOp_callR hf]
                  clear hf
                  go_simp
                  refine ⟨Reg.Ext.refl _, ?_⟩
                  with_reducible exact (by have := rtail_any hS4 HV.out (j : Int); rw [RT.out] at this; exact this)
                refine Reg.wpAbs_ex ?_
                apply Exists.intro
                refine ⟨?_, ?_⟩
                · intro ρ w₁ hρ hC hs
                  have e4 := hs 4 (by decide)
                  have hc := hρ.const
                  have hf := hρ.func
                  have hg := hρ.glob
                  clear hs hρ
                  change ρ (.tmp 4) = _ at e4
                  obtain ⟨hE, ⟨hS1, hS2, hS3, hS4, hS5, hS6, hS7⟩⟩ := hC
                  refine Reg.step_plain rfl ?_
                  clear hf
                  go_simp
                  exact ⟨Reg.Ext.refl _, rfl⟩
                refine Reg.wpAbs_ex ?_
                apply Exists.intro
                refine ⟨?_, ?_⟩
                · intro ρ w₁ hρ hC hs
                  have e13 := hs 13 (by decide)
                  have hc := hρ.const
                  have hf := hρ.func
                  have hg := hρ.glob
                  clear hs hρ
                  change ρ (.tmp 13) = _ at e13
                  obtain ⟨hE, ⟨hS1, hS2, hS3, hS4, hS5, hS6, hS7⟩⟩ := hC
                  refine Reg.step_plain rfl ?_
                  clear hf
                  go_simp
                  exact ⟨Reg.Ext.refl _, rfl⟩
                refine Reg.wpAbs_ex ?_
                apply Exists.intro
                refine ⟨?_, ?_⟩
                · intro ρ w₁ hρ hC hs
                  have e56 := hs 56 (by decide)
                  have e57 := hs 57 (by decide)
                  have hc := hρ.const
                  have hf := hρ.func
                  have hg := hρ.glob
                  clear hs hρ
                  change ρ (.tmp 56) = _ at e56
                  change ρ (.tmp 57) = _ at e57
                  obtain ⟨hE, ⟨hS1, hS2, hS3, hS4, hS5, hS6, hS7⟩⟩ := hC
                  refine Reg.step_plain rfl ?_
                  rw [Reg.execOp_callR hf]
                  clear hf
                  go_simp
                  refine ⟨Reg.Ext.refl _, ?_⟩
                  with_reducible exact (by have := rhead_any hS4 HV.out (j : Int); rw [RH.out] at this; exact this)
                refine Reg.wpAbs_ex ?_
                apply Exists.intro
                refine ⟨?_, ?_⟩
                · intro ρ w₁ hρ hC hs
                  have e55 := hs 55 (by decide)
                  have hc := hρ.const
                  have hf := hρ.func
                  have hg := hρ.glob
                  clear hs hρ
                  change ρ (.tmp 55) = _ at e55
                  obtain ⟨hE, ⟨hS1, hS2, hS3, hS4, hS5, hS6, hS7⟩⟩ := hC
                  refine Reg.step_plain rfl ?_
                  clear hf
                  go_simp
                  exact ⟨Reg.Ext.refl _, rfl⟩
                refine Reg.wpAbs_ex ?_
                apply Exists.intro
                refine ⟨?_, ?_⟩
                · intro ρ w₁ hρ hC hs
                  have e58 := hs 58 (by decide)
                  have hc := hρ.const
                  have hf := hρ.func
                  have hg := hρ.glob
                  clear hs hρ
                  change ρ (.tmp 58) = _ at e58
                  obtain ⟨hE, ⟨hS1, hS2, hS3, hS4, hS5, hS6, hS7⟩⟩ := hC
                  refine Reg.step_plain rfl ?_
                  clear hf
                  go_simp
                  exact ⟨Reg.Ext.refl _, rfl⟩
                refine Reg.wpAbs_nil ?_
                intro w₁ hE hS
                obtain ⟨hS1, hS2, hS3, hS4, hS5, hS6, hS7⟩ := hS
                refine Reg.wpFin_fix _ rfl ?_
                refine Reg.wpFin_fix _ rfl ?_
                refine Reg.wpFin_fix _ rfl ?_
                refine Reg.wpFin_fix _ rfl ?_
                refine Reg.wpFin_fix _ rfl ?_
                refine Reg.wpFin_fix _ rfl ?_
                refine Reg.wpFin_fix _ rfl ?_
                refine Reg.wpFin_fix _ rfl ?_
                show _
                simp only [Reg.wpFin, List.setIfInBounds_toArray, List.set_cons_succ, List.set_cons_zero]
                have HE5 := Lib.hid (HW3.out.trans hE)
                have HO5 := Lib.hid (ownsRow_ext HO3.out hE)
                clear hE d0 d1 d2 hTV hDV hcy hcx hfr
                go_upto_region 20 with fail
                refine Reg.wp_region_seq (fun w => (w.cell? ⟨B0, 0, none⟩ = some (.int .i64 (k : Int))) ∧ (w.cell? ⟨B0, 1, none⟩ = some so) ∧ (w.cell? ⟨B0, 2, none⟩ = some (.slice la m lc)) ∧ (TopoV w (.agg #[.int .i64 (k : Int), so, .slice la m lc]) T) ∧ (Bools w u D) ∧ (w.cell? ⟨g, tn, none⟩ = some (.int .i64 oy)) ∧ (w.cell? ⟨g, hd, none⟩ = some (.int .i64 ox))) [62, 63, 64, 65, 66, 67, 68, 69, 70, 71, 72, 73, 74, 75, 76, 77, 78, 79] (fun w w' hE h => ⟨hE.cell h.1, hE.cell h.2.1, hE.cell h.2.2.1, h.2.2.2.1.mono hE, h.2.2.2.2.1.mono hE, hE.cell h.2.2.2.2.2.1, hE.cell h.2.2.2.2.2.2⟩) (⟨by assumption, by assumption, by assumption, by assumption, by assumption, by assumption, by assumption⟩) (by kernel_rfl) ?_
                refine Reg.wpAbs_ex ?_
                apply Exists.intro
                refine ⟨?_, ?_⟩
                · intro ρ w₁ hρ hC hs
                  have e1 := hs 1 (by decide)
                  have hc := hρ.const
                  have hf := hρ.func
                  have hg := hρ.glob
                  clear hs hρ
                  change ρ (.tmp 1) = _ at e1
                  obtain ⟨hE, ⟨hS1, hS2, hS3, hS4, hS5, hS6, hS7⟩⟩ := hC
                  refine Reg.step_plain rfl ?_
                  clear hf
                  go_simp
                  exact ⟨Reg.Ext.refl _, rfl⟩
                refine Reg.wpAbs_ex ?_
                apply Exists.intro
                refine ⟨?_, ?_⟩
                · intro ρ w₁ hρ hC hs
                  have e13 := hs 13 (by decide)
                  have hc := hρ.const
                  have hf := hρ.func
                  have hg := hρ.glob
                  clear hs hρ
                  change ρ (.tmp 13) = _ at e13
                  obtain ⟨hE, ⟨hS1, hS2, hS3, hS4, hS5, hS6, hS7⟩⟩ := hC
                  refine Reg.step_plain rfl ?_
                  clear hf
                  go_simp
                  exact ⟨Reg.Ext.refl _, rfl⟩
                refine Reg.wpAbs_fix (.bool (qd)) ?_ ?_
                · intro ρ w₁ hρ hC hs
                  have e62 := hs 62 (by decide)
                  have e63 := hs 63 (by decide)
                  have hc := hρ.const
                  have hf := hρ.func
                  have hg := hρ.glob
                  clear hs hρ
                  change ρ (.tmp 62) = _ at e62
                  change ρ (.tmp 63) = _ at e63
                  obtain ⟨hE, ⟨hS1, hS2, hS3, hS4, hS5, hS6, hS7⟩⟩ := hC
                  refine Reg.step_plain rfl ?_
                  rw [Reg.execOp_callR hf]
                  clear hf
                  go_simp
                  refine ⟨Reg.Ext.refl _, ?_⟩
                  with_reducible exact (by have := rup_any hS5 j HDL.out; rw [HQd.out] at this; exact this)
                refine Reg.wpAbs_fix (.bool (!qd)) ?_ ?_
                · intro ρ w₁ hρ hC hs
                  have e64 := hs 64 (by decide)
                  have hc := hρ.const
                  have hf := hρ.func
                  have hg := hρ.glob
                  clear hs hρ
                  change ρ (.tmp 64) = _ at e64
                  obtain ⟨hE, ⟨hS1, hS2, hS3, hS4, hS5, hS6, hS7⟩⟩ := hC
                  refine Reg.step_plain rfl ?_
                  clear hf
                  go_simp
                  exact ⟨Reg.Ext.refl _, rfl⟩
                refine Reg.wpAbs_fix (.bool (!qd)) ?_ ?_
                · intro ρ w₁ hρ hC hs
                  have e65 := hs 65 (by decide)
                  have hc := hρ.const
                  have hf := hρ.func
                  have hg := hρ.glob
                  clear hs hρ
                  change ρ (.tmp 65) = _ at e65
                  obtain ⟨hE, ⟨hS1, hS2, hS3, hS4, hS5, hS6, hS7⟩⟩ := hC
                  refine Reg.step_plain rfl ?_
                  clear hf
                  go_simp
                  exact ⟨Reg.Ext.refl _, rfl⟩
                refine Reg.wpAbs_exC (!(!qd)) ?_
                apply Exists.intro
                refine ⟨?_, ?_⟩
                · intro ρ w₁ hρ hC hs
                  have e10 := hs 10 (by decide)
                  have e66 := hs 66 (by decide)
                  have hc := hρ.const
                  have hf := hρ.func
                  have hg := hρ.glob
                  clear hs hρ
                  change ρ (.tmp 10) = _ at e10
                  change ρ (.tmp 66) = _ at e66
                  obtain ⟨hE, ⟨hS1, hS2, hS3, hS4, hS5, hS6, hS7⟩⟩ := hC
                  refine ⟨fun hgd => ⟨Reg.wanted_of (t := 66) rfl rfl (by rw [e66, show (!qd) = false from Reg.of_not_true hgd]), ?_⟩, fun hgd => ?_⟩
                  · clear hf
                    go_simp
                    exact ⟨Reg.Ext.refl _, rfl⟩
                  · exact Reg.unwanted_of (t := 66) rfl rfl (.inl (by rw [e66, show (!qd) = true from Reg.of_not_false hgd]; rfl))
                refine Reg.wpAbs_exC (!(!qd)) ?_
                apply Exists.intro
                refine ⟨?_, ?_⟩
                · intro ρ w₁ hρ hC hs
                  have e15 := hs 15 (by decide)
                  have e66 := hs 66 (by decide)
                  have hc := hρ.const
                  have hf := hρ.func
                  have hg := hρ.glob
                  clear hs hρ
                  change ρ (.tmp 15) = _ at e15
                  change ρ (.tmp 66) = _ at e66
                  obtain ⟨hE, ⟨hS1, hS2, hS3, hS4, hS5, hS6, hS7⟩⟩ := hC
                  refine ⟨fun hgd => ⟨Reg.wanted_of (t := 66) rfl rfl (by rw [e66, show (!qd) = false from Reg.of_not_true hgd]), ?_⟩, fun hgd => ?_⟩
                  · clear hf
                    go_simp
                    exact ⟨Reg.Ext.refl _, rfl⟩
                  · exact Reg.unwanted_of (t := 66) rfl rfl (.inl (by rw [e66, show (!qd) = true from Reg.of_not_false hgd]; rfl))
                refine Reg.wpAbs_exC (!(!qd)) ?_
                apply Exists.intro
                refine ⟨?_, ?_⟩
                · intro ρ w₁ hρ hC hs
                  have e67 := hs 67 (by decide)
                  have e68 := hs 68 (by decide)
                  have e66 := hs 66 (by decide)
                  have hc := hρ.const
                  have hf := hρ.func
                  have hg := hρ.glob
                  clear hs hρ
                  change ρ (.tmp 67) = _ at e67
                  change ρ (.tmp 68) = _ at e68
                  change ρ (.tmp 66) = _ at e66
                  obtain ⟨hE, ⟨hS1, hS2, hS3, hS4, hS5, hS6, hS7⟩⟩ := hC
                  refine ⟨fun hgd => ⟨Reg.wanted_of (t := 66) rfl rfl (by rw [e66, show (!qd) = false from Reg.of_not_true hgd]), ?_⟩, fun hgd => ?_⟩
                  · rw [hgd] at e67
                    simp only [cond_true] at e67
                    rw [hgd] at e68
                    simp only [cond_true] at e68
                    clear hf
                    go_simp
                    exact ⟨Reg.Ext.refl _, rfl⟩
                  · exact Reg.unwanted_of (t := 66) rfl rfl (.inl (by rw [e66, show (!qd) = true from Reg.of_not_false hgd]; rfl))
                refine Reg.wpAbs_exC (!(!qd)) ?_
                apply Exists.intro
                refine ⟨?_, ?_⟩
                · intro ρ w₁ hρ hC hs
                  have e69 := hs 69 (by decide)
                  have e66 := hs 66 (by decide)
                  have hc := hρ.const
                  have hf := hρ.func
                  have hg := hρ.glob
                  clear hs hρ
                  change ρ (.tmp 69) = _ at e69
                  change ρ (.tmp 66) = _ at e66
                  obtain ⟨hE, ⟨hS1, hS2, hS3, hS4, hS5, hS6, hS7⟩⟩ := hC
                  refine ⟨fun hgd => ⟨Reg.wanted_of (t := 66) rfl rfl (by rw [e66, show (!qd) = false from Reg.of_not_true hgd]), ?_⟩, fun hgd => ?_⟩
                  · rw [hgd] at e69
                    simp only [cond_true] at e69
                    clear hf
                    go_simp
                    exact ⟨Reg.Ext.refl _, rfl⟩
                  · exact Reg.unwanted_of (t := 66) rfl rfl (.inl (by rw [e66, show (!qd) = true from Reg.of_not_false hgd]; rfl))
                refine Reg.wpAbs_exC (!(!qd)) ?_
                refine ⟨.bool (qo), ?_, ?_⟩
                · intro ρ w₁ hρ hC hs
                  have e70 := hs 70 (by decide)
                  have e66 := hs 66 (by decide)
                  have hc := hρ.const
                  have hf := hρ.func
                  have hg := hρ.glob
                  clear hs hρ
                  change ρ (.tmp 70) = _ at e70
                  change ρ (.tmp 66) = _ at e66
                  obtain ⟨hE, ⟨hS1, hS2, hS3, hS4, hS5, hS6, hS7⟩⟩ := hC
                  refine ⟨fun hgd => ⟨Reg.wanted_of (t := 66) rfl rfl (by rw [e66, show (!qd) = false from Reg.of_not_true hgd]), ?_⟩, fun hgd => ?_⟩
                  · rw [hgd] at e70
                    simp only [cond_true] at e70
                    clear hf
                    go_simp
                    exact ⟨Reg.Ext.refl _, val_bool HQo.out⟩
                  · exact Reg.unwanted_of (t := 66) rfl rfl (.inl (by rw [e66, show (!qd) = true from Reg.of_not_false hgd]; rfl))
                refine Reg.wpAbs_fix (.bool ((!qd) || qo)) ?_ ?_
                · intro ρ w₁ hρ hC hs
                  have e66 := hs 66 (by decide)
                  have e71 := hs 71 (by decide)
                  have hc := hρ.const
                  have hf := hρ.func
                  have hg := hρ.glob
                  clear hs hρ
                  change ρ (.tmp 66) = _ at e66
                  change ρ (.tmp 71) = _ at e71
                  obtain ⟨hE, ⟨hS1, hS2, hS3, hS4, hS5, hS6, hS7⟩⟩ := hC
                  refine Reg.step_plain rfl ?_
                  rcases Bool.eq_false_or_eq_true (!qd) with hb | hb
                  · rw [hb] at e66
                    clear e71
                    clear hf
                    go_simp
                    exact ⟨Reg.Ext.refl _, by first | rfl | simp | simp [hb]⟩
                  · rw [hb] at e66
                    rw [show (!(!qd)) = true by simp [hb]] at e71
                    simp only [cond_true] at e71
                    clear hf
                    go_simp
                    exact ⟨Reg.Ext.refl _, by first | rfl | simp | simp [hb]⟩
                refine Reg.wpAbs_fix (.bool ((!qd) || qo)) ?_ ?_
                · intro ρ w₁ hρ hC hs
                  have e72 := hs 72 (by decide)
                  have hc := hρ.const
                  have hf := hρ.func
                  have hg := hρ.glob
                  clear hs hρ
                  change ρ (.tmp 72) = _ at e72
                  obtain ⟨hE, ⟨hS1, hS2, hS3, hS4, hS5, hS6, hS7⟩⟩ := hC
                  refine Reg.step_plain rfl ?_
                  clear hf
                  go_simp
                  exact ⟨Reg.Ext.refl _, rfl⟩
                refine Reg.wpAbs_exC (!((!qd) || qo)) ?_
                apply Exists.intro
                refine ⟨?_, ?_⟩
                · intro ρ w₁ hρ hC hs
                  have e4 := hs 4 (by decide)
                  have e73 := hs 73 (by decide)
                  have hc := hρ.const
                  have hf := hρ.func
                  have hg := hρ.glob
                  clear hs hρ
                  change ρ (.tmp 4) = _ at e4
                  change ρ (.tmp 73) = _ at e73
                  obtain ⟨hE, ⟨hS1, hS2, hS3, hS4, hS5, hS6, hS7⟩⟩ := hC
                  refine ⟨fun hgd => ⟨Reg.wanted_of (t := 73) rfl rfl (by rw [e73, show ((!qd) || qo) = false from Reg.of_not_true hgd]), ?_⟩, fun hgd => ?_⟩
                  · clear hf
                    go_simp
                    exact ⟨Reg.Ext.refl _, rfl⟩
                  · exact Reg.unwanted_of (t := 73) rfl rfl (.inl (by rw [e73, show ((!qd) || qo) = true from Reg.of_not_false hgd]; rfl))
                refine Reg.wpAbs_exC (!((!qd) || qo)) ?_
                apply Exists.intro
                refine ⟨?_, ?_⟩
                · intro ρ w₁ hρ hC hs
                  have e15 := hs 15 (by decide)
                  have e73 := hs 73 (by decide)
                  have hc := hρ.const
                  have hf := hρ.func
                  have hg := hρ.glob
                  clear hs hρ
                  change ρ (.tmp 15) = _ at e15
                  change ρ (.tmp 73) = _ at e73
                  obtain ⟨hE, ⟨hS1, hS2, hS3, hS4, hS5, hS6, hS7⟩⟩ := hC
                  refine ⟨fun hgd => ⟨Reg.wanted_of (t := 73) rfl rfl (by rw [e73, show ((!qd) || qo) = false from Reg.of_not_true hgd]), ?_⟩, fun hgd => ?_⟩
                  · clear hf
                    go_simp
                    exact ⟨Reg.Ext.refl _, rfl⟩
                  · exact Reg.unwanted_of (t := 73) rfl rfl (.inl (by rw [e73, show ((!qd) || qo) = true from Reg.of_not_false hgd]; rfl))
                refine Reg.wpAbs_exC (!((!qd) || qo)) ?_
                apply Exists.intro
                refine ⟨?_, ?_⟩
                · intro ρ w₁ hρ hC hs
                  have e2 := hs 2 (by decide)
                  have e73 := hs 73 (by decide)
                  have hc := hρ.const
                  have hf := hρ.func
                  have hg := hρ.glob
                  clear hs hρ
                  change ρ (.tmp 2) = _ at e2
                  change ρ (.tmp 73) = _ at e73
                  obtain ⟨hE, ⟨hS1, hS2, hS3, hS4, hS5, hS6, hS7⟩⟩ := hC
                  refine ⟨fun hgd => ⟨Reg.wanted_of (t := 73) rfl rfl (by rw [e73, show ((!qd) || qo) = false from Reg.of_not_true hgd]), ?_⟩, fun hgd => ?_⟩
                  · clear hf
                    go_simp
                    exact ⟨Reg.Ext.refl _, rfl⟩
                  · exact Reg.unwanted_of (t := 73) rfl rfl (.inl (by rw [e73, show ((!qd) || qo) = true from Reg.of_not_false hgd]; rfl))
                refine Reg.wpAbs_exC (!((!qd) || qo)) ?_
                refine ⟨.bool (qt), ?_, ?_⟩
                · intro ρ w₁ hρ hC hs
                  have e74 := hs 74 (by decide)
                  have e75 := hs 75 (by decide)
                  have e76 := hs 76 (by decide)
                  have e73 := hs 73 (by decide)
                  have hc := hρ.const
                  have hf := hρ.func
                  have hg := hρ.glob
                  clear hs hρ
                  change ρ (.tmp 74) = _ at e74
                  change ρ (.tmp 75) = _ at e75
                  change ρ (.tmp 76) = _ at e76
                  change ρ (.tmp 73) = _ at e73
                  obtain ⟨hE, ⟨hS1, hS2, hS3, hS4, hS5, hS6, hS7⟩⟩ := hC
                  refine ⟨fun hgd => ⟨Reg.wanted_of (t := 73) rfl rfl (by rw [e73, show ((!qd) || qo) = false from Reg.of_not_true hgd]), ?_⟩, fun hgd => ?_⟩
                  · rw [hgd] at e74
                    simp only [cond_true] at e74
                    rw [hgd] at e75
                    simp only [cond_true] at e75
                    rw [hgd] at e76
                    simp only [cond_true] at e76
                    rw [Reg.execOp_callR hf]
                    clear hf
                    go_simp
                    refine ⟨Reg.Ext.refl _, ?_⟩
                    with_reducible exact (by have := rtransit_any hS4 HV.out tn n; rw [HQt.out] at this; exact this)
                  · exact Reg.unwanted_of (t := 73) rfl rfl (.inl (by rw [e73, show ((!qd) || qo) = true from Reg.of_not_false hgd]; rfl))
                refine Reg.wpAbs_exC (!((!qd) || qo)) ?_
                refine ⟨.bool (!qt), ?_, ?_⟩
                · intro ρ w₁ hρ hC hs
                  have e77 := hs 77 (by decide)
                  have e73 := hs 73 (by decide)
                  have hc := hρ.const
                  have hf := hρ.func
                  have hg := hρ.glob
                  clear hs hρ
                  change ρ (.tmp 77) = _ at e77
                  change ρ (.tmp 73) = _ at e73
                  obtain ⟨hE, ⟨hS1, hS2, hS3, hS4, hS5, hS6, hS7⟩⟩ := hC
                  refine ⟨fun hgd => ⟨Reg.wanted_of (t := 73) rfl rfl (by rw [e73, show ((!qd) || qo) = false from Reg.of_not_true hgd]), ?_⟩, fun hgd => ?_⟩
                  · rw [hgd] at e77
                    simp only [cond_true] at e77
                    clear hf
                    go_simp
                    exact ⟨Reg.Ext.refl _, rfl⟩
                  · exact Reg.unwanted_of (t := 73) rfl rfl (.inl (by rw [e73, show ((!qd) || qo) = true from Reg.of_not_false hgd]; rfl))
                refine Reg.wpAbs_fix (.bool (((!qd) || qo) || (!qt))) ?_ ?_
                · intro ρ w₁ hρ hC hs
                  have e73 := hs 73 (by decide)
                  have e78 := hs 78 (by decide)
                  have hc := hρ.const
                  have hf := hρ.func
                  have hg := hρ.glob
                  clear hs hρ
                  change ρ (.tmp 73) = _ at e73
                  change ρ (.tmp 78) = _ at e78
                  obtain ⟨hE, ⟨hS1, hS2, hS3, hS4, hS5, hS6, hS7⟩⟩ := hC
                  refine Reg.step_plain rfl ?_
                  rcases Bool.eq_false_or_eq_true ((!qd) || qo) with hb | hb
                  · rw [hb] at e73
                    clear e78
                    clear hf
                    go_simp
                    exact ⟨Reg.Ext.refl _, by first | rfl | simp | simp [hb]⟩
                  · rw [hb] at e73
                    rw [show (!((!qd) || qo)) = true by simp [hb]] at e78
                    simp only [cond_true] at e78
                    clear hf
                    go_simp
                    exact ⟨Reg.Ext.refl _, by first | rfl | simp | simp [hb]⟩
                refine Reg.wpAbs_nil ?_
                intro w₁ hE hS
                obtain ⟨hS1, hS2, hS3, hS4, hS5, hS6, hS7⟩ := hS
                refine Reg.wpFin_fix _ rfl ?_
                refine Reg.wpFin_fix _ rfl ?_
                refine Reg.wpFin_fix _ rfl ?_
                refine Reg.wpFin_fix _ rfl ?_
                refine Reg.wpFin_fix _ rfl ?_
                refine Reg.wpFin_drop (fun x67 => ?_)
                refine Reg.wpFin_drop (fun x68 => ?_)
                refine Reg.wpFin_drop (fun x69 => ?_)
                refine Reg.wpFin_drop (fun x70 => ?_)
                refine Reg.wpFin_drop (fun x71 => ?_)
                refine Reg.wpFin_fix _ rfl ?_
                refine Reg.wpFin_fix _ rfl ?_
                refine Reg.wpFin_drop (fun x74 => ?_)
                refine Reg.wpFin_drop (fun x75 => ?_)
                refine Reg.wpFin_drop (fun x76 => ?_)
                refine Reg.wpFin_drop (fun x77 => ?_)
                refine Reg.wpFin_drop (fun x78 => ?_)
                refine Reg.wpFin_fix _ rfl ?_
                show _
                simp only [Reg.wpFin, List.setIfInBounds_toArray, List.set_cons_succ, List.set_cons_zero]
                have HE6 := Lib.hid (HE5.out.trans hE)
                have HO6 := Lib.hid (ownsRow_ext HO5.out hE)
                clear hE
                rcases Bool.eq_false_or_eq_true ((!qd || qo) || !qt) with hz | hz
                · rw [hz]
                  have HG := Lib.hid (show ¬ Gains T D n true out' j by
                    rintro ⟨⟨g1, g2, g3⟩, -⟩
                    rw [HY.out] at g2 g3
                    rw [AY.out] at g2
                    have e1 : qd = true := by rw [← HQd.out, g1]; rfl
                    have e2 : qo = false := by rw [← HQo.out]; simp; omega
                    have e3 : qt = true := by
                      rw [← HQt.out]
                      rcases g3 with g3 | g3
                      · simp [show tn = n by omega]
                      · rw [Int.toNat_natCast] at g3; simp [g3]
                    rw [e1, e2, e3] at hz
                    cases hz)
                  go_wp2_with fail
                  go_roundw
                  case rel => exact ⟨j + 1, out', b', by omega, by go_num, rfl, HO6.out, HE6.out, HI3.out, fun e => ⟨(HNo.out e).1, fun a ha => if h : a = j then by rw [h, ← (HNo.out e).1]; exact HG.out else (HNo.out e).2 a (by omega)⟩, HYes.out⟩
                  case measure => simp [intOf]; omega
                · rw [hz]
                  have e1 : qd = true := by revert hz; cases qd <;> simp
                  have e2 : qo = false := by revert hz; cases qo <;> simp
                  have e3 : qt = true := by revert hz; cases qt <;> simp
                  have hoy0 : 0 ≤ oy := by have := HQo.out.trans e2; simp at this; omega
                  have HWay := Lib.hid (show Way T D n true out' j from ⟨by have := HQd.out.trans e1; simpa using this, by rw [HY.out, AY.out]; exact hoy0, by
                    rw [HY.out, Int.toNat_natCast]
                    have := HQt.out.trans e3
                    simp only [Bool.or_eq_true, decide_eq_true_eq, Bool.not_eq_true'] at this
                    rcases this with h | h
                    · exact .inl (by rw [h])
                    · exact .inr h⟩)
                  have HWr := Lib.hid (IntWalk.i64_in (oy + c) (by omega))
                  obtain ⟨q1, hq1⟩ : ∃ q, decide (ox < 0) = q := ⟨_, rfl⟩
                  obtain ⟨q2, hq2⟩ : ∃ q, decide (oy + c < ox) = q := ⟨_, rfl⟩
                  have HQ1 := Lib.hid hq1
                  have HQ2 := Lib.hid hq2
                  clear hz e1 e2 e3 hq1 hq2
                  go_upto_region 21 with fail
                  have hwr := HWr.out
                  refine Reg.wp_region_abs (fun w => (w.cell? ⟨B0, 0, none⟩ = some (.int .i64 (k : Int))) ∧ (w.cell? ⟨B0, 1, none⟩ = some so) ∧ (w.cell? ⟨B0, 2, none⟩ = some (.slice la m lc)) ∧ (TopoV w (.agg #[.int .i64 (k : Int), so, .slice la m lc]) T) ∧ (Bools w u D) ∧ (w.cell? ⟨g, tn, none⟩ = some (.int .i64 oy)) ∧ (w.cell? ⟨g, hd, none⟩ = some (.int .i64 ox))) [80, 81, 82, 83, 84, 85, 86, 87, 16] (fun w w' hE h => ⟨hE.cell h.1, hE.cell h.2.1, hE.cell h.2.2.1, h.2.2.2.1.mono hE, h.2.2.2.2.1.mono hE, hE.cell h.2.2.2.2.2.1, hE.cell h.2.2.2.2.2.2⟩) (⟨by assumption, by assumption, by assumption, by assumption, by assumption, by assumption, by assumption⟩) (by kernel_rfl) (by kernel_rfl) (by kernel_rfl) ?_
                  refine Reg.wpAbs_ex ?_
                  apply Exists.intro
                  refine ⟨?_, ?_⟩
                  · intro ρ w₁ hρ hC hs
                    have e10 := hs 10 (by decide)
                    have hc := hρ.const
                    have hf := hρ.func
                    have hg := hρ.glob
                    clear hs hρ
                    change ρ (.tmp 10) = _ at e10
                    obtain ⟨hE, ⟨hS1, hS2, hS3, hS4, hS5, hS6, hS7⟩⟩ := hC
                    refine Reg.step_plain rfl ?_
                    clear hf
                    go_simp
                    exact ⟨Reg.Ext.refl _, rfl⟩
                  refine Reg.wpAbs_ex ?_
                  apply Exists.intro
                  refine ⟨?_, ?_⟩
                  · intro ρ w₁ hρ hC hs
                    have e15 := hs 15 (by decide)
                    have hc := hρ.const
                    have hf := hρ.func
                    have hg := hρ.glob
                    clear hs hρ
                    change ρ (.tmp 15) = _ at e15
                    obtain ⟨hE, ⟨hS1, hS2, hS3, hS4, hS5, hS6, hS7⟩⟩ := hC
                    refine Reg.step_plain rfl ?_
                    clear hf
                    go_simp
                    exact ⟨Reg.Ext.refl _, rfl⟩
                  refine Reg.wpAbs_ex ?_
                  apply Exists.intro
                  refine ⟨?_, ?_⟩
                  · intro ρ w₁ hρ hC hs
                    have e80 := hs 80 (by decide)
                    have e81 := hs 81 (by decide)
                    have hc := hρ.const
                    have hf := hρ.func
                    have hg := hρ.glob
                    clear hs hρ
                    change ρ (.tmp 80) = _ at e80
                    change ρ (.tmp 81) = _ at e81
                    obtain ⟨hE, ⟨hS1, hS2, hS3, hS4, hS5, hS6, hS7⟩⟩ := hC
                    refine Reg.step_plain rfl ?_
                    clear hf
                    go_simp
                    exact ⟨Reg.Ext.refl _, rfl⟩
                  refine Reg.wpAbs_ex ?_
                  apply Exists.intro
                  refine ⟨?_, ?_⟩
                  · intro ρ w₁ hρ hC hs
                    have e82 := hs 82 (by decide)
                    have hc := hρ.const
                    have hf := hρ.func
                    have hg := hρ.glob
                    clear hs hρ
                    change ρ (.tmp 82) = _ at e82
                    obtain ⟨hE, ⟨hS1, hS2, hS3, hS4, hS5, hS6, hS7⟩⟩ := hC
                    refine Reg.step_plain rfl ?_
                    clear hf
                    go_simp
                    exact ⟨Reg.Ext.refl _, rfl⟩
                  refine Reg.wpAbs_ex ?_
                  apply Exists.intro
                  refine ⟨?_, ?_⟩
                  · intro ρ w₁ hρ hC hs
                    have e4 := hs 4 (by decide)
                    have hc := hρ.const
                    have hf := hρ.func
                    have hg := hρ.glob
                    clear hs hρ
                    change ρ (.tmp 4) = _ at e4
                    obtain ⟨hE, ⟨hS1, hS2, hS3, hS4, hS5, hS6, hS7⟩⟩ := hC
                    refine Reg.step_plain rfl ?_
                    clear hf
                    go_simp
                    exact ⟨Reg.Ext.refl _, rfl⟩
                  refine Reg.wpAbs_ex ?_
                  apply Exists.intro
                  refine ⟨?_, ?_⟩
                  · intro ρ w₁ hρ hC hs
                    have e13 := hs 13 (by decide)
                    have hc := hρ.const
                    have hf := hρ.func
                    have hg := hρ.glob
                    clear hs hρ
                    change ρ (.tmp 13) = _ at e13
                    obtain ⟨hE, ⟨hS1, hS2, hS3, hS4, hS5, hS6, hS7⟩⟩ := hC
                    refine Reg.step_plain rfl ?_
                    clear hf
                    go_simp
                    exact ⟨Reg.Ext.refl _, rfl⟩
                  refine Reg.wpAbs_ex ?_
                  apply Exists.intro
                  refine ⟨?_, ?_⟩
                  · intro ρ w₁ hρ hC hs
                    have e84 := hs 84 (by decide)
                    have e85 := hs 85 (by decide)
                    have hc := hρ.const
                    have hf := hρ.func
                    have hg := hρ.glob
                    clear hs hρ
                    change ρ (.tmp 84) = _ at e84
                    change ρ (.tmp 85) = _ at e85
                    obtain ⟨hE, ⟨hS1, hS2, hS3, hS4, hS5, hS6, hS7⟩⟩ := hC
                    refine Reg.step_plain rfl ?_
                    rw [Reg.execOp_callR hf]
                    clear hf
                    go_simp
                    refine ⟨Reg.Ext.refl _, ?_⟩
                    with_reducible exact (by have := rcost_any hS4 HV.out (j : Int); rw [RC.out] at this; exact this)
                  refine Reg.wpAbs_ex ?_
                  apply Exists.intro
                  refine ⟨?_, ?_⟩
                  · intro ρ w₁ hρ hC hs
                    have e83 := hs 83 (by decide)
                    have e86 := hs 86 (by decide)
                    have hc := hρ.const
                    have hf := hρ.func
                    have hg := hρ.glob
                    clear hs hρ
                    change ρ (.tmp 83) = _ at e83
                    change ρ (.tmp 86) = _ at e86
                    obtain ⟨hE, ⟨hS1, hS2, hS3, hS4, hS5, hS6, hS7⟩⟩ := hC
                    refine Reg.step_plain rfl ?_
                    clear hf
                    go_simp
                    exact ⟨Reg.Ext.refl _, rfl⟩
                  refine Reg.wpAbs_ex ?_
                  apply Exists.intro
                  refine ⟨?_, ?_⟩
                  · intro ρ w₁ hρ hC hs
                    have e87 := hs 87 (by decide)
                    have hc := hρ.const
                    have hf := hρ.func
                    have hg := hρ.glob
                    clear hs hρ
                    change ρ (.tmp 87) = _ at e87
                    obtain ⟨hE, ⟨hS1, hS2, hS3, hS4, hS5, hS6, hS7⟩⟩ := hC
                    refine Reg.step_plain rfl ?_
                    clear hf
                    go_simp
                    exact ⟨Reg.Ext.refl _, rfl⟩
                  refine Reg.wpAbs_nil ?_
                  intro w₁ hE hS
                  obtain ⟨hS1, hS2, hS3, hS4, hS5, hS6, hS7⟩ := hS
                  refine Reg.wpFin_fix _ rfl ?_
                  refine Reg.wpFin_fix _ rfl ?_
                  refine Reg.wpFin_fix _ rfl ?_
                  refine Reg.wpFin_fix _ rfl ?_
                  refine Reg.wpFin_fix _ rfl ?_
                  refine Reg.wpFin_fix _ rfl ?_
                  refine Reg.wpFin_fix _ rfl ?_
                  refine Reg.wpFin_fix _ rfl ?_
                  refine Reg.wpFin_fix _ rfl ?_
                  show _
                  simp only [Reg.wpFin, List.setIfInBounds_toArray, List.set_cons_succ, List.set_cons_zero]
                  have HE7 := Lib.hid (HE6.out.trans hE)
                  have HO7 := Lib.hid (ownsRow_ext HO6.out hE)
                  clear hE
                  go_upto_region 22 with fail
                  refine Reg.wp_region_seq (fun w => (w.cell? ⟨B0, 0, none⟩ = some (.int .i64 (k : Int))) ∧ (w.cell? ⟨B0, 1, none⟩ = some so) ∧ (w.cell? ⟨B0, 2, none⟩ = some (.slice la m lc)) ∧ (TopoV w (.agg #[.int .i64 (k : Int), so, .slice la m lc]) T) ∧ (Bools w u D) ∧ (w.cell? ⟨g, tn, none⟩ = some (.int .i64 oy)) ∧ (w.cell? ⟨g, hd, none⟩ = some (.int .i64 ox))) [88, 89, 90, 91, 92, 93, 94, 95, 96, 97, 98, 99, 100] (fun w w' hE h => ⟨hE.cell h.1, hE.cell h.2.1, hE.cell h.2.2.1, h.2.2.2.1.mono hE, h.2.2.2.2.1.mono hE, hE.cell h.2.2.2.2.2.1, hE.cell h.2.2.2.2.2.2⟩) (⟨by assumption, by assumption, by assumption, by assumption, by assumption, by assumption, by assumption⟩) (by kernel_rfl) ?_
                  refine Reg.wpAbs_ex ?_
                  apply Exists.intro
                  refine ⟨?_, ?_⟩
                  · intro ρ w₁ hρ hC hs
                    have e10 := hs 10 (by decide)
                    have hc := hρ.const
                    have hf := hρ.func
                    have hg := hρ.glob
                    clear hs hρ
                    change ρ (.tmp 10) = _ at e10
                    obtain ⟨hE, ⟨hS1, hS2, hS3, hS4, hS5, hS6, hS7⟩⟩ := hC
                    refine Reg.step_plain rfl ?_
                    clear hf
                    go_simp
                    exact ⟨Reg.Ext.refl _, rfl⟩
                  refine Reg.wpAbs_ex ?_
                  apply Exists.intro
                  refine ⟨?_, ?_⟩
                  · intro ρ w₁ hρ hC hs
                    have e14 := hs 14 (by decide)
                    have hc := hρ.const
                    have hf := hρ.func
                    have hg := hρ.glob
                    clear hs hρ
                    change ρ (.tmp 14) = _ at e14
                    obtain ⟨hE, ⟨hS1, hS2, hS3, hS4, hS5, hS6, hS7⟩⟩ := hC
                    refine Reg.step_plain rfl ?_
                    clear hf
                    go_simp
                    exact ⟨Reg.Ext.refl _, rfl⟩
                  refine Reg.wpAbs_ex ?_
                  apply Exists.intro
                  refine ⟨?_, ?_⟩
                  · intro ρ w₁ hρ hC hs
                    have e88 := hs 88 (by decide)
                    have e89 := hs 89 (by decide)
                    have hc := hρ.const
                    have hf := hρ.func
                    have hg := hρ.glob
                    clear hs hρ
                    change ρ (.tmp 88) = _ at e88
                    change ρ (.tmp 89) = _ at e89
                    obtain ⟨hE, ⟨hS1, hS2, hS3, hS4, hS5, hS6, hS7⟩⟩ := hC
                    refine Reg.step_plain rfl ?_
                    clear hf
                    go_simp
                    exact ⟨Reg.Ext.refl _, rfl⟩
                  refine Reg.wpAbs_ex ?_
                  apply Exists.intro
                  refine ⟨?_, ?_⟩
                  · intro ρ w₁ hρ hC hs
                    have e90 := hs 90 (by decide)
                    have hc := hρ.const
                    have hf := hρ.func
                    have hg := hρ.glob
                    clear hs hρ
                    change ρ (.tmp 90) = _ at e90
                    obtain ⟨hE, ⟨hS1, hS2, hS3, hS4, hS5, hS6, hS7⟩⟩ := hC
                    refine Reg.step_plain rfl ?_
                    clear hf
                    go_simp
                    exact ⟨Reg.Ext.refl _, rfl⟩
                  refine Reg.wpAbs_fix (.bool (q1)) ?_ ?_
                  · intro ρ w₁ hρ hC hs
                    have e91 := hs 91 (by decide)
                    have hc := hρ.const
                    have hf := hρ.func
                    have hg := hρ.glob
                    clear hs hρ
                    change ρ (.tmp 91) = _ at e91
                    obtain ⟨hE, ⟨hS1, hS2, hS3, hS4, hS5, hS6, hS7⟩⟩ := hC
                    refine Reg.step_plain rfl ?_
                    clear hf
                    go_simp
                    exact ⟨Reg.Ext.refl _, val_bool HQ1.out⟩
                  refine Reg.wpAbs_fix (.bool (q1)) ?_ ?_
                  · intro ρ w₁ hρ hC hs
                    have e92 := hs 92 (by decide)
                    have hc := hρ.const
                    have hf := hρ.func
                    have hg := hρ.glob
                    clear hs hρ
                    change ρ (.tmp 92) = _ at e92
                    obtain ⟨hE, ⟨hS1, hS2, hS3, hS4, hS5, hS6, hS7⟩⟩ := hC
                    refine Reg.step_plain rfl ?_
                    clear hf
                    go_simp
                    exact ⟨Reg.Ext.refl _, rfl⟩
                  refine Reg.wpAbs_exC (!q1) ?_
                  apply Exists.intro
                  refine ⟨?_, ?_⟩
                  · intro ρ w₁ hρ hC hs
                    have e16 := hs 16 (by decide)
                    have e93 := hs 93 (by decide)
                    have hc := hρ.const
                    have hf := hρ.func
                    have hg := hρ.glob
                    clear hs hρ
                    change ρ (.tmp 16) = _ at e16
                    change ρ (.tmp 93) = _ at e93
                    obtain ⟨hE, ⟨hS1, hS2, hS3, hS4, hS5, hS6, hS7⟩⟩ := hC
                    refine ⟨fun hgd => ⟨Reg.wanted_of (t := 93) rfl rfl (by rw [e93, show (q1) = false from Reg.of_not_true hgd]), ?_⟩, fun hgd => ?_⟩
                    · clear hf
                      go_simp
                      exact ⟨Reg.Ext.refl _, rfl⟩
                    · exact Reg.unwanted_of (t := 93) rfl rfl (.inl (by rw [e93, show (q1) = true from Reg.of_not_false hgd]; rfl))
                  refine Reg.wpAbs_exC (!q1) ?_
                  apply Exists.intro
                  refine ⟨?_, ?_⟩
                  · intro ρ w₁ hρ hC hs
                    have e10 := hs 10 (by decide)
                    have e93 := hs 93 (by decide)
                    have hc := hρ.const
                    have hf := hρ.func
                    have hg := hρ.glob
                    clear hs hρ
                    change ρ (.tmp 10) = _ at e10
                    change ρ (.tmp 93) = _ at e93
                    obtain ⟨hE, ⟨hS1, hS2, hS3, hS4, hS5, hS6, hS7⟩⟩ := hC
                    refine ⟨fun hgd => ⟨Reg.wanted_of (t := 93) rfl rfl (by rw [e93, show (q1) = false from Reg.of_not_true hgd]), ?_⟩, fun hgd => ?_⟩
                    · clear hf
                      go_simp
                      exact ⟨Reg.Ext.refl _, rfl⟩
                    · exact Reg.unwanted_of (t := 93) rfl rfl (.inl (by rw [e93, show (q1) = true from Reg.of_not_false hgd]; rfl))
                  refine Reg.wpAbs_exC (!q1) ?_
                  apply Exists.intro
                  refine ⟨?_, ?_⟩
                  · intro ρ w₁ hρ hC hs
                    have e14 := hs 14 (by decide)
                    have e93 := hs 93 (by decide)
                    have hc := hρ.const
                    have hf := hρ.func
                    have hg := hρ.glob
                    clear hs hρ
                    change ρ (.tmp 14) = _ at e14
                    change ρ (.tmp 93) = _ at e93
                    obtain ⟨hE, ⟨hS1, hS2, hS3, hS4, hS5, hS6, hS7⟩⟩ := hC
                    refine ⟨fun hgd => ⟨Reg.wanted_of (t := 93) rfl rfl (by rw [e93, show (q1) = false from Reg.of_not_true hgd]), ?_⟩, fun hgd => ?_⟩
                    · clear hf
                      go_simp
                      exact ⟨Reg.Ext.refl _, rfl⟩
                    · exact Reg.unwanted_of (t := 93) rfl rfl (.inl (by rw [e93, show (q1) = true from Reg.of_not_false hgd]; rfl))
                  refine Reg.wpAbs_exC (!q1) ?_
                  apply Exists.intro
                  refine ⟨?_, ?_⟩
                  · intro ρ w₁ hρ hC hs
                    have e95 := hs 95 (by decide)
                    have e96 := hs 96 (by decide)
                    have e93 := hs 93 (by decide)
                    have hc := hρ.const
                    have hf := hρ.func
                    have hg := hρ.glob
                    clear hs hρ
                    change ρ (.tmp 95) = _ at e95
                    change ρ (.tmp 96) = _ at e96
                    change ρ (.tmp 93) = _ at e93
                    obtain ⟨hE, ⟨hS1, hS2, hS3, hS4, hS5, hS6, hS7⟩⟩ := hC
                    refine ⟨fun hgd => ⟨Reg.wanted_of (t := 93) rfl rfl (by rw [e93, show (q1) = false from Reg.of_not_true hgd]), ?_⟩, fun hgd => ?_⟩
                    · rw [hgd] at e95
                      simp only [cond_true] at e95
                      rw [hgd] at e96
                      simp only [cond_true] at e96
                      clear hf
                      go_simp
                      exact ⟨Reg.Ext.refl _, rfl⟩
                    · exact Reg.unwanted_of (t := 93) rfl rfl (.inl (by rw [e93, show (q1) = true from Reg.of_not_false hgd]; rfl))
                  refine Reg.wpAbs_exC (!q1) ?_
                  apply Exists.intro
                  refine ⟨?_, ?_⟩
                  · intro ρ w₁ hρ hC hs
                    have e97 := hs 97 (by decide)
                    have e93 := hs 93 (by decide)
                    have hc := hρ.const
                    have hf := hρ.func
                    have hg := hρ.glob
                    clear hs hρ
                    change ρ (.tmp 97) = _ at e97
                    change ρ (.tmp 93) = _ at e93
                    obtain ⟨hE, ⟨hS1, hS2, hS3, hS4, hS5, hS6, hS7⟩⟩ := hC
                    refine ⟨fun hgd => ⟨Reg.wanted_of (t := 93) rfl rfl (by rw [e93, show (q1) = false from Reg.of_not_true hgd]), ?_⟩, fun hgd => ?_⟩
                    · rw [hgd] at e97
                      simp only [cond_true] at e97
                      clear hf
                      go_simp
                      exact ⟨Reg.Ext.refl _, rfl⟩
                    · exact Reg.unwanted_of (t := 93) rfl rfl (.inl (by rw [e93, show (q1) = true from Reg.of_not_false hgd]; rfl))
                  refine Reg.wpAbs_exC (!q1) ?_
                  refine ⟨.bool (q2), ?_, ?_⟩
                  · intro ρ w₁ hρ hC hs
                    have e94 := hs 94 (by decide)
                    have e98 := hs 98 (by decide)
                    have e93 := hs 93 (by decide)
                    have hc := hρ.const
                    have hf := hρ.func
                    have hg := hρ.glob
                    clear hs hρ
                    change ρ (.tmp 94) = _ at e94
                    change ρ (.tmp 98) = _ at e98
                    change ρ (.tmp 93) = _ at e93
                    obtain ⟨hE, ⟨hS1, hS2, hS3, hS4, hS5, hS6, hS7⟩⟩ := hC
                    refine ⟨fun hgd => ⟨Reg.wanted_of (t := 93) rfl rfl (by rw [e93, show (q1) = false from Reg.of_not_true hgd]), ?_⟩, fun hgd => ?_⟩
                    · rw [hgd] at e94
                      simp only [cond_true] at e94
                      rw [hgd] at e98
                      simp only [cond_true] at e98
                      clear hf
                      go_simp
                      exact ⟨Reg.Ext.refl _, val_bool HQ2.out⟩
                    · exact Reg.unwanted_of (t := 93) rfl rfl (.inl (by rw [e93, show (q1) = true from Reg.of_not_false hgd]; rfl))
                  refine Reg.wpAbs_fix (.bool (q1 || q2)) ?_ ?_
                  · intro ρ w₁ hρ hC hs
                    have e93 := hs 93 (by decide)
                    have e99 := hs 99 (by decide)
                    have hc := hρ.const
                    have hf := hρ.func
                    have hg := hρ.glob
                    clear hs hρ
                    change ρ (.tmp 93) = _ at e93
                    change ρ (.tmp 99) = _ at e99
                    obtain ⟨hE, ⟨hS1, hS2, hS3, hS4, hS5, hS6, hS7⟩⟩ := hC
                    refine Reg.step_plain rfl ?_
                    rcases Bool.eq_false_or_eq_true (q1) with hb | hb
                    · rw [hb] at e93
                      clear e99
                      clear hf
                      go_simp
                      exact ⟨Reg.Ext.refl _, by first | rfl | simp | simp [hb]⟩
                    · rw [hb] at e93
                      rw [show (!q1) = true by simp [hb]] at e99
                      simp only [cond_true] at e99
                      clear hf
                      go_simp
                      exact ⟨Reg.Ext.refl _, by first | rfl | simp | simp [hb]⟩
                  refine Reg.wpAbs_nil ?_
                  intro w₁ hE hS
                  obtain ⟨hS1, hS2, hS3, hS4, hS5, hS6, hS7⟩ := hS
                  refine Reg.wpFin_fix _ rfl ?_
                  refine Reg.wpFin_fix _ rfl ?_
                  refine Reg.wpFin_fix _ rfl ?_
                  refine Reg.wpFin_fix _ rfl ?_
                  refine Reg.wpFin_fix _ rfl ?_
                  refine Reg.wpFin_fix _ rfl ?_
                  refine Reg.wpFin_drop (fun x94 => ?_)
                  refine Reg.wpFin_drop (fun x95 => ?_)
                  refine Reg.wpFin_drop (fun x96 => ?_)
                  refine Reg.wpFin_drop (fun x97 => ?_)
                  refine Reg.wpFin_drop (fun x98 => ?_)
                  refine Reg.wpFin_drop (fun x99 => ?_)
                  refine Reg.wpFin_fix _ rfl ?_
                  show _
                  simp only [Reg.wpFin, List.setIfInBounds_toArray, List.set_cons_succ, List.set_cons_zero]
                  have HE8 := Lib.hid (HE7.out.trans hE)
                  have HO8 := Lib.hid (ownsRow_ext HO7.out hE)
                  have hfr := HO8.out.frozenAt hd
                  clear hE hwr
                  rcases Bool.eq_false_or_eq_true (q1 || q2) with hz | hz
                  · rw [hz]
                    have HG := Lib.hid (show Gains T D n true out' j from ⟨HWay.out, by
                      rw [HX.out, HY.out, AX.out, AY.out, HC.out]
                      rcases Bool.or_eq_true_iff.1 hz with h | h
                      · exact .inl (by have := HQ1.out.trans h; simpa using this)
                      · exact .inr (by have := HQ2.out.trans h; simpa using this)⟩)
                    have HGI := Lib.hid (gain_inv HT.out HI3.out j (by rw [HM.out]; exact hlt) HG.out)
                    have HGE := Lib.hid (show gain T true out' j = out'.set hd (oy + c) by unfold gain; rw [HX.out, HY.out, AY.out, HC.out, Int.toNat_natCast])
                    clear hz
                    go_wp2_with fail
                    obtain ⟨a1, a2⟩ := own_set HO8.out hd (oy + c) HE8.out hgw
                    rw [← HGE.out] at a1
                    have A3 := Lib.hid a1
                    have A4 := Lib.hid a2
                    clear a1 a2
                    go_roundw
                    case rel => exact ⟨j + 1, gain T true out' j, true, by omega, by go_num, rfl, A3.out, A4.out, HGI.out.1, fun e => by (cases e), fun _ => by
                      have h1 := HGI.out.2
                      cases b' with
                      | false => rw [(HNo.out rfl).1] at h1 ⊢; exact h1
                      | true => exact Nat.lt_trans h1 (HYes.out rfl)⟩
                    case measure => simp [intOf]; omega
                  · rw [hz]
                    have HG := Lib.hid (show ¬ Gains T D n true out' j by
                      rintro ⟨-, hg⟩
                      rw [HX.out, HY.out, AX.out, AY.out, HC.out] at hg
                      obtain ⟨h1, h2⟩ := Bool.or_eq_false_iff.1 hz
                      have h3 := HQ1.out.trans h1
                      have h4 := HQ2.out.trans h2
                      simp at h3 h4
                      omega)
                    clear hz
                    go_wp2_with fail
                    go_roundw
                    case rel => exact ⟨j + 1, out', b', by omega, by go_num, rfl, HO8.out, HE8.out, HI3.out, fun e => ⟨(HNo.out e).1, fun a ha => if h : a = j then by rw [h, ← (HNo.out e).1]; exact HG.out else (HNo.out e).2 a (by omega)⟩, HYes.out⟩
                    case measure => simp [intOf]; omega
            · obtain rfl : j = 2 * m := by omega
              clear hown
              go_wp2_with fail
              go_roundg (2 * mu out' + if b' then 1 else 0)
              case rel => exact ⟨out', b', rfl, HO3.out, HW3.out, HI3.out, fun e => by rw [(HNo.out e).1, HM.out]; exact (HNo.out e).2, rfl⟩
              case measure => cases b' with
                | false => rw [(HNo.out rfl).1, HGk.out]; simp
                | true => have := HYes.out rfl; rw [HGk.out]; simp; omega

end Net
end Go.Proofs.YtkaalpdfppbdeaaDoor
