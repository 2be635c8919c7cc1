/- The contracts of small functions of the references of layers 9 and 11: Overloaded, Out, SameInts, Fits, Up, transit. -/
import Derived.Test.YtkaalpdfppbdeaaDoorOut
namespace Go.Proofs.YtkaalpdfppbdeaaDoor
namespace Net
open Go.ChangeShapes Go.WideShapes Go.ChangeAt Go.RowKit
open Reg Mem

theorem over_ge (T : Topo) (n : Nat) (h : ¬ n < T.over.length) : false = overN T n := by
  unfold overN; rw [List.getD_eq_getElem?_getD, List.getElem?_eq_none (by omega)]; rfl

set_option maxHeartbeats 1000000 in
theorem rover_any {T : Topo} {v : Value} {w : World} (h : TopoV w v T) (hv : validB T = true) (n : Nat) : Calls Tryd.prog 82 #[v, .int .i64 n] w (Ret (fun x _ => x = .bool (overN T n)) w) := by
  have H := Lib.hid h
  have HV := Lib.hid hv
  obtain ⟨so, sl, rfl, h1, h2⟩ := h
  obtain ⟨oa, oc, rfl, ho1, ho2⟩ := row_slice h1
  by_cases hn : n < T.over.length
  · obtain ⟨b, off, c, hb, _, _, hcell⟩ := row_addr h1 (by omega)
    simp only [Value.slice.injEq, true_and] at hb
    obtain ⟨rfl, rfl⟩ := hb
    have k := bool_cell hcell n hn
    have HR := Lib.hid (show T.over.getD n false = overN T n from rfl)
    clear h1 h2 hcell hv
    go_enter Tryd.func82, Tryd.ntmps82
    go_wp2_with fail
    refine (rvalid_any (T := T) (H.out.mono ((Ext.refl _).alloc _))).mono ?_
    rintro e w1 ⟨x, rfl, hE, rfl⟩
    rw [HV.out]
    have b1 := hE.cell (p := ⟨w.heap.size, 1, none⟩) (v := .slice (some ⟨b, off, none⟩) T.over.length oc) (by simp [go_sem])
    have e0 := (((Ext.refl w).alloc _).trans hE).cell k
    clear k
    generalize T.over.getD n false = x at *
    generalize T.over.length = m at *
    go_wp2_with fail
    go_ret
    exact ⟨_, rfl, ((Ext.refl _).alloc _).trans hE, val_bool HR.out⟩
  · have HR := Lib.hid (over_ge T n hn)
    have hd : decide (n < T.over.length) = false := by simpa using hn
    clear h1 h2 hv
    go_enter Tryd.func82, Tryd.ntmps82
    go_wp2_with fail
    refine (rvalid_any (T := T) (H.out.mono ((Ext.refl _).alloc _))).mono ?_
    rintro e w1 ⟨x, rfl, hE, rfl⟩
    rw [HV.out]
    have b1 := hE.cell (p := ⟨w.heap.size, 1, none⟩) (v := .slice oa T.over.length oc) (by simp [go_sem])
    generalize T.over.length = m at *
    go_wp2_with fail
    go_ret
    exact ⟨_, rfl, ((Ext.refl _).alloc _).trans hE, val_bool HR.out⟩

set_option maxHeartbeats 1000000 in
theorem rfits_any {T : Topo} {v u : Value} {w : World} {D : List Bool} (h : TopoV w v T) (hD : Bools w u D) : Calls Tryd.prog 33 #[v, u] w (Ret (fun x _ => x = .bool (validB T && fitsB T D)) w) := by
  have H := Lib.hid h
  obtain ⟨so, sl, rfl, h1, h2⟩ := h
  obtain ⟨la, lc, rfl, hl1, hl2⟩ := row_slice h2
  obtain ⟨a, c, rfl, hc⟩ := row_slice hD
  clear hD h1 h2
  rcases Bool.eq_false_or_eq_true (validB T) with hv | hv
  · have HV := Lib.hid hv
    have hbd := (valid_bd hv).2.2.1
    have HR := Lib.hid (show fitsB T D = (validB T && fitsB T D) by rw [hv]; rfl)
    clear hv
    by_cases h0 : D.length = 0
    · have HF := Lib.hid (show true = fitsB T D by simp [fitsB, h0])
      rw [h0]
      clear h0
      go_enter Tryd.func33, Tryd.ntmps33
      go_wp2_with fail
      refine (rvalid_any (T := T) (H.out.mono ((Ext.refl _).alloc _))).mono ?_
      rintro e w1 ⟨x, rfl, hE, rfl⟩
      rw [HV.out]
      go_wp2_with fail
      go_ret
      exact ⟨_, rfl, ((Ext.refl _).alloc _).trans hE, val_bool (HF.out.trans HR.out)⟩
    · have HF := Lib.hid (show ((D.length : Int) == 2 * (T.links.length : Int)) = fitsB T D by
        unfold fitsB
        rw [Bool.eq_iff_iff, beq_iff_eq, decide_eq_true_iff]
        omega)
      have hd : ((D.length : Int) == 0) = false := by rw [beq_eq_false_iff_ne]; omega
      generalize D.length = m at *
      go_enter Tryd.func33, Tryd.ntmps33
      go_wp2_with fail
      refine (rvalid_any (T := T) (H.out.mono ((Ext.refl _).alloc _))).mono ?_
      rintro e w1 ⟨x, rfl, hE, rfl⟩
      rw [HV.out]
      have b2 := hE.cell (p := ⟨w.heap.size, 2, none⟩) (v := .slice la T.links.length lc) (by simp [go_sem])
      go_wp2_with fail
      go_ret
      exact ⟨_, rfl, ((Ext.refl _).alloc _).trans hE, val_bool (HF.out.trans HR.out)⟩
  · have HV := Lib.hid hv
    have HR := Lib.hid (show false = (validB T && fitsB T D) by rw [hv]; rfl)
    clear hv
    go_enter Tryd.func33, Tryd.ntmps33
    go_wp2_with fail
    refine (rvalid_any (T := T) (H.out.mono ((Ext.refl _).alloc _))).mono ?_
    rintro e w1 ⟨x, rfl, hE, rfl⟩
    rw [HV.out]
    go_wp2_with fail
    go_ret
    exact ⟨_, rfl, ((Ext.refl _).alloc _).trans hE, val_bool HR.out⟩

set_option maxHeartbeats 400000 in
theorem rup_any {u : Value} {w : World} {D : List Bool} (hD : Bools w u D) (a : Nat) (ha : D.length = 0 ∨ a < D.length) : Calls Tryd.prog 23 #[u, .int .i64 a] w (Ret (fun x _ => x = .bool (!downN D a)) w) := by
  by_cases h0 : D.length = 0
  · obtain ⟨x, c, rfl, hc⟩ := row_slice hD
    have HR := Lib.hid (show true = !downN D a by simp [downN, List.length_eq_zero_iff.1 h0])
    clear hD ha
    rw [h0]
    clear h0
    go_enter Tryd.func23, Tryd.ntmps23
    go_wp2
    go_ret
    exact ⟨_, rfl, Ext.refl _, val_bool HR.out⟩
  · have ha' : a < D.length := ha.resolve_left h0
    obtain ⟨b, off, c, rfl, hc1, hc2, hcell⟩ := row_addr hD (by omega)
    have k := bool_cell hcell a ha'
    clear hD hcell ha
    have hd : ((D.length : Int) == 0) = false := by rw [beq_eq_false_iff_ne]; omega
    have HR := Lib.hid (show (!D.getD a false) = !downN D a from rfl)
    generalize D.getD a false = x at *
    generalize D.length = m at *
    go_enter Tryd.func23, Tryd.ntmps23
    go_wp2
    go_ret
    exact ⟨_, rfl, Ext.refl _, val_bool HR.out⟩

set_option maxHeartbeats 400000 in
theorem rtransit_any {T : Topo} {v : Value} {w : World} (h : TopoV w v T) (hv : validB T = true) (n d : Nat) : Calls Tryd.prog 73 #[v, .int .i64 n, .int .i64 d] w (Ret (fun x _ => x = .bool (decide (n = d) || !overN T n)) w) := by
  have H := Lib.hid h
  have HV := Lib.hid hv
  obtain ⟨so, sl, rfl, h1, h2⟩ := h
  clear h1 h2 hv
  by_cases hnd : n = d
  · subst hnd
    have HR := Lib.hid (show true = (decide (n = n) || !overN T n) by simp)
    go_enter Tryd.func73, Tryd.ntmps73
    go_wp2_with fail
    go_ret
    exact ⟨_, rfl, (Ext.refl _).alloc _, val_bool HR.out⟩
  · have HR := Lib.hid (show (!overN T n) = (decide (n = d) || !overN T n) by simp [hnd])
    have hq : ((n : Int) == (d : Int)) = false := by rw [beq_eq_false_iff_ne]; omega
    clear hnd
    go_enter Tryd.func73, Tryd.ntmps73
    go_wp2_with fail
    refine (rover_any (T := T) (H.out.mono ((Ext.refl _).alloc _)) HV.out n).mono ?_
    rintro e w1 ⟨x, rfl, hE, rfl⟩
    go_wp2_with fail
    go_ret
    exact ⟨_, rfl, ((Ext.refl _).alloc _).trans hE, val_bool HR.out⟩

/-- Lists of numbers are equal. -/
def sameB (L M : List Int) : Bool := decide (L = M)
theorem same_len (L M : List Int) (h : L.length ≠ M.length) : false = sameB L M := by
  unfold sameB; symm; exact decide_eq_false fun e => h (by rw [e])
theorem same_at (L M : List Int) (k : Nat) (h : L.getD k 0 ≠ M.getD k 0) : false = sameB L M := by
  unfold sameB; symm; exact decide_eq_false fun e => h (by rw [e])
theorem same_all (L M : List Int) (hM : M.length = L.length) (h : ∀ i, i < L.length → L.getD i 0 = M.getD i 0) : true = sameB L M := by
  unfold sameB; symm
  refine decide_eq_true (List.ext_getElem hM.symm fun i h1 h2 => ?_)
  have := h i h1
  simpa [h1, h2] using this

set_option maxHeartbeats 1000000 in
theorem sameInts_any {u v : Value} {w : World} {L M : List Int} (hL : IntsV w u L) (hM : IntsV w v M) : Calls Tryd.prog 36 #[u, v] w (Ret (fun x _ => x = .bool (sameB L M)) w) := by
  have HL := Lib.hid hL
  have HM := Lib.hid hM
  obtain ⟨a1, c1, rfl, hc1, hd1⟩ := row_slice hL
  obtain ⟨a2, c2, rfl, hc2, hd2⟩ := row_slice hM
  clear hL hM
  by_cases hlen : L.length = M.length
  · rw [← hlen] at hc2 hd2 ⊢
    have HN := Lib.hid hlen.symm
    clear hlen
    obtain ⟨m, hm⟩ : ∃ m, L.length = m := ⟨_, rfl⟩
    have HK := Lib.hid hm
    rw [hm] at hc1 hd1 hc2 hd2 ⊢
    clear hm
    go_enter Tryd.func36, Tryd.ntmps36
    go_wp2_with fail
    go_loopw [5] (fun i wr => ∃ k : Nat, k ≤ m ∧ i = .int .i64 k ∧ (∀ j, j < k → L.getD j 0 = M.getD j 0) ∧ Ext w wr) (fun i _ => m - (intOf i).toNat)
    case atStart => exact ⟨0, by omega, rfl, fun j hj => by omega, Ext.refl _⟩
    case round =>
      obtain ⟨k, hk, rfl, ha, hEw⟩ := hrel
      have HA := Lib.hid ha
      have HE := Lib.hid hEw
      clear ha hEw
      by_cases hlt : k < m
      · obtain ⟨b, off, c', e1, _, _, hx⟩ := row_addr HL.out (by rw [HK.out]; omega)
        simp only [Value.slice.injEq] at e1
        obtain ⟨rfl, _, rfl⟩ := e1
        obtain ⟨b', off', c'', e2, _, _, hy⟩ := row_addr HM.out (by rw [HN.out, HK.out]; omega)
        simp only [Value.slice.injEq] at e2
        obtain ⟨rfl, _, rfl⟩ := e2
        have gx := HE.out.cell (hx k _ (ints_at L k (by rw [HK.out]; exact hlt)))
        have gy := HE.out.cell (hy k _ (ints_at M k (by rw [HN.out, HK.out]; exact hlt)))
        clear hx hy
        have HF := Lib.hid (same_at L M k)
        obtain ⟨x, hx⟩ : ∃ x, L.getD k 0 = x := ⟨_, rfl⟩
        obtain ⟨y, hy⟩ : ∃ x, M.getD k 0 = x := ⟨_, rfl⟩
        rw [hx] at gx
        rw [hy] at gy
        have HX := Lib.hid hx
        have HY := Lib.hid hy
        have hk0 : (0 : Int) ≤ (k : Int) := by omega
        have hk1 : (k : Int) < (m : Int) := by omega
        clear hx hy
        go_upto_region 6 with fail
        refine Reg.wp_region_abs (fun w => (w.cell? ⟨b, off + k, none⟩ = some (.int .i64 x)) ∧ (w.cell? ⟨b', off' + k, none⟩ = some (.int .i64 y))) [17, 18, 19, 20, 21, 22, 23, 24, 25] (fun w w' hE h => ⟨hE.cell h.1, hE.cell h.2⟩) (⟨by assumption, by assumption⟩) (by kernel_rfl) (by kernel_rfl) (by kernel_rfl) ?_
        refine Reg.wpAbs_ex ?_
        apply Exists.intro
        refine ⟨?_, ?_⟩
        · intro ρ w₁ hρ hC hs
          have e0 := hs 0 (by decide)
          have hc := hρ.const
          have hf := hρ.func
          have hg := hρ.glob
          clear hs hρ
          change ρ (.tmp 0) = _ at e0
          obtain ⟨hE, ⟨hS1, hS2⟩⟩ := hC
          refine Reg.step_plain rfl ?_
          clear hf
          go_simp
          exact ⟨Reg.Ext.refl _, rfl⟩
        refine Reg.wpAbs_ex ?_
        apply Exists.intro
        refine ⟨?_, ?_⟩
        · intro ρ w₁ hρ hC hs
          have e5 := hs 5 (by decide)
          have hc := hρ.const
          have hf := hρ.func
          have hg := hρ.glob
          clear hs hρ
          change ρ (.tmp 5) = _ at e5
          obtain ⟨hE, ⟨hS1, hS2⟩⟩ := hC
          refine Reg.step_plain rfl ?_
          clear hf
          go_simp
          exact ⟨Reg.Ext.refl _, rfl⟩
        refine Reg.wpAbs_ex ?_
        apply Exists.intro
        refine ⟨?_, ?_⟩
        · intro ρ w₁ hρ hC hs
          have e17 := hs 17 (by decide)
          have e18 := hs 18 (by decide)
          have hc := hρ.const
          have hf := hρ.func
          have hg := hρ.glob
          clear hs hρ
          change ρ (.tmp 17) = _ at e17
          change ρ (.tmp 18) = _ at e18
          obtain ⟨hE, ⟨hS1, hS2⟩⟩ := hC
          refine Reg.step_plain rfl ?_
          clear hf
          go_simp
          exact ⟨Reg.Ext.refl _, rfl⟩
        refine Reg.wpAbs_ex ?_
        apply Exists.intro
        refine ⟨?_, ?_⟩
        · intro ρ w₁ hρ hC hs
          have e19 := hs 19 (by decide)
          have hc := hρ.const
          have hf := hρ.func
          have hg := hρ.glob
          clear hs hρ
          change ρ (.tmp 19) = _ at e19
          obtain ⟨hE, ⟨hS1, hS2⟩⟩ := hC
          refine Reg.step_plain rfl ?_
          clear hf
          go_simp
          exact ⟨Reg.Ext.refl _, rfl⟩
        refine Reg.wpAbs_ex ?_
        apply Exists.intro
        refine ⟨?_, ?_⟩
        · intro ρ w₁ hρ hC hs
          have e1 := hs 1 (by decide)
          have hc := hρ.const
          have hf := hρ.func
          have hg := hρ.glob
          clear hs hρ
          change ρ (.tmp 1) = _ at e1
          obtain ⟨hE, ⟨hS1, hS2⟩⟩ := hC
          refine Reg.step_plain rfl ?_
          clear hf
          go_simp
          exact ⟨Reg.Ext.refl _, rfl⟩
        refine Reg.wpAbs_ex ?_
        apply Exists.intro
        refine ⟨?_, ?_⟩
        · intro ρ w₁ hρ hC hs
          have e5 := hs 5 (by decide)
          have hc := hρ.const
          have hf := hρ.func
          have hg := hρ.glob
          clear hs hρ
          change ρ (.tmp 5) = _ at e5
          obtain ⟨hE, ⟨hS1, hS2⟩⟩ := hC
          refine Reg.step_plain rfl ?_
          clear hf
          go_simp
          exact ⟨Reg.Ext.refl _, rfl⟩
        refine Reg.wpAbs_ex ?_
        apply Exists.intro
        refine ⟨?_, ?_⟩
        · intro ρ w₁ hρ hC hs
          have e21 := hs 21 (by decide)
          have e22 := hs 22 (by decide)
          have hc := hρ.const
          have hf := hρ.func
          have hg := hρ.glob
          clear hs hρ
          change ρ (.tmp 21) = _ at e21
          change ρ (.tmp 22) = _ at e22
          obtain ⟨hE, ⟨hS1, hS2⟩⟩ := hC
          refine Reg.step_plain rfl ?_
          clear hf
          go_simp
          exact ⟨Reg.Ext.refl _, rfl⟩
        refine Reg.wpAbs_ex ?_
        apply Exists.intro
        refine ⟨?_, ?_⟩
        · intro ρ w₁ hρ hC hs
          have e23 := hs 23 (by decide)
          have hc := hρ.const
          have hf := hρ.func
          have hg := hρ.glob
          clear hs hρ
          change ρ (.tmp 23) = _ at e23
          obtain ⟨hE, ⟨hS1, hS2⟩⟩ := hC
          refine Reg.step_plain rfl ?_
          clear hf
          go_simp
          exact ⟨Reg.Ext.refl _, rfl⟩
        refine Reg.wpAbs_ex ?_
        apply Exists.intro
        refine ⟨?_, ?_⟩
        · intro ρ w₁ hρ hC hs
          have e20 := hs 20 (by decide)
          have e24 := hs 24 (by decide)
          have hc := hρ.const
          have hf := hρ.func
          have hg := hρ.glob
          clear hs hρ
          change ρ (.tmp 20) = _ at e20
          change ρ (.tmp 24) = _ at e24
          obtain ⟨hE, ⟨hS1, hS2⟩⟩ := hC
          refine Reg.step_plain rfl ?_
          clear hf
          go_simp
          exact ⟨Reg.Ext.refl _, rfl⟩
        refine Reg.wpAbs_nil ?_
        intro w₁ hE hS
        obtain ⟨hS1, hS2⟩ := hS
        refine Reg.wpFin_fix _ rfl ?_
        refine Reg.wpFin_fix _ rfl ?_
        refine Reg.wpFin_fix _ rfl ?_
        refine Reg.wpFin_fix _ rfl ?_
        refine Reg.wpFin_fix _ rfl ?_
        refine Reg.wpFin_fix _ rfl ?_
        refine Reg.wpFin_fix _ rfl ?_
        refine Reg.wpFin_fix _ rfl ?_
        refine Reg.wpFin_fix _ rfl ?_
        show _
        simp only [Reg.wpFin, List.setIfInBounds_toArray, List.set_cons_succ, List.set_cons_zero]
        rcases Bool.eq_false_or_eq_true (x != y) with hq | hq
        · rw [hq]
          have HR := Lib.hid (HF.out (by rw [HX.out, HY.out]; simpa using hq))
          go_wp2_with fail
          go_ret
          exact ⟨_, rfl, HE.out.trans hE, val_bool HR.out⟩
        · rw [hq]
          have HR := Lib.hid (show L.getD k 0 = M.getD k 0 by rw [HX.out, HY.out]; simpa using hq)
          go_wp2_with fail
          go_roundw
          case rel => exact ⟨k + 1, by omega, by go_num, fun j hj => by
            rcases Nat.lt_succ_iff_lt_or_eq.1 hj with h | rfl
            · exact HA.out j h
            · exact HR.out, HE.out.trans hE⟩
          case measure => simp [intOf]; omega
      · have HR := Lib.hid (same_all L M HN.out (fun i hi => HA.out i (by rw [HK.out] at hi; omega)))
        go_wp2_with fail
        go_ret
        exact ⟨_, rfl, HE.out, val_bool HR.out⟩
  · have HR := Lib.hid (same_len L M hlen)
    have hq : ((L.length : Int) != (M.length : Int)) = true := by rw [bne_iff_ne]; omega
    generalize L.length = m at *
    generalize M.length = m' at *
    go_enter Tryd.func36, Tryd.ntmps36
    go_wp2_with fail
    go_ret
    exact ⟨_, rfl, Ext.refl _, val_bool HR.out⟩

theorem rtail_nat (T : Topo) (k : Nat) (hk : k < 2 * T.links.length) : rtail T (k : Int) = tailN T k := by
  unfold rtail; rw [if_pos ⟨by omega, by omega⟩]; rfl

set_option maxHeartbeats 1000000 in
theorem rout_any {T : Topo} {v : Value} {w : World} (h : TopoV w v T) (hv : validB T = true) (n : Int) : Calls Tryd.prog 35 #[v, .int .i64 n] w (Ret (fun x w' => IntsV w' x (outL T n)) w) := by
  have H := Lib.hid h
  have HV := Lib.hid hv
  have hm := (valid_bd hv).2.2.1
  obtain ⟨so, sl, rfl, h1, h2⟩ := h
  clear h1 h2 hv
  obtain ⟨m, hmm⟩ : ∃ m, T.links.length = m := ⟨_, rfl⟩
  have HM := Lib.hid hmm
  rw [hmm] at hm
  clear hmm
  go_enter Tryd.func35, Tryd.ntmps35
  go_wp2_with fail
  have b0 : (w.alloc (.cells #[.int .i64 T.nodes, so, sl] 25)).cell? ⟨w.heap.size, 0, none⟩ = some (.int .i64 T.nodes) := by simp [go_sem]
  have b1 : (w.alloc (.cells #[.int .i64 T.nodes, so, sl] 25)).cell? ⟨w.heap.size, 1, none⟩ = some so := by simp [go_sem]
  have b2 : (w.alloc (.cells #[.int .i64 T.nodes, so, sl] 25)).cell? ⟨w.heap.size, 2, none⟩ = some sl := by simp [go_sem]
  have HE := Lib.hid (show Ext w (w.alloc (.cells #[.int .i64 T.nodes, so, sl] 25)) from (Ext.refl w).alloc _)
  obtain ⟨w1, hw1⟩ : ∃ x, w.alloc (.cells #[.int .i64 T.nodes, so, sl] 25) = x := ⟨_, rfl⟩
  rw [hw1] at b0 b1 b2 HE ⊢
  clear hw1
  go_loopw [5, 6] (fun v i wr => ∃ k : Nat, k ≤ 2 * m ∧ i = .int .i64 k ∧ wr.ownsRow w1.heap.size 3 1 v (outTo T n k).length (ints (outTo T n k)) ∧ Ext w1 wr) (fun _ i _ => 2 * m - (intOf i).toNat)
  case atStart => exact ⟨0, by omega, rfl, World.ownsRow_nil _ _ _ _, Ext.refl _⟩
  case round =>
    obtain ⟨k, hk, rfl, hown, hEw⟩ := hrel
    have HO := Lib.hid hown
    have HW := Lib.hid hEw
    have c0 := hEw.cell b0
    have c1 := hEw.cell b1
    have c2 := hEw.cell b2
    clear hown hEw
    go_wp2_with fail
    refine (rarcs_any (T := T) (H.out.mono (HE.out.trans HW.out)) HV.out).mono ?_
    rintro e w2 ⟨x, rfl, hE2, rfl⟩
    rw [HM.out]
    have HO2 := Lib.hid (ownsRow_ext HO.out hE2)
    have HW2 := Lib.hid (HW.out.trans hE2)
    have d0 := hE2.cell c0
    have d1 := hE2.cell c1
    have d2 := hE2.cell c2
    clear hE2 c0 c1 c2
    by_cases hlt : k < 2 * m
    · go_wp2_with fail
      refine (rtail_any (T := T) (H.out.mono (HE.out.trans HW2.out)) HV.out k).mono ?_
      rintro e w3 ⟨x, rfl, hE3, rfl⟩
      rw [rtail_nat T k (by rw [HM.out]; exact hlt)]
      have HO3 := Lib.hid (ownsRow_ext HO2.out hE3)
      have HW3 := Lib.hid (HW2.out.trans hE3)
      clear hE3
      have hlen := outTo_len T n k
      rcases Bool.eq_false_or_eq_true (tailN T k == n) with hq | hq
      · have HS := Lib.hid (outTo_yes T n k hq)
        have HOa := Lib.hid (HO3.out.alloc (.cells #[.int .i64 (k : Int)] 3))
        have HWa := Lib.hid (HW3.out.alloc (.cells #[.int .i64 (k : Int)] 3))
        go_wp2_with (at_builtin; refine wpList_append_row rfl (.tmp 18) (.tmp 20) 29 rfl w1.heap.size 3 Tryd.underlying29 info_int rfl (by decide) rfl HOa.out rfl (Row.lit 3 (.int .i64 (k : Int))) (by simp) (by simp [Value.oneCell']) (by unfold maxLen; omega) (by omega) HWa.out.size ?_)
        intro v4 w4 hown4 hg4
        have HO4 := Lib.hid (show w4.ownsRow w1.heap.size 3 1 v4 (outTo T n (k + 1)).length (ints (outTo T n (k + 1))) by
          rw [HS.out, List.length_append, ← ints_append]; exact hown4)
        have HW4 := Lib.hid (grown_below HWa.out HOa.out (Nat.le_refl _) HWa.out.size hg4)
        clear hown4 hg4
        go_wp2_with fail
        go_roundw
        case rel => exact ⟨k + 1, by omega, by go_num, HO4.out, HW4.out⟩
        case measure => simp [intOf]; omega
      · have HS := Lib.hid (outTo_no T n k hq)
        go_wp2_with fail
        go_roundw
        case rel => exact ⟨k + 1, by omega, by go_num, by rw [HS.out]; exact HO3.out, HW3.out⟩
        case measure => simp [intOf]; omega
    · obtain rfl : k = 2 * m := by omega
      have HF := Lib.hid (show outTo T n (2 * m) = outL T n by unfold outL; rw [HM.out])
      go_wp2_with fail
      go_ret
      exact ⟨_, rfl, HE.out.trans HW2.out, by rw [← HF.out]; exact IntsV.owns HO2.out rfl⟩

end Net
end Go.Proofs.YtkaalpdfppbdeaaDoor
