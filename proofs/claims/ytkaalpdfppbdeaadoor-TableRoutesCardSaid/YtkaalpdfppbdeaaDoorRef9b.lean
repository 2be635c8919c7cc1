/- The contracts of the reference of layer 9, for valid topologies: Arcs, Tail, Head, Cost, Overloaded. -/
import Derived.Test.YtkaalpdfppbdeaaDoorRef9
namespace Go.Proofs.YtkaalpdfppbdeaaDoor
namespace Net
open Go.ChangeShapes Go.WideShapes Go.ChangeAt Go.RowKit
open Reg Mem

theorem valid_bd {T : Topo} (h : validB T = true) : 1 ≤ T.nodes ∧ T.nodes ≤ 64 ∧ T.links.length ≤ 256 ∧ (T.over.length = 0 ∨ (T.over.length : Int) = T.nodes) := by
  unfold validB at h
  simp only [Bool.and_eq_true, Bool.or_eq_true, decide_eq_true_eq] at h
  obtain ⟨⟨⟨h1, h2⟩, h3⟩, _⟩ := h
  have := bd_of_within h1
  exact ⟨this.1, this.2, h2, h3⟩
theorem valid_link {T : Topo} (h : validB T = true) (i : Nat) (hi : i < T.links.length) : linkOK T (lnk T.links i) = true := by
  unfold validB at h
  simp only [Bool.and_eq_true] at h
  exact List.all_eq_true.1 h.2 _ (by simp [lnk, hi])

set_option maxHeartbeats 400000 in
theorem rarcs_any {T : Topo} {v : Value} {w : World} (h : TopoV w v T) (hv : validB T = true) : Calls Tryd.prog 55 #[v] w (Ret (fun x _ => x = .int .i64 (2 * (T.links.length : Int))) w) := by
  have H := Lib.hid h
  have HV := Lib.hid hv
  have hbd := (valid_bd hv).2.2.1
  obtain ⟨so, sl, rfl, h1, h2⟩ := h
  obtain ⟨la, lc, rfl, hl1, hl2⟩ := row_slice h2
  clear h1 h2 hv
  go_enter Tryd.func55, Tryd.ntmps55
  go_wp2_with fail
  refine (rvalid_any (T := T) (H.out.mono ((Ext.refl _).alloc _))).mono ?_
  rintro e w1 ⟨x, rfl, hE, rfl⟩
  rw [HV.out]
  have b2 := hE.cell (p := ⟨w.heap.size, 2, none⟩) (v := .slice la T.links.length lc) (by simp [go_sem])
  go_wp2_with fail
  go_ret
  exact ⟨_, rfl, ((Ext.refl _).alloc _).trans hE, rfl⟩

/-- The reference's Tail, Head and Cost: -1 where there is no such arc. -/
def rtail (T : Topo) (a : Int) : Int := if 0 ≤ a ∧ a < 2 * (T.links.length : Int) then tailN T a.toNat else -1
def rhead (T : Topo) (a : Int) : Int := if 0 ≤ a ∧ a < 2 * (T.links.length : Int) then headN T a.toNat else -1
def rcost (T : Topo) (a : Int) : Int := if 0 ≤ a ∧ a < 2 * (T.links.length : Int) then costN T a.toNat else -1

set_option maxHeartbeats 1000000 in
theorem rtail_any {T : Topo} {v : Value} {w : World} (h : TopoV w v T) (hv : validB T = true) (a : Int) : Calls Tryd.prog 56 #[v, .int .i64 a] w (Ret (fun x _ => x = .int .i64 (rtail T a)) w) := by
  have H := Lib.hid h
  have HV := Lib.hid hv
  have hbd := (valid_bd hv).2.2.1
  obtain ⟨so, sl, rfl, h1, h2⟩ := h
  clear hv
  by_cases h0 : 0 ≤ a
  · by_cases ha : a < 2 * (T.links.length : Int)
    · obtain ⟨a, rfl⟩ := Int.eq_ofNat_of_zero_le h0
      have ha' : a < 2 * T.links.length := by omega
      obtain ⟨b, off, c, rfl, hc1, hc2, hcell⟩ := row_addr h2 (by omega)
      have hi : a / 2 < T.links.length := by omega
      obtain ⟨k0, k1, k2, k3, _⟩ := link_cells hcell (a / 2) hi
      clear h1 h2 hcell
      have HR0 := Lib.hid (show tailN T a = rtail T (a : Int) by unfold rtail; rw [if_pos ⟨h0, ha⟩]; rfl)
      by_cases hp : a % 2 = 0
      · have HR := Lib.hid ((show (lnk T.links (a / 2)).a = tailN T a by simp [tailN, hp]).trans HR0.out)
        have hq : (((a : Int) % 2) == 0) = true := by simp; omega
        have hr : (a : Int) % 2 = 0 := by omega
        clear hp HR0
        go_enter Tryd.func56, Tryd.ntmps56
        go_wp2_with fail
        refine (rarcs_any (T := T) (H.out.mono ((Ext.refl _).alloc _)) HV.out).mono ?_
        rintro e w1 ⟨x, rfl, hE, rfl⟩
        have b2 := hE.cell (p := ⟨w.heap.size, 2, none⟩) (v := .slice (some ⟨b, off, none⟩) T.links.length c) (by simp [go_sem])
        have e0 := (((Ext.refl w).alloc _).trans hE).cell k0
        have e1 := (((Ext.refl w).alloc _).trans hE).cell k1
        clear k0 k1 k2 k3
        generalize (lnk T.links (a / 2)).a = x at *
        generalize (lnk T.links (a / 2)).b = y at *
        generalize T.links.length = m at *
        go_wp2_with fail
        go_ret
        exact ⟨_, rfl, ((Ext.refl _).alloc _).trans hE, val_int HR.out⟩
      · have HR := Lib.hid ((show (lnk T.links (a / 2)).b = tailN T a by simp [tailN, hp]).trans HR0.out)
        have hq : (((a : Int) % 2) == 0) = false := by simp; omega
        have hr : (a : Int) % 2 = 1 := by omega
        clear hp HR0
        go_enter Tryd.func56, Tryd.ntmps56
        go_wp2_with fail
        refine (rarcs_any (T := T) (H.out.mono ((Ext.refl _).alloc _)) HV.out).mono ?_
        rintro e w1 ⟨x, rfl, hE, rfl⟩
        have b2 := hE.cell (p := ⟨w.heap.size, 2, none⟩) (v := .slice (some ⟨b, off, none⟩) T.links.length c) (by simp [go_sem])
        have e0 := (((Ext.refl w).alloc _).trans hE).cell k0
        have e1 := (((Ext.refl w).alloc _).trans hE).cell k1
        clear k0 k1 k2 k3
        generalize (lnk T.links (a / 2)).a = x at *
        generalize (lnk T.links (a / 2)).b = y at *
        generalize T.links.length = m at *
        go_wp2_with fail
        go_ret
        exact ⟨_, rfl, ((Ext.refl _).alloc _).trans hE, val_int HR.out⟩
    · have HR := Lib.hid (show (-1 : Int) = rtail T a by unfold rtail; rw [if_neg (by omega)])
      clear h1 h2
      go_enter Tryd.func56, Tryd.ntmps56
      go_wp2_with fail
      refine (rarcs_any (T := T) (H.out.mono ((Ext.refl _).alloc _)) HV.out).mono ?_
      rintro e w1 ⟨x, rfl, hE, rfl⟩
      generalize T.links.length = m at *
      go_wp2_with fail
      go_ret
      exact ⟨_, rfl, ((Ext.refl _).alloc _).trans hE, val_int HR.out⟩
  · have HR := Lib.hid (show (-1 : Int) = rtail T a by unfold rtail; rw [if_neg (by omega)])
    clear h1 h2
    have hd : decide (a < 0) = true := by simp; omega
    go_enter Tryd.func56, Tryd.ntmps56
    go_wp2_with fail
    go_ret
    exact ⟨_, rfl, (Ext.refl _).alloc _, val_int HR.out⟩

set_option maxHeartbeats 1000000 in
theorem rcost_any {T : Topo} {v : Value} {w : World} (h : TopoV w v T) (hv : validB T = true) (a : Int) : Calls Tryd.prog 24 #[v, .int .i64 a] w (Ret (fun x _ => x = .int .i64 (rcost T a)) w) := by
  have H := Lib.hid h
  have HV := Lib.hid hv
  have hbd := (valid_bd hv).2.2.1
  obtain ⟨so, sl, rfl, h1, h2⟩ := h
  clear hv
  by_cases h0 : 0 ≤ a
  · by_cases ha : a < 2 * (T.links.length : Int)
    · obtain ⟨a, rfl⟩ := Int.eq_ofNat_of_zero_le h0
      have ha' : a < 2 * T.links.length := by omega
      obtain ⟨b, off, c, rfl, hc1, hc2, hcell⟩ := row_addr h2 (by omega)
      have hi : a / 2 < T.links.length := by omega
      obtain ⟨k0, k1, k2, k3, _⟩ := link_cells hcell (a / 2) hi
      clear h1 h2 hcell
      have HR0 := Lib.hid (show costN T a = rcost T (a : Int) by unfold rcost; rw [if_pos ⟨h0, ha⟩]; rfl)
      by_cases hp : a % 2 = 0
      · have HR := Lib.hid ((show (lnk T.links (a / 2)).c0 = costN T a by simp [costN, hp]).trans HR0.out)
        have hq : (((a : Int) % 2) == 0) = true := by simp; omega
        have hr : (a : Int) % 2 = 0 := by omega
        clear hp HR0
        go_enter Tryd.func24, Tryd.ntmps24
        go_wp2_with fail
        refine (rarcs_any (T := T) (H.out.mono ((Ext.refl _).alloc _)) HV.out).mono ?_
        rintro e w1 ⟨x, rfl, hE, rfl⟩
        have b2 := hE.cell (p := ⟨w.heap.size, 2, none⟩) (v := .slice (some ⟨b, off, none⟩) T.links.length c) (by simp [go_sem])
        have e0 := (((Ext.refl w).alloc _).trans hE).cell k2
        have e1 := (((Ext.refl w).alloc _).trans hE).cell k3
        clear k0 k1 k2 k3
        generalize (lnk T.links (a / 2)).c0 = x at *
        generalize (lnk T.links (a / 2)).c1 = y at *
        generalize T.links.length = m at *
        go_wp2_with fail
        go_ret
        exact ⟨_, rfl, ((Ext.refl _).alloc _).trans hE, val_int HR.out⟩
      · have HR := Lib.hid ((show (lnk T.links (a / 2)).c1 = costN T a by simp [costN, hp]).trans HR0.out)
        have hq : (((a : Int) % 2) == 0) = false := by simp; omega
        have hr : (a : Int) % 2 = 1 := by omega
        clear hp HR0
        go_enter Tryd.func24, Tryd.ntmps24
        go_wp2_with fail
        refine (rarcs_any (T := T) (H.out.mono ((Ext.refl _).alloc _)) HV.out).mono ?_
        rintro e w1 ⟨x, rfl, hE, rfl⟩
        have b2 := hE.cell (p := ⟨w.heap.size, 2, none⟩) (v := .slice (some ⟨b, off, none⟩) T.links.length c) (by simp [go_sem])
        have e0 := (((Ext.refl w).alloc _).trans hE).cell k2
        have e1 := (((Ext.refl w).alloc _).trans hE).cell k3
        clear k0 k1 k2 k3
        generalize (lnk T.links (a / 2)).c0 = x at *
        generalize (lnk T.links (a / 2)).c1 = y at *
        generalize T.links.length = m at *
        go_wp2_with fail
        go_ret
        exact ⟨_, rfl, ((Ext.refl _).alloc _).trans hE, val_int HR.out⟩
    · have HR := Lib.hid (show (-1 : Int) = rcost T a by unfold rcost; rw [if_neg (by omega)])
      clear h1 h2
      go_enter Tryd.func24, Tryd.ntmps24
      go_wp2_with fail
      refine (rarcs_any (T := T) (H.out.mono ((Ext.refl _).alloc _)) HV.out).mono ?_
      rintro e w1 ⟨x, rfl, hE, rfl⟩
      generalize T.links.length = m at *
      go_wp2_with fail
      go_ret
      exact ⟨_, rfl, ((Ext.refl _).alloc _).trans hE, val_int HR.out⟩
  · have HR := Lib.hid (show (-1 : Int) = rcost T a by unfold rcost; rw [if_neg (by omega)])
    clear h1 h2
    have hd : decide (a < 0) = true := by simp; omega
    go_enter Tryd.func24, Tryd.ntmps24
    go_wp2_with fail
    go_ret
    exact ⟨_, rfl, (Ext.refl _).alloc _, val_int HR.out⟩

set_option maxHeartbeats 1000000 in
theorem rhead_any {T : Topo} {v : Value} {w : World} (h : TopoV w v T) (hv : validB T = true) (a : Int) : Calls Tryd.prog 22 #[v, .int .i64 a] w (Ret (fun x _ => x = .int .i64 (rhead T a)) w) := by
  have H := Lib.hid h
  have HV := Lib.hid hv
  have hbd := (valid_bd hv).2.2.1
  obtain ⟨so, sl, rfl, h1, h2⟩ := h
  clear hv
  by_cases h0 : 0 ≤ a
  · by_cases ha : a < 2 * (T.links.length : Int)
    · obtain ⟨a, rfl⟩ := Int.eq_ofNat_of_zero_le h0
      have ha' : a < 2 * T.links.length := by omega
      have HR := Lib.hid (show rtail T ((flip a : Nat) : Int) = rhead T (a : Int) by
        unfold rtail rhead headN
        rw [if_pos ⟨by omega, by unfold flip; split <;> omega⟩, if_pos ⟨h0, ha⟩]; rfl)
      have HF := Lib.hid (show (a : Int) / 2 * 2 + 1 - (a : Int) % 2 = ((flip a : Nat) : Int) by unfold flip; split <;> omega)
      clear h1 h2
      go_enter Tryd.func22, Tryd.ntmps22
      go_wp2_with fail
      refine (rarcs_any (T := T) (H.out.mono ((Ext.refl _).alloc _)) HV.out).mono ?_
      rintro e w1 ⟨x, rfl, hE, rfl⟩
      have b0 := hE.cell (p := ⟨w.heap.size, 0, none⟩) (v := .int .i64 T.nodes) (by simp [go_sem])
      have b1 := hE.cell (p := ⟨w.heap.size, 1, none⟩) (v := so) (by simp [go_sem])
      have b2 := hE.cell (p := ⟨w.heap.size, 2, none⟩) (v := sl) (by simp [go_sem])
      go_wp2_with fail
      rw [HF.out]
      refine (rtail_any (T := T) (H.out.mono (((Ext.refl _).alloc _).trans hE)) HV.out _).mono ?_
      rintro e w2 ⟨x, rfl, hE2, rfl⟩
      go_wp2_with fail
      go_ret
      exact ⟨_, rfl, (((Ext.refl _).alloc _).trans hE).trans hE2, val_int HR.out⟩
    · have HR := Lib.hid (show (-1 : Int) = rhead T a by unfold rhead; rw [if_neg (by omega)])
      clear h1 h2
      go_enter Tryd.func22, Tryd.ntmps22
      go_wp2_with fail
      refine (rarcs_any (T := T) (H.out.mono ((Ext.refl _).alloc _)) HV.out).mono ?_
      rintro e w1 ⟨x, rfl, hE, rfl⟩
      generalize T.links.length = m at *
      go_wp2_with fail
      go_ret
      exact ⟨_, rfl, ((Ext.refl _).alloc _).trans hE, val_int HR.out⟩
  · have HR := Lib.hid (show (-1 : Int) = rhead T a by unfold rhead; rw [if_neg (by omega)])
    clear h1 h2
    have hd : decide (a < 0) = true := by simp; omega
    go_enter Tryd.func22, Tryd.ntmps22
    go_wp2_with fail
    go_ret
    exact ⟨_, rfl, (Ext.refl _).alloc _, val_int HR.out⟩

end Net
end Go.Proofs.YtkaalpdfppbdeaaDoor
