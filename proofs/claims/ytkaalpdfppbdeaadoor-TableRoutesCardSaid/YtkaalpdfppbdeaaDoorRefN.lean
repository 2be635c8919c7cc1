/- The reference of layer 12: next arcs; Out of layer 9. -/
import Derived.Test.YtkaalpdfppbdeaaDoorRefS
namespace Go.Proofs.YtkaalpdfppbdeaaDoor
namespace PW
open Go.RowKit Reg Mem Net

def onB (T : Topo) (D : List Bool) (L : List Int) (a d : Nat) : Bool :=
  ((((!downN D a) && decide (tailN T a ≠ (d : Int))) && decide (0 ≤ L.getD (headN T a).toNat 0)) && (decide ((headN T a).toNat = d) || !overN T (headN T a).toNat)) && decide (L.getD (tailN T a).toNat 0 = L.getD (headN T a).toNat 0 + costN T a)

set_option maxRecDepth 10000 in
set_option maxHeartbeats 1000000 in
theorem on_can (T : Topo) (D : List Bool) (L : List Int) (a d : Nat) (hv : validB T = true) (hf : fitsB T D = true) (hL : (L.length : Int) = T.nodes) (hub : ∀ x ∈ L, -1 ≤ x ∧ x ≤ 4194240) (ha : a < 2 * T.links.length) :
    Can Tryd.prog 78 [topoV T, boolsV D, intsV L, num a, num d] (· = flag (onB T D L a d)) := by
  have hS := sound_of hv
  obtain ⟨x, hx⟩ := Int.eq_ofNat_of_zero_le (hS.tail a ha).1
  obtain ⟨y, hy⟩ := Int.eq_ofNat_of_zero_le (hS.head a ha).1
  have hxL : x < L.length := by have := (hS.tail a ha).2; omega
  have hyL : y < L.length := by have := (hS.head a ha).2; omega
  have hcb := hS.cost a ha
  have hDl : D.length = 0 ∨ a < D.length := by simp only [fitsB, decide_eq_true_eq] at hf; omega
  have uy := hub _ (getD_mem (d := 0) hyL)
  obtain ⟨p1, hp1⟩ : ∃ q, (!downN D a) = q := ⟨_, rfl⟩
  obtain ⟨p2, hp2⟩ : ∃ q, decide ((x : Int) ≠ (d : Int)) = q := ⟨_, rfl⟩
  obtain ⟨p3, hp3⟩ : ∃ q, decide (0 ≤ L.getD y 0) = q := ⟨_, rfl⟩
  obtain ⟨p4, hp4⟩ : ∃ q, (decide (y = d) || !overN T y) = q := ⟨_, rfl⟩
  obtain ⟨p5, hp5⟩ : ∃ q, decide (L.getD x 0 = L.getD y 0 + costN T a) = q := ⟨_, rfl⟩
  have hon : onB T D L a d = ((((p1 && p2) && p3) && p4) && p5) := by
    unfold onB
    rw [hx, hy, Int.toNat_natCast, Int.toNat_natCast, hp1, hp2, hp3, hp4, hp5]
  rw [hon]
  refine can_of Tryd.func78 rfl Tryd.ntmps78 rfl ?_
  refine W_cs (
    .val (y_boxPin rfl rfl rfl) rfl rfl rfl <|
    .val (y_assign rfl rfl) rfl rfl rfl <|
    .nil (.cons (k := 1) rfl <| .cons (k := 2) rfl <| .cons (k := 3) rfl <| .cons (k := 4) rfl <| .cons (k := 5) rfl <| Sub.nil _)) ?_
  refine W_ds [13, 14, 15, 16, 17, 18, 11, 12] mixed (by kernel_rfl) (by kernel_rfl) (by kernel_rfl) (
    .val [5] rfl ((by first | exact y_loadPinAll rfl tk_25 rfl rfl | exact y_loadPtrAll rfl tk_25 rfl rfl rfl | exact y_loadPinAgg rfl tk_25 rfl rfl rfl | exact y_loadPtrAgg rfl tk_25 rfl rfl rfl rfl)) rfl rfl rfl <|
    .val [3] rfl (y_move rfl rfl) rfl rfl rfl <|
    .val [13, 14] rfl (y_call rfl en_56 rfl rfl (hx ▸ rtailN_can T hv a ha)) rfl rfl rfl <|
    .val [5] rfl ((by first | exact y_loadPinAll rfl tk_25 rfl rfl | exact y_loadPtrAll rfl tk_25 rfl rfl rfl | exact y_loadPinAgg rfl tk_25 rfl rfl rfl | exact y_loadPtrAgg rfl tk_25 rfl rfl rfl rfl)) rfl rfl rfl <|
    .val [3] rfl (y_move rfl rfl) rfl rfl rfl <|
    .val [16, 17] rfl (y_call rfl en_22 rfl rfl (hy ▸ rheadN_can T hv a ha)) rfl rfl rfl <|
    .val [15] rfl (y_assign rfl rfl) rfl rfl rfl <|
    .val [18] rfl (y_assign rfl rfl) rfl rfl rfl <|
    .nil (.cons (k := 1) rfl <| .cons (k := 2) rfl <| .cons (k := 3) rfl <| .cons (k := 4) rfl <| .cons (k := 5) rfl <| .cons (k := 11) rfl <| .cons (k := 12) rfl <| Sub.nil _)) ?_
  refine W_dsB [19, 20, 21, 22, 23, 24, 25, 26, 27, 28, 29, 30, 31, 32, 33, 34, 35, 36, 37, 38, 39, 40, 41, 42, 43, 44, 45, 46, 47, 48, 49, 50, 51, 52, 53, 54, 10] mixed (by kernel_rfl) (by kernel_rfl) (by kernel_rfl) 10 (.raw (.bool ((((p1 && p2) && p3) && p4) && p5))) ?_ ?_
  · refine .val [1] rfl (y_move rfl rfl) rfl rfl rfl <| .val [3] rfl (y_move rfl rfl) rfl rfl rfl <| .val [19, 20] rfl (y_call rfl en_23 rfl rfl (hp1 ▸ rup_can D a hDl)) rfl rfl rfl <| .val [21] rfl (y_move rfl rfl) rfl rfl rfl <| ?_
    cases p1
    · exact .skip rfl rfl rfl <| .skip rfl rfl rfl <| .skip rfl rfl rfl <| .val [22, 25] rfl (y_pickF rfl rfl rfl) rfl rfl rfl <| .val [26] rfl (y_move rfl rfl) rfl rfl rfl <| .skip rfl rfl rfl <| .skip rfl rfl rfl <| .skip rfl rfl rfl <| .skip rfl rfl rfl <| .skip rfl rfl rfl <| .val [27, 32] rfl (y_pickF rfl rfl rfl) rfl rfl rfl <| .val [33] rfl (y_move rfl rfl) rfl rfl rfl <| .skip rfl rfl rfl <| .skip rfl rfl rfl <| .skip rfl rfl rfl <| .skip rfl rfl rfl <| .val [34, 38] rfl (y_pickF rfl rfl rfl) rfl rfl rfl <| .val [39] rfl (y_move rfl rfl) rfl rfl rfl <| .skip rfl rfl rfl <| .skip rfl rfl rfl <| .skip rfl rfl rfl <| .skip rfl rfl rfl <| .skip rfl rfl rfl <| .skip rfl rfl rfl <| .skip rfl rfl rfl <| .skip rfl rfl rfl <| .skip rfl rfl rfl <| .skip rfl rfl rfl <| .skip rfl rfl rfl <| .skip rfl rfl rfl <| .skip rfl rfl rfl <| .val [40, 53] rfl (y_pickF rfl rfl rfl) rfl rfl rfl <| .val [54] rfl (y_assign rfl rfl) rfl rfl rfl <| .nil (.cons (k := 10) rfl (.skip rfl <| .skip rfl <| .skip rfl <| .skip rfl <| .skip rfl <| .skip rfl <| .skip rfl <| .skip rfl <| .skip rfl <| .skip rfl <| .skip rfl <| .skip rfl <| .skip rfl <| .skip rfl <| .skip rfl <| .skip rfl <| .skip rfl <| .skip rfl <| .skip rfl <| .skip rfl <| .skip rfl <| .skip rfl <| .skip rfl <| .skip rfl <| .skip rfl <| .skip rfl <| .skip rfl <| .skip rfl <| .skip rfl <| .skip rfl <| .skip rfl <| .skip rfl <| .skip rfl <| .skip rfl <| .skip rfl <| .skip rfl <| .skip rfl <| Sub.refl _))
    · refine .val [11] rfl (y_move rfl rfl) rfl rfl rfl <| .val [4] rfl (y_move rfl rfl) rfl rfl rfl <| .val [23, 24] rfl (y_neq rfl rfl rfl (hp2)) rfl rfl rfl <| .val [22, 25] rfl (y_pickT rfl rfl rfl) rfl rfl rfl <| .val [26] rfl (y_move rfl rfl) rfl rfl rfl <| ?_
      cases p2
      · exact .skip rfl rfl rfl <| .skip rfl rfl rfl <| .skip rfl rfl rfl <| .skip rfl rfl rfl <| .skip rfl rfl rfl <| .val [27, 32] rfl (y_pickF rfl rfl rfl) rfl rfl rfl <| .val [33] rfl (y_move rfl rfl) rfl rfl rfl <| .skip rfl rfl rfl <| .skip rfl rfl rfl <| .skip rfl rfl rfl <| .skip rfl rfl rfl <| .val [34, 38] rfl (y_pickF rfl rfl rfl) rfl rfl rfl <| .val [39] rfl (y_move rfl rfl) rfl rfl rfl <| .skip rfl rfl rfl <| .skip rfl rfl rfl <| .skip rfl rfl rfl <| .skip rfl rfl rfl <| .skip rfl rfl rfl <| .skip rfl rfl rfl <| .skip rfl rfl rfl <| .skip rfl rfl rfl <| .skip rfl rfl rfl <| .skip rfl rfl rfl <| .skip rfl rfl rfl <| .skip rfl rfl rfl <| .skip rfl rfl rfl <| .val [40, 53] rfl (y_pickF rfl rfl rfl) rfl rfl rfl <| .val [54] rfl (y_assign rfl rfl) rfl rfl rfl <| .nil (.cons (k := 10) rfl (.skip rfl <| .skip rfl <| .skip rfl <| .skip rfl <| .skip rfl <| .skip rfl <| .skip rfl <| .skip rfl <| .skip rfl <| .skip rfl <| .skip rfl <| .skip rfl <| .skip rfl <| .skip rfl <| .skip rfl <| .skip rfl <| .skip rfl <| .skip rfl <| .skip rfl <| .skip rfl <| .skip rfl <| .skip rfl <| .skip rfl <| .skip rfl <| .skip rfl <| .skip rfl <| .skip rfl <| .skip rfl <| .skip rfl <| .skip rfl <| .skip rfl <| .skip rfl <| .skip rfl <| .skip rfl <| .skip rfl <| .skip rfl <| .skip rfl <| Sub.refl _))
      · refine .val [2] rfl (y_move rfl rfl) rfl rfl rfl <| .val [12] rfl (y_move rfl rfl) rfl rfl rfl <| .val [28, 29] rfl ((by first | exact y_indexSlice (j := y) rfl el_29 rfl rfl (by omega) (by omega) (by omega) | exact y_indexOwn (j := y) rfl el_29 rfl rfl rfl (by omega) (by omega) (by omega))) rfl rfl rfl <| .val [30] rfl ((by first | exact y_loadPin rfl tk_3 rfl (ints_get L y hyL) | exact y_loadPtr rfl tk_3 rfl rfl (ints_get L y hyL))) rfl rfl rfl <| .val [31] rfl (y_geq rfl rfl rfl (hp3)) rfl rfl rfl <| .val [27, 32] rfl (y_pickT rfl rfl rfl) rfl rfl rfl <| .val [33] rfl (y_move rfl rfl) rfl rfl rfl <| ?_
        cases p3
        · exact .skip rfl rfl rfl <| .skip rfl rfl rfl <| .skip rfl rfl rfl <| .skip rfl rfl rfl <| .val [34, 38] rfl (y_pickF rfl rfl rfl) rfl rfl rfl <| .val [39] rfl (y_move rfl rfl) rfl rfl rfl <| .skip rfl rfl rfl <| .skip rfl rfl rfl <| .skip rfl rfl rfl <| .skip rfl rfl rfl <| .skip rfl rfl rfl <| .skip rfl rfl rfl <| .skip rfl rfl rfl <| .skip rfl rfl rfl <| .skip rfl rfl rfl <| .skip rfl rfl rfl <| .skip rfl rfl rfl <| .skip rfl rfl rfl <| .skip rfl rfl rfl <| .val [40, 53] rfl (y_pickF rfl rfl rfl) rfl rfl rfl <| .val [54] rfl (y_assign rfl rfl) rfl rfl rfl <| .nil (.cons (k := 10) rfl (.skip rfl <| .skip rfl <| .skip rfl <| .skip rfl <| .skip rfl <| .skip rfl <| .skip rfl <| .skip rfl <| .skip rfl <| .skip rfl <| .skip rfl <| .skip rfl <| .skip rfl <| .skip rfl <| .skip rfl <| .skip rfl <| .skip rfl <| .skip rfl <| .skip rfl <| .skip rfl <| .skip rfl <| .skip rfl <| .skip rfl <| .skip rfl <| .skip rfl <| .skip rfl <| .skip rfl <| .skip rfl <| .skip rfl <| .skip rfl <| .skip rfl <| .skip rfl <| .skip rfl <| .skip rfl <| .skip rfl <| .skip rfl <| .skip rfl <| Sub.refl _))
        · refine .val [5] rfl ((by first | exact y_loadPinAll rfl tk_25 rfl rfl | exact y_loadPtrAll rfl tk_25 rfl rfl rfl | exact y_loadPinAgg rfl tk_25 rfl rfl rfl | exact y_loadPtrAgg rfl tk_25 rfl rfl rfl rfl)) rfl rfl rfl <| .val [12] rfl (y_move rfl rfl) rfl rfl rfl <| .val [4] rfl (y_move rfl rfl) rfl rfl rfl <| .val [35, 36, 37] rfl (y_call rfl en_73 rfl rfl (hp4 ▸ rtransit_can T hv y d)) rfl rfl rfl <| .val [34, 38] rfl (y_pickT rfl rfl rfl) rfl rfl rfl <| .val [39] rfl (y_move rfl rfl) rfl rfl rfl <| ?_
          cases p4
          · exact .skip rfl rfl rfl <| .skip rfl rfl rfl <| .skip rfl rfl rfl <| .skip rfl rfl rfl <| .skip rfl rfl rfl <| .skip rfl rfl rfl <| .skip rfl rfl rfl <| .skip rfl rfl rfl <| .skip rfl rfl rfl <| .skip rfl rfl rfl <| .skip rfl rfl rfl <| .skip rfl rfl rfl <| .skip rfl rfl rfl <| .val [40, 53] rfl (y_pickF rfl rfl rfl) rfl rfl rfl <| .val [54] rfl (y_assign rfl rfl) rfl rfl rfl <| .nil (.cons (k := 10) rfl (.skip rfl <| .skip rfl <| .skip rfl <| .skip rfl <| .skip rfl <| .skip rfl <| .skip rfl <| .skip rfl <| .skip rfl <| .skip rfl <| .skip rfl <| .skip rfl <| .skip rfl <| .skip rfl <| .skip rfl <| .skip rfl <| .skip rfl <| .skip rfl <| .skip rfl <| .skip rfl <| .skip rfl <| .skip rfl <| .skip rfl <| .skip rfl <| .skip rfl <| .skip rfl <| .skip rfl <| .skip rfl <| .skip rfl <| .skip rfl <| .skip rfl <| .skip rfl <| .skip rfl <| .skip rfl <| .skip rfl <| .skip rfl <| .skip rfl <| Sub.refl _))
          · exact .val [2] rfl (y_move rfl rfl) rfl rfl rfl <| .val [11] rfl (y_move rfl rfl) rfl rfl rfl <| .val [41, 42] rfl ((by first | exact y_indexSlice (j := x) rfl el_29 rfl rfl (by omega) (by omega) (by omega) | exact y_indexOwn (j := x) rfl el_29 rfl rfl rfl (by omega) (by omega) (by omega))) rfl rfl rfl <| .val [43] rfl ((by first | exact y_loadPin rfl tk_3 rfl (ints_get L x hxL) | exact y_loadPtr rfl tk_3 rfl rfl (ints_get L x hxL))) rfl rfl rfl <| .val [2] rfl (y_move rfl rfl) rfl rfl rfl <| .val [12] rfl (y_move rfl rfl) rfl rfl rfl <| .val [45, 46] rfl ((by first | exact y_indexSlice (j := y) rfl el_29 rfl rfl (by omega) (by omega) (by omega) | exact y_indexOwn (j := y) rfl el_29 rfl rfl rfl (by omega) (by omega) (by omega))) rfl rfl rfl <| .val [47] rfl ((by first | exact y_loadPin rfl tk_3 rfl (ints_get L y hyL) | exact y_loadPtr rfl tk_3 rfl rfl (ints_get L y hyL))) rfl rfl rfl <| .val [5] rfl ((by first | exact y_loadPinAll rfl tk_25 rfl rfl | exact y_loadPtrAll rfl tk_25 rfl rfl rfl | exact y_loadPinAgg rfl tk_25 rfl rfl rfl | exact y_loadPtrAgg rfl tk_25 rfl rfl rfl rfl)) rfl rfl rfl <| .val [3] rfl (y_move rfl rfl) rfl rfl rfl <| .val [49, 50] rfl (y_call rfl en_24 rfl rfl (rcostN_can T hv a ha)) rfl rfl rfl <| .val [48, 51] rfl (y_add rfl rfl rfl rfl (by unfold In64; omega)) rfl rfl rfl <| .val [44, 52] rfl (y_eql rfl rfl rfl (hp5)) rfl rfl rfl <| .val [40, 53] rfl (y_pickT rfl rfl rfl) rfl rfl rfl <| .val [54] rfl (y_assign rfl rfl) rfl rfl rfl <| .nil (.cons (k := 10) rfl (.skip rfl <| .skip rfl <| .skip rfl <| .skip rfl <| .skip rfl <| .skip rfl <| .skip rfl <| .skip rfl <| .skip rfl <| .skip rfl <| .skip rfl <| .skip rfl <| .skip rfl <| .skip rfl <| .skip rfl <| .skip rfl <| .skip rfl <| .skip rfl <| .skip rfl <| .skip rfl <| .skip rfl <| .skip rfl <| .skip rfl <| .skip rfl <| .skip rfl <| .skip rfl <| .skip rfl <| .skip rfl <| .skip rfl <| .skip rfl <| .skip rfl <| .skip rfl <| .skip rfl <| .skip rfl <| .skip rfl <| .skip rfl <| .skip rfl <| Sub.refl _))
  refine W_ret ?_
  exact ⟨_, _, .cons (.tmp rfl) <| .nil, Pur.pure, rfl⟩

def rnextTo (T : Topo) (D : List Bool) (L : List Int) (n d k : Nat) : List Int := ((List.range k).filter fun a => decide (tailN T a = (n : Int)) && onB T D L a d).map Int.ofNat
theorem rnextTo_step (T : Topo) (D : List Bool) (L : List Int) (n d k : Nat) : rnextTo T D L n d (k + 1) = rnextTo T D L n d k ++ (if decide (tailN T k = (n : Int)) && onB T D L k d then [(k : Int)] else []) := by
  unfold rnextTo
  rw [List.range_succ, List.filter_append, List.map_append]
  congr 1
  simp only [List.filter_cons, List.filter_nil]
  split <;> simp
theorem rnextTo_len (T : Topo) (D : List Bool) (L : List Int) (n d k : Nat) : (rnextTo T D L n d k).length ≤ k := by
  unfold rnextTo
  rw [List.length_map]
  exact Nat.le_trans (List.length_filter_le _ _) (by simp)

set_option maxRecDepth 10000 in
set_option maxHeartbeats 1000000 in
theorem rnext1_can (T : Topo) (D : List Bool) (L : List Int) (n d : Nat) (hv : validB T = true) (hf : fitsB T D = true) (hL : (L.length : Int) = T.nodes) (hub : ∀ x ∈ L, -1 ≤ x ∧ x ≤ 4194240) :
    Can Tryd.prog 62 [topoV T, boolsV D, intsV L, num n, num d] (· = intsV (rnextTo T D L n d (2 * T.links.length))) := by
  have hll := links_le hv
  refine can_of Tryd.func62 rfl Tryd.ntmps62 rfl ?_
  refine W_cs (
    .val (y_boxPin rfl rfl rfl) rfl rfl rfl <|
    .val (y_assign rfl rfl) rfl rfl rfl <|
    .nil (.cons (k := 1) rfl <| .cons (k := 2) rfl <| .cons (k := 3) rfl <| .cons (k := 4) rfl <| .cons (k := 5) rfl <| Sub.nil _)) ?_
  refine W_cs (
    .val (y_assign rfl rfl) rfl rfl rfl <|
    .nil (.cons (k := 1) rfl <| .cons (k := 2) rfl <| .cons (k := 3) rfl <| .cons (k := 4) rfl <| .cons (k := 5) rfl <| .cons (k := 11) rfl <| Sub.nil _)) ?_
  refine W_adopt 11 3 1 rfl ?_
  refine W_seq ?_
  refine W_cs (
    .val (y_assign rfl rfl) rfl rfl rfl <|
    .nil (.cons (k := 1) rfl <| .cons (k := 2) rfl <| .cons (k := 3) rfl <| .cons (k := 4) rfl <| .cons (k := 5) rfl <| .cons (k := 11) rfl <| .cons (k := 12) rfl <| Sub.nil _)) ?_
  refine W_block ?_
  refine W_sub (.cons (k := 1) rfl <| .cons (k := 2) rfl <| .cons (k := 3) rfl <| .cons (k := 4) rfl <| .cons (k := 5) rfl <| .cons (k := 11) rfl <| .cons (k := 12) rfl <| Sub.nil _) ?_
  refine W_loop (fun r s => ∃ k, k ≤ 2 * T.links.length ∧ r = 2 * T.links.length - k ∧ s = ⟨[(1, boolsV D), (2, intsV L), (3, num n), (4, num d), (5, .pin (topoP T) 0), (11, .own 0), (12, num k)], [some (.row 3 1 (rnextTo T D L n d k).length (intsP (rnextTo T D L n d k)))]⟩) (2 * T.links.length) ⟨0, by omega, by omega, rfl⟩ ?_
  rintro r s ⟨k, hk, rfl, rfl⟩
  refine W_seq ?_
  refine W_cs (
    .val (y_move rfl rfl) rfl rfl rfl <|
    .val ((by first | exact y_fieldPin rfl fo_25_2 rfl | exact y_fieldPtr rfl fo_25_2 rfl)) rfl rfl rfl <|
    .val ((by first | exact y_loadPin rfl tk_23 rfl rfl | exact y_loadPtr rfl tk_23 rfl rfl rfl)) rfl rfl rfl <|
    .val ((by first | exact y_lenSlice rfl el_23 rfl | exact y_lenOwn rfl el_23 rfl rfl | exact y_lenNil rfl el_23 rfl)) rfl rfl rfl <|
    .val (y_mul rfl rfl rfl (rfl) (by unfold In64; omega)) rfl rfl rfl <|
    .val (y_lss rfl rfl rfl rfl) rfl rfl rfl <|
    .nil (.cons (k := 1) rfl <| .cons (k := 2) rfl <| .cons (k := 3) rfl <| .cons (k := 4) rfl <| .cons (k := 5) rfl <| .cons (k := 11) rfl <| .cons (k := 12) rfl <| .cons (k := 18) rfl <| Sub.nil _)) ?_
  refine W_cond rfl (fun hc => ?_) (fun hc => ?_)
  · have hlt : k < 2 * T.links.length := by have := of_decide_eq_true hc; omega
    have hlen := rnextTo_len T D L n d k
    have hst := rnextTo_step T D L n d k
    refine W_skip ?_
    refine W_seq ?_
    refine W_block ?_
    obtain ⟨p1, hp1⟩ : ∃ q, decide (tailN T k = (n : Int)) = q := ⟨_, rfl⟩
    obtain ⟨p2, hp2⟩ : ∃ q, onB T D L k d = q := ⟨_, rfl⟩
    refine W_csB 33 (.raw (.bool (p1 && p2))) ?_ ?_
    · refine .val ((by first | exact y_loadPinAll rfl tk_25 rfl rfl | exact y_loadPtrAll rfl tk_25 rfl rfl rfl | exact y_loadPinAgg rfl tk_25 rfl rfl rfl | exact y_loadPtrAgg rfl tk_25 rfl rfl rfl rfl)) rfl rfl rfl <| .val (y_move rfl rfl) rfl rfl rfl <| .val (y_call rfl en_56 rfl rfl (rtailN_can T hv k hlt)) rfl rfl rfl <| .val (y_move rfl rfl) rfl rfl rfl <| .val (y_eql rfl rfl rfl (hp1)) rfl rfl rfl <| .val (y_move rfl rfl) rfl rfl rfl <| ?_
      cases p1
      · exact .skip rfl rfl rfl <| .skip rfl rfl rfl <| .skip rfl rfl rfl <| .skip rfl rfl rfl <| .skip rfl rfl rfl <| .skip rfl rfl rfl <| .val (y_pickF rfl rfl rfl) rfl rfl rfl <| .nil (.cons (k := 33) rfl (.skip rfl <| .skip rfl <| .skip rfl <| .skip rfl <| .skip rfl <| .skip rfl <| .skip rfl <| .skip rfl <| .skip rfl <| .skip rfl <| .skip rfl <| .skip rfl <| .skip rfl <| Sub.refl _))
      · exact .val ((by first | exact y_loadPinAll rfl tk_25 rfl rfl | exact y_loadPtrAll rfl tk_25 rfl rfl rfl | exact y_loadPinAgg rfl tk_25 rfl rfl rfl | exact y_loadPtrAgg rfl tk_25 rfl rfl rfl rfl)) rfl rfl rfl <| .val (y_move rfl rfl) rfl rfl rfl <| .val (y_move rfl rfl) rfl rfl rfl <| .val (y_move rfl rfl) rfl rfl rfl <| .val (y_move rfl rfl) rfl rfl rfl <| .val (y_call rfl en_78 rfl rfl (hp2 ▸ on_can T D L k d hv hf hL hub hlt)) rfl rfl rfl <| .val (y_pickT rfl rfl rfl) rfl rfl rfl <| .nil (.cons (k := 33) rfl (.skip rfl <| .skip rfl <| .skip rfl <| .skip rfl <| .skip rfl <| .skip rfl <| .skip rfl <| .skip rfl <| .skip rfl <| .skip rfl <| .skip rfl <| .skip rfl <| .skip rfl <| Sub.refl _))
    refine W_cond rfl (fun hc => ?_) (fun hc => ?_)
    · rw [hp1, hp2, hc, if_pos rfl] at hst
      refine W_region ?_
      refine WR_val (y_move rfl rfl) rfl rfl rfl ?_
      refine WR_val (y_move rfl rfl) rfl rfl rfl ?_
      refine WR_val (y_buildSlice (xs := [_]) rfl sl_29 ⟨Nat.le_of_ble_eq_true rfl, Nat.le_of_ble_eq_true rfl⟩ rfl rfl) rfl rfl rfl ?_
      refine WR_loud (l_append rfl rk_29 rfl rfl rfl rfl (by unfold maxLen; omega)) rfl rfl rfl ?_
      refine WR_val (y_assign rfl rfl) rfl rfl rfl ?_
      refine WR_ren [1] (.cons 1 rfl (by first | exact Ren.pure | exact Ren.own (i := 0) rfl | exact Ren.ptr (i := 0) rfl) <| .cons 2 rfl (by first | exact Ren.pure | exact Ren.own (i := 0) rfl | exact Ren.ptr (i := 0) rfl) <| .cons 3 rfl (by first | exact Ren.pure | exact Ren.own (i := 0) rfl | exact Ren.ptr (i := 0) rfl) <| .cons 4 rfl (by first | exact Ren.pure | exact Ren.own (i := 0) rfl | exact Ren.ptr (i := 0) rfl) <| .cons 5 rfl (by first | exact Ren.pure | exact Ren.own (i := 0) rfl | exact Ren.ptr (i := 0) rfl) <| .cons 11 rfl (by first | exact Ren.pure | exact Ren.own (i := 0) rfl | exact Ren.ptr (i := 0) rfl) <| .cons 12 rfl (by first | exact Ren.pure | exact Ren.own (i := 0) rfl | exact Ren.ptr (i := 0) rfl) <| .nil) (.kept rfl (.rowP rfl (intsP_snoc _ _)) <| .nil) rfl rfl (WR_nil ?_)
      refine W_chain (
        .val (y_move rfl rfl) rfl rfl rfl <|
        .val (y_add rfl rfl rfl rfl (by unfold In64; omega)) rfl rfl rfl <|
        .val (y_assign rfl rfl) rfl rfl rfl <|
        .nil (.cons (k := 1) rfl <| .cons (k := 2) rfl <| .cons (k := 3) rfl <| .cons (k := 4) rfl <| .cons (k := 5) rfl <| .cons (k := 11) rfl <| .cons (k := 12) rfl <| Sub.nil _)) ?_
      refine ⟨2 * T.links.length - (k + 1), by omega, k + 1, by omega, rfl, ?_⟩
      rw [hst]
      first
        | rfl
        | (simp only [List.length_append, List.length_singleton]; rfl)
    · rw [hp1, hp2, hc, if_neg (by simp), List.append_nil] at hst
      refine W_skip ?_
      refine W_chain (
        .val (y_move rfl rfl) rfl rfl rfl <|
        .val (y_add rfl rfl rfl rfl (by unfold In64; omega)) rfl rfl rfl <|
        .val (y_assign rfl rfl) rfl rfl rfl <|
        .nil (.cons (k := 1) rfl <| .cons (k := 2) rfl <| .cons (k := 3) rfl <| .cons (k := 4) rfl <| .cons (k := 5) rfl <| .cons (k := 11) rfl <| .cons (k := 12) rfl <| Sub.nil _)) ?_
      refine ⟨2 * T.links.length - (k + 1), by omega, k + 1, by omega, rfl, ?_⟩
      rw [hst]
      first
        | rfl
        | (simp only [List.length_append, List.length_singleton]; rfl)
  · have hke : k = 2 * T.links.length := by have := of_decide_eq_false hc; omega
    subst hke
    refine W_exit ?_
    refine W_cs (
      .val (y_move rfl rfl) rfl rfl rfl <|
      .val (y_assign rfl rfl) rfl rfl rfl <|
      .nil (.cons (k := 10) rfl <| Sub.nil _)) ?_
    refine W_ret ?_
    exact ⟨_, _, .cons (.tmp rfl) <| .nil, Pur.ownL rfl PurL.pure, rfl⟩

theorem next_same (T : Topo) (D : List Bool) (n d : Nat) (hv : validB T = true) (hn : (n : Int) < T.nodes) : rnextTo T D (distL T D d false) n d (2 * T.links.length) = nextL T D n d := by
  have hS := sound_of hv
  unfold nextL
  generalize distL T D d false = L
  have hpass : ∀ k, k < 2 * T.links.length → (decide (tailN T k = (n : Int)) && onB T D L k d) = if n = d ∨ L.getD n 0 < 0 then false else (tailN T k == (n : Int)) && passB T D L (L.getD n 0) d k := fun k hk => by
    obtain ⟨y, hy⟩ := Int.eq_ofNat_of_zero_le (hS.head k hk).1
    have hc := hS.cost k hk
    by_cases ht : tailN T k = (n : Int)
    · simp only [ht, decide_true, Bool.true_and, beq_self_eq_true]
      unfold onB passB
      rw [ht, hy, Int.toNat_natCast, Int.toNat_natCast]
      generalize L.getD n 0 = u
      generalize L.getD y 0 = v
      by_cases h1 : n = d
      · simp [h1]
      · by_cases h2 : u < 0
        · rw [if_pos (.inr h2)]
          by_cases h3 : 0 ≤ v
          · have : ¬ u = v + costN T k := by omega
            simp [this]
          · simp [h3]
        · rw [if_neg (by omega)]
          have e1 : decide ((n : Int) ≠ (d : Int)) = true := by simp; omega
          have e2 : decide (v < 0) = !decide (0 ≤ v) := by
            by_cases h : 0 ≤ v
            · simp only [h, decide_true, Bool.not_true, decide_eq_false_iff_not]; omega
            · simp only [h, decide_false, Bool.not_false, decide_eq_true_eq]; omega
          have e3 : decide ((y : Int) ≠ (d : Int)) = !decide (y = d) := by
            by_cases h : y = d
            · simp [h]
            · simp only [h, decide_false, Bool.not_false, decide_eq_true_eq]; omega
          have e4 : decide (v + costN T k = u) = decide (u = v + costN T k) := by
            by_cases h : u = v + costN T k
            · simp [h]
            · simp only [h, decide_false, decide_eq_false_iff_not]; omega
          rw [e1, e2, e3, e4]
          generalize decide (0 ≤ v) = b1
          generalize decide (y = d) = b2
          generalize decide (u = v + costN T k) = b3
          cases downN D k <;> cases b1 <;> cases b2 <;> cases b3 <;> cases overN T y <;> rfl
    · simp [ht]
  unfold rnextTo
  rw [show (List.range (2 * T.links.length)).filter (fun a => decide (tailN T a = (n : Int)) && onB T D L a d) = (List.range (2 * T.links.length)).filter (fun k => if n = d ∨ L.getD n 0 < 0 then false else (tailN T k == (n : Int)) && passB T D L (L.getD n 0) d k) from List.filter_congr fun k hk => hpass k (List.mem_range.1 hk)]
  by_cases h : n = d ∨ L.getD n 0 < 0
  · simp only [if_pos h]; simp
  · simp only [if_neg h]
    unfold passL outL outTo
    rw [List.filter_map]
    congr 1
    rw [List.filter_filter]
    apply List.filter_congr
    intro k _
    simp [Function.comp, Bool.and_comm]

set_option maxRecDepth 10000 in
set_option maxHeartbeats 1000000 in
theorem rnext_can (T : Topo) (D : List Bool) (n d : Int) : Can Tryd.prog 34 [topoV T, boolsV D, num n, num d] (· = intsE (nodeE T D n d) (nextL T D n.toNat d.toNat)) := by
  refine can_of Tryd.func34 rfl Tryd.ntmps34 rfl ?_
  refine W_cs (
    .val (y_boxPin rfl rfl rfl) rfl rfl rfl <|
    .val (y_assign rfl rfl) rfl rfl rfl <|
    .val (y_assign rfl rfl) rfl rfl rfl <|
    .nil (.cons (k := 1) rfl <| .cons (k := 2) rfl <| .cons (k := 3) rfl <| .cons (k := 4) rfl <| Sub.nil _)) ?_
  refine W_cs (
    .val ((by first | exact y_loadPinAll rfl tk_25 rfl rfl | exact y_loadPtrAll rfl tk_25 rfl rfl rfl | exact y_loadPinAgg rfl tk_25 rfl rfl rfl | exact y_loadPtrAgg rfl tk_25 rfl rfl rfl rfl)) rfl rfl rfl <|
    .val (y_move rfl rfl) rfl rfl rfl <|
    .val (y_move rfl rfl) rfl rfl rfl <|
    .val (y_call rfl en_21 rfl rfl (rdist_can T D d)) rfl rfl rfl <|
    .val (y_move rfl rfl) rfl rfl rfl <|
    .val (y_extract rfl rfl rfl) rfl rfl rfl <|
    .val (y_extract rfl rfl rfl) rfl rfl rfl <|
    .val (y_assign rfl rfl) rfl rfl rfl <|
    .val (y_assign rfl rfl) rfl rfl rfl <|
    .nil (.cons (k := 1) rfl <| .cons (k := 2) rfl <| .cons (k := 3) rfl <| .cons (k := 4) rfl <| .cons (k := 10) rfl <| .cons (k := 11) rfl <| Sub.nil _)) ?_
  refine W_seq ?_
  refine W_cs (
    .val (y_move rfl rfl) rfl rfl rfl <|
    .val (y_neq rfl rfl rfl rfl) rfl rfl rfl <|
    .nil (.cons (k := 1) rfl <| .cons (k := 2) rfl <| .cons (k := 3) rfl <| .cons (k := 4) rfl <| .cons (k := 10) rfl <| .cons (k := 11) rfl <| .cons (k := 20) rfl <| Sub.nil _)) ?_
  refine W_cond rfl (fun hc => ?_) (fun hc => ?_)
  · have he : chkE T D [d] ≠ 0 := of_decide_eq_true hc
    refine W_cs (
      .val (y_move rfl rfl) rfl rfl rfl <|
      .val (y_assign rfl rfl) rfl rfl rfl <|
      .val (y_assign rfl rfl) rfl rfl rfl <|
      .nil (.cons (k := 8) rfl <| .cons (k := 9) rfl <| Sub.nil _)) ?_
    refine W_ret ?_
    exact ⟨_, _, .cons (.tmp rfl) <| .cons (.tmp rfl) <| .nil, Pur.tupleL (PurL.cons Pur.nils (PurL.cons Pur.pure PurL.nil)), by unfold intsE nodeE; rw [if_neg he, if_neg he]; rfl⟩
  · have he : chkE T D [d] = 0 := by have := of_decide_eq_false hc; omega
    rw [he]
    obtain ⟨hv, hf, hd⟩ := chkE_zero he
    have hd := nodeB_iff.1 (hd d (by simp))
    obtain ⟨d, rfl⟩ := Int.eq_ofNat_of_zero_le hd.1
    obtain ⟨hb1, hb2⟩ := distL_bound (D := D) hv (dir := false) hd.2
    refine W_skip ?_
    refine W_seq ?_
    obtain ⟨q1, hq1⟩ : ∃ q, decide (n < 0) = q := ⟨_, rfl⟩
    obtain ⟨q2, hq2⟩ : ∃ q, decide (T.nodes ≤ n) = q := ⟨_, rfl⟩
    have hnb : nodeB T n = !(q1 || q2) := by rw [← hq1, ← hq2]; unfold nodeB; by_cases h1 : n < 0 <;> by_cases h2 : T.nodes ≤ n <;> simp [h1, h2] <;> omega
    refine W_csB 29 (.raw (.bool (q1 || q2))) ?_ ?_
    · refine .val (y_move rfl rfl) rfl rfl rfl <| .val (y_lss rfl rfl rfl (hq1)) rfl rfl rfl <| .val (y_move rfl rfl) rfl rfl rfl <| ?_
      cases q1
      · exact .val (y_move rfl rfl) rfl rfl rfl <| .val ((by first | exact y_fieldPin rfl fo_25_0 rfl | exact y_fieldPtr rfl fo_25_0 rfl)) rfl rfl rfl <| .val ((by first | exact y_loadPin rfl tk_3 rfl rfl | exact y_loadPtr rfl tk_3 rfl rfl rfl)) rfl rfl rfl <| .val (y_geq rfl rfl rfl (hq2)) rfl rfl rfl <| .val (y_pickF rfl rfl rfl) rfl rfl rfl <| .nil (.cons (k := 29) rfl (.skip rfl <| .skip rfl <| .skip rfl <| .skip rfl <| .skip rfl <| .skip rfl <| .skip rfl <| .skip rfl <| Sub.refl _))
      · exact .skip rfl rfl rfl <| .skip rfl rfl rfl <| .skip rfl rfl rfl <| .skip rfl rfl rfl <| .val (y_pickT rfl rfl rfl) rfl rfl rfl <| .nil (.cons (k := 29) rfl (.skip rfl <| .skip rfl <| .skip rfl <| .skip rfl <| .skip rfl <| .skip rfl <| .skip rfl <| .skip rfl <| Sub.refl _))
    refine W_cond rfl (fun hc => ?_) (fun hc => ?_)
    · rw [hc] at hnb
      refine W_cs (
        .val (y_assign rfl rfl) rfl rfl rfl <|
        .val (y_assign rfl rfl) rfl rfl rfl <|
        .nil (.cons (k := 8) rfl <| .cons (k := 9) rfl <| Sub.nil _)) ?_
      refine W_ret ?_
      exact ⟨_, _, .cons (.tmp rfl) <| .cons (.tmp rfl) <| .nil, Pur.tupleL (PurL.cons Pur.nils (PurL.cons Pur.pure PurL.nil)), by unfold intsE nodeE; rw [if_pos he, hnb]; rfl⟩
    · rw [hc] at hnb
      have hn := nodeB_iff.1 hnb
      obtain ⟨n, rfl⟩ := Int.eq_ofNat_of_zero_le hn.1
      have hcon := rnext1_can T D (distL T D d false) n d hv hf hb1 hb2
      rw [next_same T D n d hv hn.2] at hcon
      refine W_skip ?_
      refine W_cs (
        .val ((by first | exact y_loadPinAll rfl tk_25 rfl rfl | exact y_loadPtrAll rfl tk_25 rfl rfl rfl | exact y_loadPinAgg rfl tk_25 rfl rfl rfl | exact y_loadPtrAgg rfl tk_25 rfl rfl rfl rfl)) rfl rfl rfl <|
        .val (y_move rfl rfl) rfl rfl rfl <|
        .val (y_move rfl rfl) rfl rfl rfl <|
        .val (y_move rfl rfl) rfl rfl rfl <|
        .val (y_move rfl rfl) rfl rfl rfl <|
        .val (y_call rfl en_62 rfl rfl (hcon)) rfl rfl rfl <|
        .val (y_assign rfl rfl) rfl rfl rfl <|
        .val (y_assign rfl rfl) rfl rfl rfl <|
        .nil (.cons (k := 8) rfl <| .cons (k := 9) rfl <| Sub.nil _)) ?_
      refine W_ret ?_
      exact ⟨_, _, .cons (.tmp rfl) <| .cons (.tmp rfl) <| .nil, Pur.pure, by unfold intsE nodeE; rw [if_pos he, hnb]; rfl⟩

set_option maxRecDepth 10000 in
set_option maxHeartbeats 1000000 in
theorem rout_can (T : Topo) (hv : validB T = true) (n : Int) : Can Tryd.prog 35 [topoV T, num n] (· = intsV (outL T n)) := by
  have hll := links_le hv
  refine can_of Tryd.func35 rfl Tryd.ntmps35 rfl ?_
  refine W_cs (
    .val (y_boxPin rfl rfl rfl) rfl rfl rfl <|
    .val (y_assign rfl rfl) rfl rfl rfl <|
    .nil (.cons (k := 1) rfl <| .cons (k := 2) rfl <| Sub.nil _)) ?_
  refine W_cs (
    .val (y_assign rfl rfl) rfl rfl rfl <|
    .nil (.cons (k := 1) rfl <| .cons (k := 2) rfl <| .cons (k := 5) rfl <| Sub.nil _)) ?_
  refine W_adopt 5 3 1 rfl ?_
  refine W_seq ?_
  refine W_cs (
    .val (y_assign rfl rfl) rfl rfl rfl <|
    .nil (.cons (k := 1) rfl <| .cons (k := 2) rfl <| .cons (k := 5) rfl <| .cons (k := 6) rfl <| Sub.nil _)) ?_
  refine W_block ?_
  refine W_sub (.cons (k := 1) rfl <| .cons (k := 2) rfl <| .cons (k := 5) rfl <| .cons (k := 6) rfl <| Sub.nil _) ?_
  refine W_loop (fun r s => ∃ k, k ≤ 2 * T.links.length ∧ r = 2 * T.links.length - k ∧ s = ⟨[(1, num n), (2, .pin (topoP T) 0), (5, .own 0), (6, num k)], [some (.row 3 1 (outTo T n k).length (intsP (outTo T n k)))]⟩) (2 * T.links.length) ⟨0, by omega, by omega, rfl⟩ ?_
  rintro r s ⟨k, hk, rfl, rfl⟩
  refine W_seq ?_
  refine W_cs (
    .val (y_move rfl rfl) rfl rfl rfl <|
    .val ((by first | exact y_loadPinAll rfl tk_25 rfl rfl | exact y_loadPtrAll rfl tk_25 rfl rfl rfl | exact y_loadPinAgg rfl tk_25 rfl rfl rfl | exact y_loadPtrAgg rfl tk_25 rfl rfl rfl rfl)) rfl rfl rfl <|
    .val (y_call rfl en_55 rfl rfl (rarcs_can T hv)) rfl rfl rfl <|
    .val (y_lss rfl rfl rfl rfl) rfl rfl rfl <|
    .nil (.cons (k := 1) rfl <| .cons (k := 2) rfl <| .cons (k := 5) rfl <| .cons (k := 6) rfl <| .cons (k := 10) rfl <| Sub.nil _)) ?_
  refine W_cond rfl (fun hc => ?_) (fun hc => ?_)
  · have hlt : k < 2 * T.links.length := by have := of_decide_eq_true hc; omega
    have hlen := outTo_len T n k
    refine W_skip ?_
    refine W_seq ?_
    refine W_block ?_
    refine W_cs (
      .val ((by first | exact y_loadPinAll rfl tk_25 rfl rfl | exact y_loadPtrAll rfl tk_25 rfl rfl rfl | exact y_loadPinAgg rfl tk_25 rfl rfl rfl | exact y_loadPtrAgg rfl tk_25 rfl rfl rfl rfl)) rfl rfl rfl <|
      .val (y_move rfl rfl) rfl rfl rfl <|
      .val (y_call rfl en_56 rfl rfl (rtailN_can T hv k hlt)) rfl rfl rfl <|
      .val (y_move rfl rfl) rfl rfl rfl <|
      .val (y_eql rfl rfl rfl rfl) rfl rfl rfl <|
      .nil (.cons (k := 1) rfl <| .cons (k := 2) rfl <| .cons (k := 5) rfl <| .cons (k := 6) rfl <| .cons (k := 17) rfl <| Sub.nil _)) ?_
    refine W_cond rfl (fun hc => ?_) (fun hc => ?_)
    · have hst := outTo_yes T n k (by simpa using of_decide_eq_true hc)
      refine W_region ?_
      refine WR_val (y_move rfl rfl) rfl rfl rfl ?_
      refine WR_val (y_move rfl rfl) rfl rfl rfl ?_
      refine WR_val (y_buildSlice (xs := [_]) rfl sl_29 ⟨Nat.le_of_ble_eq_true rfl, Nat.le_of_ble_eq_true rfl⟩ rfl rfl) rfl rfl rfl ?_
      refine WR_loud (l_append rfl rk_29 rfl rfl rfl rfl (by unfold maxLen; omega)) rfl rfl rfl ?_
      refine WR_val (y_assign rfl rfl) rfl rfl rfl ?_
      refine WR_ren [1] (.cons 1 rfl (by first | exact Ren.pure | exact Ren.own (i := 0) rfl | exact Ren.ptr (i := 0) rfl) <| .cons 2 rfl (by first | exact Ren.pure | exact Ren.own (i := 0) rfl | exact Ren.ptr (i := 0) rfl) <| .cons 5 rfl (by first | exact Ren.pure | exact Ren.own (i := 0) rfl | exact Ren.ptr (i := 0) rfl) <| .cons 6 rfl (by first | exact Ren.pure | exact Ren.own (i := 0) rfl | exact Ren.ptr (i := 0) rfl) <| .nil) (.kept rfl (.rowP rfl (intsP_snoc _ _)) <| .nil) rfl rfl (WR_nil ?_)
      refine W_chain (
        .val (y_move rfl rfl) rfl rfl rfl <|
        .val (y_add rfl rfl rfl rfl (by unfold In64; omega)) rfl rfl rfl <|
        .val (y_assign rfl rfl) rfl rfl rfl <|
        .nil (.cons (k := 1) rfl <| .cons (k := 2) rfl <| .cons (k := 5) rfl <| .cons (k := 6) rfl <| Sub.nil _)) ?_
      refine ⟨2 * T.links.length - (k + 1), by omega, k + 1, by omega, rfl, ?_⟩
      rw [hst]
      first
        | rfl
        | (simp only [List.length_append, List.length_singleton]; rfl)
    · have hst := outTo_no T n k (by simpa using of_decide_eq_false hc)
      refine W_skip ?_
      refine W_chain (
        .val (y_move rfl rfl) rfl rfl rfl <|
        .val (y_add rfl rfl rfl rfl (by unfold In64; omega)) rfl rfl rfl <|
        .val (y_assign rfl rfl) rfl rfl rfl <|
        .nil (.cons (k := 1) rfl <| .cons (k := 2) rfl <| .cons (k := 5) rfl <| .cons (k := 6) rfl <| Sub.nil _)) ?_
      refine ⟨2 * T.links.length - (k + 1), by omega, k + 1, by omega, rfl, ?_⟩
      rw [hst]
      first
        | rfl
        | (simp only [List.length_append, List.length_singleton]; rfl)
  · have hke : k = 2 * T.links.length := by have := of_decide_eq_false hc; omega
    subst hke
    refine W_exit ?_
    refine W_cs (
      .val (y_move rfl rfl) rfl rfl rfl <|
      .val (y_assign rfl rfl) rfl rfl rfl <|
      .nil (.cons (k := 4) rfl <| Sub.nil _)) ?_
    refine W_ret ?_
    exact ⟨_, _, .cons (.tmp rfl) <| .nil, Pur.ownL rfl PurL.pure, rfl⟩
end PW
end Go.Proofs.YtkaalpdfppbdeaaDoor
