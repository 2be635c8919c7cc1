/- The law TableRoutes, walked. -/
import Derived.Test.YtkaalpdfppbdeaaDoorAwake
import Derived.Test.YtkaalpdfppbdeaaDoorRefE
namespace Go.Proofs.YtkaalpdfppbdeaaDoor
namespace PW
open Go.RowKit Reg Mem Net

def largeB (T : Topo) (D : List Bool) : Bool := ((decide (100 < (T.over.length : Int)) || decide (24 < (T.links.length : Int))) || decide (100 < (D.length : Int))) || decide (16 < T.nodes)
set_option maxRecDepth 10000 in
set_option maxHeartbeats 1000000 in
theorem large_can (T : Topo) (D : List Bool) : Can Tryd.prog 10 [topoV T, boolsV D] (· = flag (largeB T D)) := by
  obtain ⟨p1, hp1⟩ : ∃ q, decide (100 < (T.over.length : Int)) = q := ⟨_, rfl⟩
  obtain ⟨p2, hp2⟩ : ∃ q, decide (24 < (T.links.length : Int)) = q := ⟨_, rfl⟩
  obtain ⟨p3, hp3⟩ : ∃ q, decide (100 < (D.length : Int)) = q := ⟨_, rfl⟩
  obtain ⟨p4, hp4⟩ : ∃ q, decide (16 < T.nodes) = q := ⟨_, rfl⟩
  have he : largeB T D = (((p1 || p2) || p3) || p4) := by unfold largeB; rw [hp1, hp2, hp3, hp4]
  rw [he]
  refine can_of Tryd.func10 rfl Tryd.ntmps10 rfl ?_
  refine W_cs (
    .val (y_boxPin rfl rfl rfl) rfl rfl rfl <|
    .val (y_assign rfl rfl) rfl rfl rfl <|
    .nil (.cons (k := 1) rfl <| .cons (k := 2) rfl <| Sub.nil _)) ?_
  refine W_csB 4 (.raw (.bool (((p1 || p2) || p3) || p4))) ?_ ?_
  · refine .val ((by first | exact y_fieldPin rfl fo_25_1 rfl | exact y_fieldPtr rfl fo_25_1 rfl)) rfl rfl rfl <| .val ((by first | exact y_loadPin rfl tk_22 rfl rfl | exact y_loadPtr rfl tk_22 rfl rfl rfl)) rfl rfl rfl <| .val ((by first | exact y_lenSlice rfl el_22 rfl | exact y_lenOwn rfl el_22 rfl rfl | exact y_lenNil rfl el_22 rfl)) rfl rfl rfl <| .val (y_gtr rfl rfl rfl (hp1)) rfl rfl rfl <| .val (y_move rfl rfl) rfl rfl rfl <| ?_
    cases p1
    · refine .val ((by first | exact y_fieldPin rfl fo_25_2 rfl | exact y_fieldPtr rfl fo_25_2 rfl)) rfl rfl rfl <| .val ((by first | exact y_loadPin rfl tk_23 rfl rfl | exact y_loadPtr rfl tk_23 rfl rfl rfl)) rfl rfl rfl <| .val ((by first | exact y_lenSlice rfl el_23 rfl | exact y_lenOwn rfl el_23 rfl rfl | exact y_lenNil rfl el_23 rfl)) rfl rfl rfl <| .val (y_gtr rfl rfl rfl (hp2)) rfl rfl rfl <| .val (y_pickF rfl rfl rfl) rfl rfl rfl <| .val (y_move rfl rfl) rfl rfl rfl <| ?_
      cases p2
      · refine .val (y_move rfl rfl) rfl rfl rfl <| .val ((by first | exact y_lenSlice rfl el_22 rfl | exact y_lenOwn rfl el_22 rfl rfl | exact y_lenNil rfl el_22 rfl)) rfl rfl rfl <| .val (y_gtr rfl rfl rfl (hp3)) rfl rfl rfl <| .val (y_pickF rfl rfl rfl) rfl rfl rfl <| .val (y_move rfl rfl) rfl rfl rfl <| ?_
        cases p3
        · exact .val ((by first | exact y_fieldPin rfl fo_25_0 rfl | exact y_fieldPtr rfl fo_25_0 rfl)) rfl rfl rfl <| .val ((by first | exact y_loadPin rfl tk_3 rfl rfl | exact y_loadPtr rfl tk_3 rfl rfl rfl)) rfl rfl rfl <| .val (y_gtr rfl rfl rfl (hp4)) rfl rfl rfl <| .val (y_pickF rfl rfl rfl) rfl rfl rfl <| .val (y_assign rfl rfl) rfl rfl rfl <| .nil (.cons (k := 4) rfl (.skip rfl <| .skip rfl <| .skip rfl <| .skip rfl <| .skip rfl <| .skip rfl <| .skip rfl <| .skip rfl <| .skip rfl <| .skip rfl <| .skip rfl <| .skip rfl <| .skip rfl <| .skip rfl <| .skip rfl <| .skip rfl <| .skip rfl <| .skip rfl <| .skip rfl <| .skip rfl <| .skip rfl <| Sub.refl _))
        · exact .skip rfl rfl rfl <| .skip rfl rfl rfl <| .skip rfl rfl rfl <| .val (y_pickT rfl rfl rfl) rfl rfl rfl <| .val (y_assign rfl rfl) rfl rfl rfl <| .nil (.cons (k := 4) rfl (.skip rfl <| .skip rfl <| .skip rfl <| .skip rfl <| .skip rfl <| .skip rfl <| .skip rfl <| .skip rfl <| .skip rfl <| .skip rfl <| .skip rfl <| .skip rfl <| .skip rfl <| .skip rfl <| .skip rfl <| .skip rfl <| .skip rfl <| .skip rfl <| .skip rfl <| .skip rfl <| .skip rfl <| Sub.refl _))
      · exact .skip rfl rfl rfl <| .skip rfl rfl rfl <| .skip rfl rfl rfl <| .val (y_pickT rfl rfl rfl) rfl rfl rfl <| .val (y_move rfl rfl) rfl rfl rfl <| .skip rfl rfl rfl <| .skip rfl rfl rfl <| .skip rfl rfl rfl <| .val (y_pickT rfl rfl rfl) rfl rfl rfl <| .val (y_assign rfl rfl) rfl rfl rfl <| .nil (.cons (k := 4) rfl (.skip rfl <| .skip rfl <| .skip rfl <| .skip rfl <| .skip rfl <| .skip rfl <| .skip rfl <| .skip rfl <| .skip rfl <| .skip rfl <| .skip rfl <| .skip rfl <| .skip rfl <| .skip rfl <| .skip rfl <| .skip rfl <| .skip rfl <| .skip rfl <| .skip rfl <| .skip rfl <| .skip rfl <| Sub.refl _))
    · exact .skip rfl rfl rfl <| .skip rfl rfl rfl <| .skip rfl rfl rfl <| .skip rfl rfl rfl <| .val (y_pickT rfl rfl rfl) rfl rfl rfl <| .val (y_move rfl rfl) rfl rfl rfl <| .skip rfl rfl rfl <| .skip rfl rfl rfl <| .skip rfl rfl rfl <| .val (y_pickT rfl rfl rfl) rfl rfl rfl <| .val (y_move rfl rfl) rfl rfl rfl <| .skip rfl rfl rfl <| .skip rfl rfl rfl <| .skip rfl rfl rfl <| .val (y_pickT rfl rfl rfl) rfl rfl rfl <| .val (y_assign rfl rfl) rfl rfl rfl <| .nil (.cons (k := 4) rfl (.skip rfl <| .skip rfl <| .skip rfl <| .skip rfl <| .skip rfl <| .skip rfl <| .skip rfl <| .skip rfl <| .skip rfl <| .skip rfl <| .skip rfl <| .skip rfl <| .skip rfl <| .skip rfl <| .skip rfl <| .skip rfl <| .skip rfl <| .skip rfl <| .skip rfl <| .skip rfl <| .skip rfl <| Sub.refl _))
  refine W_ret ?_
  exact ⟨_, _, .cons (.tmp rfl) <| .nil, Pur.pure, rfl⟩

theorem passL_len (T : Topo) (D : List Bool) (L : List Int) (dn : Int) (d : Nat) (l : List Int) : (passL T D L dn d l).length ≤ l.length := List.length_filter_le _ _
theorem nextL_len (T : Topo) (D : List Bool) (n d : Nat) (hl : T.links.length ≤ 256) : (nextL T D n d).length ≤ 512 := by
  unfold nextL
  split
  · simp
  · exact Nat.le_trans (passL_len _ _ _ _ _ _) (Nat.le_trans (outTo_len T n _) (by omega))
theorem routes_short (T : Topo) (D : List Bool) (n : Int) : TabS (routesE T D n) := by
  unfold routesE
  split
  · rename_i h
    obtain ⟨hv, _, _⟩ := chkE_zero h
    have hl := links_le hv
    have hN := (sound_of hv).nodes
    refine ⟨by simp only [routesT, toL_len]; omega, fun e he => ?_, Nat.le_trans (List.length_filter_le _ _) (Nat.le_trans (outTo_len T _ _) (by omega))⟩
    simp only [routesT, toL, List.mem_map] at he
    obtain ⟨d, _, rfl⟩ := he
    exact ⟨by simp, Nat.le_trans (nextL_len T D _ d hl) (by omega)⟩
  · exact ⟨by simp, (fun e he => by cases he), by simp⟩

set_option maxRecDepth 10000 in
set_option maxHeartbeats 1000000 in
theorem lawRoutes_can (T : Topo) (D : List Bool) (n : Int) : Can Tryd.prog 3 [topoV T, boolsV D, num n] (· = flag true) := by
  have hsame := rtab_can (routesE T D n) (routesE T D n) (routes_short T D n)
  rw [decide_eq_true rfl] at hsame
  have he : decide (chkE T D [n] = chkE T D [n]) = true := decide_eq_true rfl
  refine can_of Tryd.func3 rfl Tryd.ntmps3 rfl ?_
  refine W_cs (
    .val (y_boxPin rfl rfl rfl) rfl rfl rfl <|
    .val (y_assign rfl rfl) rfl rfl rfl <|
    .nil (.cons (k := 1) rfl <| .cons (k := 2) rfl <| .cons (k := 3) rfl <| Sub.nil _)) ?_
  refine W_seq ?_
  refine W_cs (
    .val (y_call rfl en_9 rfl rfl (awake_can)) rfl rfl rfl <|
    .val (y_not rfl rfl) rfl rfl rfl <|
    .nil (.cons (k := 1) rfl <| .cons (k := 2) rfl <| .cons (k := 3) rfl <| .cons (k := 12) rfl <| Sub.nil _)) ?_
  refine W_cond rfl (fun hc => ?_) (fun hc => ?_)
  · cases hc
  · refine W_skip ?_
    refine W_seq ?_
    refine W_cs (
      .val ((by first | exact y_loadPinAll rfl tk_25 rfl rfl | exact y_loadPtrAll rfl tk_25 rfl rfl rfl | exact y_loadPinAgg rfl tk_25 rfl rfl rfl | exact y_loadPtrAgg rfl tk_25 rfl rfl rfl rfl)) rfl rfl rfl <|
      .val (y_move rfl rfl) rfl rfl rfl <|
      .val (y_call rfl en_10 rfl rfl (large_can T D)) rfl rfl rfl <|
      .nil (.cons (k := 1) rfl <| .cons (k := 2) rfl <| .cons (k := 3) rfl <| .cons (k := 15) rfl <| Sub.nil _)) ?_
    refine W_cond rfl (fun hc => ?_) (fun hc => ?_)
    · refine W_cs (
        .val (y_assign rfl rfl) rfl rfl rfl <|
        .nil (.cons (k := 6) rfl <| Sub.nil _)) ?_
      refine W_ret ?_
      exact ⟨_, _, .cons (.tmp rfl) <| .nil, Pur.pure, rfl⟩
    · refine W_skip ?_
      refine W_rs ?_
      refine WR_val ((by first | exact y_loadPinAll rfl tk_25 rfl rfl | exact y_loadPtrAll rfl tk_25 rfl rfl rfl | exact y_loadPinAgg rfl tk_25 rfl rfl rfl | exact y_loadPtrAgg rfl tk_25 rfl rfl rfl rfl)) rfl rfl rfl ?_
      refine WR_val (y_move rfl rfl) rfl rfl rfl ?_
      refine WR_val (y_move rfl rfl) rfl rfl rfl ?_
      refine WR_val (y_call rfl en_11 rfl rfl (routes_can T D n)) rfl rfl rfl ?_
      refine WR_val (y_move rfl rfl) rfl rfl rfl ?_
      refine WR_val (y_extract rfl rfl rfl) rfl rfl rfl ?_
      refine WR_val (y_extract rfl rfl rfl) rfl rfl rfl ?_
      refine WR_loud (l_alloc rfl zk_31) rfl rfl rfl ?_
      refine WR_loud0 (l_store rfl tk_31 rfl rfl rfl rfl rfl (Nat.le_of_ble_eq_true rfl)) rfl rfl ?_
      refine WR_val (y_assign rfl rfl) rfl rfl rfl ?_
      refine WR_sub (.cons (k := 1) rfl <| .cons (k := 2) rfl <| .cons (k := 3) rfl <| .cons (k := 7) rfl <| .cons (k := 8) rfl <| Sub.nil _) (WR_nil ?_)
      refine W_sto (σ' := [some (.cells 31 (tabP (routesE T D n)))]) rfl ?_
      refine W_sealPtr 7 0 0 rfl rfl ?_
      refine W_ren [] (.cons 1 rfl Ren.pure <| .cons 2 rfl Ren.pure <| .cons 3 rfl Ren.pure <| .cons 7 rfl Ren.pure <| .cons 8 rfl Ren.pure .nil) .nil rfl rfl ?_
      refine W_rs ?_
      refine WR_val ((by first | exact y_loadPinAll rfl tk_25 rfl rfl | exact y_loadPtrAll rfl tk_25 rfl rfl rfl | exact y_loadPinAgg rfl tk_25 rfl rfl rfl | exact y_loadPtrAgg rfl tk_25 rfl rfl rfl rfl)) rfl rfl rfl ?_
      refine WR_val (y_move rfl rfl) rfl rfl rfl ?_
      refine WR_val (y_move rfl rfl) rfl rfl rfl ?_
      refine WR_val (y_call rfl en_12 rfl rfl (rroutes_can T D n)) rfl rfl rfl ?_
      refine WR_val (y_move rfl rfl) rfl rfl rfl ?_
      refine WR_val (y_extract rfl rfl rfl) rfl rfl rfl ?_
      refine WR_val (y_extract rfl rfl rfl) rfl rfl rfl ?_
      refine WR_loud (l_alloc rfl zk_31) rfl rfl rfl ?_
      refine WR_loud0 (l_store rfl tk_31 rfl rfl rfl rfl rfl (Nat.le_of_ble_eq_true rfl)) rfl rfl ?_
      refine WR_val (y_assign rfl rfl) rfl rfl rfl ?_
      refine WR_sub (.cons (k := 7) rfl <| .cons (k := 8) rfl <| .cons (k := 9) rfl <| .cons (k := 10) rfl <| Sub.nil _) (WR_nil ?_)
      refine W_sto (σ' := [some (.cells 31 (tabP (routesE T D n)))]) rfl ?_
      refine W_sealPtr 9 0 0 rfl rfl ?_
      refine W_ren [] (.cons 7 rfl Ren.pure <| .cons 8 rfl Ren.pure <| .cons 9 rfl Ren.pure <| .cons 10 rfl Ren.pure .nil) .nil rfl rfl ?_
      refine W_csB 6 (.raw (.bool (true))) ?_ ?_
      · exact .val (y_move rfl rfl) rfl rfl rfl <| .val (y_move rfl rfl) rfl rfl rfl <| .val (y_eql rfl rfl rfl he) rfl rfl rfl <| .val (y_move rfl rfl) rfl rfl rfl <| .val ((by first | exact y_loadPinAll rfl tk_31 rfl rfl | exact y_loadPtrAll rfl tk_31 rfl rfl rfl | exact y_loadPinAgg rfl tk_31 rfl rfl rfl | exact y_loadPtrAgg rfl tk_31 rfl rfl rfl rfl)) rfl rfl rfl <| .val ((by first | exact y_loadPinAll rfl tk_31 rfl rfl | exact y_loadPtrAll rfl tk_31 rfl rfl rfl | exact y_loadPinAgg rfl tk_31 rfl rfl rfl | exact y_loadPtrAgg rfl tk_31 rfl rfl rfl rfl)) rfl rfl rfl <| .val (y_call rfl en_13 rfl rfl (hsame)) rfl rfl rfl <| .val (y_pickT rfl rfl rfl) rfl rfl rfl <| .val (y_assign rfl rfl) rfl rfl rfl <| .nil (.cons (k := 6) rfl (.skip rfl <| .skip rfl <| .skip rfl <| .skip rfl <| .skip rfl <| .skip rfl <| .skip rfl <| .skip rfl <| .skip rfl <| Sub.refl _))
      refine W_ret ?_
      exact ⟨_, _, .cons (.tmp rfl) <| .nil, Pur.pure, rfl⟩
end PW
end Go.Proofs.YtkaalpdfppbdeaaDoor
