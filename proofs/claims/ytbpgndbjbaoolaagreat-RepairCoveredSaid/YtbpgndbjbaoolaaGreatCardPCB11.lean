/- Texts of the proof, part 11. -/
import Derived.Test.YtbpgndbjbaoolaaGreatCardPCB10
/- Package repair: assume, and the functions that it makes. -/
namespace Go.Proofs.YtbpgndbjbaoolaaGreat
set_option linter.unusedVariables false
set_option linter.unusedSimpArgs false
namespace PW
open Go.RowKit Reg Mem Net Rng

theorem W_orders2 {P : Program} {N L : Nat} {id : Nat} {l : List Oper} {y : Code} {st : St} {Q : Exit → St → Prop} (t' : Tms) (σ' : Sto) (t'' : Tms) (σ'' : Sto) (hm : P.follows .mixedOrders = true) (h : WA P N L l.toArray l.length (Array.replicate l.length false) st (fun s => (s.σ = σ' ∧ Sub s.t t') ∨ (s.σ = σ'' ∧ Sub s.t t''))) (hr : W P N L y ⟨t', σ'⟩ Q → W P N L y ⟨t'', σ''⟩ Q) (hq : W P N L y ⟨t', σ'⟩ Q) : W P N L (.seq (.region id l.toArray true) y) st Q :=
  W_orders1 hm (h.mono fun s hs => by
    obtain ⟨t, σ⟩ := s
    rcases hs with ⟨h1, h2⟩ | ⟨h1, h2⟩
    · subst h1; exact W_sub h2 hq
    · subst h1; exact W_sub h2 (hr hq))
theorem maskX_fits (T : Topo) (k x : Int) : fitsB T (maskX T k x) = true := by
  unfold maskX
  split
  · exact mask_fits T k x
  · exact fits_nil T
set_option maxRecDepth 10000 in
set_option maxHeartbeats 1000000 in
theorem asm1_can (T : Topo) (k x : Int) (n : Nat) (hv : validB T = true) (hn : (n : Int) < T.nodes) : Can Tryz.prog 129 ([compV k x] ++ [.pin (topoP T) 0, .pin [num n] 0]) (· = intsV (distL T (maskX T k x) n true)) := by
  have hmk := mask_can T k x
  unfold boolsE at hmk
  have hfr := from_can T (maskX T k x) n
  have hch : chkE T (maskX T k x) [(n : Int)] = 0 := by
    unfold chkE
    rw [hv, maskX_fits]
    simp [nodeB_iff.2 (show 0 ≤ (n : Int) ∧ (n : Int) < T.nodes by omega)]
  rw [hch] at hfr
  unfold intsE at hfr
  rw [if_pos rfl, Int.toNat_natCast] at hfr
  refine can_of Tryz.func129 rfl Tryz.ntmps129 rfl ?_
  refine W_cs (.a 2 rfl <| .k [1, 2, 3] rfl) ?_
  refine W_cs (.a 2 rfl <| .c rfl (hmk) rfl <| .a 5 rfl <| .k [1, 2, 5] rfl) ?_
  refine W_cs (.a 3 rfl <| .c rfl (hfr) rfl <| .a 5 rfl <| .k [7] rfl) ?_
  refine W_cs (.a 2 rfl <| .k [4] rfl) ?_
  refine W_ret ?_
  exact ⟨_, _, ResL.of rfl, Pur.pure, rfl⟩
set_option maxRecDepth 10000 in
set_option maxHeartbeats 1000000 in
theorem asm2_can (g : Int) (L : List Int) (d : Nat) (c2 : Bool) (hL : 0 < g → d < L.length ∧ decide (0 ≤ L.getD d 0) = c2) : Can Tryz.prog 130 ([num d] ++ [.pin (compP 3 g) 0, .pin [intsV L] 0]) (· = .tuple [compV 3 g, flag (decide (0 < g) && c2)]) := by
  obtain ⟨c1, hc1⟩ : ∃ q, decide (0 < g) = q := ⟨_, rfl⟩
  rw [hc1]
  refine can_of Tryz.func130 rfl Tryz.ntmps130 rfl ?_
  refine W_rs ?_
  refine WR_a 2 rfl <| WR_k [0, 1, 2, 4] rfl ?_
  refine W_seqM (Q1 := fun st => st = ⟨[(4, .ptr 0 0), (5, flag (c1 && c2))], [some (.cells 27 (compP 3 g))]⟩) ?_ ?_
  · cases c1
    · refine W_grd 20 1 ([some (.cells 27 [num 0, num 0])] :: [some (.cells 27 (compP 3 g))] :: []) (⟨_, none, 0, 0⟩ :: ⟨_, none, 0, 0⟩ :: ⟨_, none, 0, 0⟩ :: ⟨_, none, 0, 0⟩ :: ⟨_, none, 0, 0⟩ :: ⟨_, none, 0, 1⟩ :: ⟨_, none, 0, 1⟩ :: ⟨_, none, 0, 1⟩ :: ⟨_, none, 0, 1⟩ :: ⟨_, none, 0, 1⟩ :: ⟨_, none, 0, 1⟩ :: ⟨_, some 0, 0, 0⟩ :: ⟨_, none, 1, 1⟩ :: []) _ mixed ?grd1 rfl rfl rfl rfl (.cons (.val [1] rfl rfl (yz (ya1 (y_a rfl) ya0)) rfl rfl) <| .cons (.val [1] rfl rfl (yz (ya1 (y_a rfl) ya0)) rfl rfl) <| .cons (.val [7] rfl rfl (yz (ya1 (y_a rfl) ya0)) rfl rfl) <| .cons (.val [8] rfl rfl (yz (ya1 (y_q rfl (hc1)) ya0)) rfl rfl) <| .cons (.val [9] rfl rfl (yz (ya1 (y_a rfl) ya0)) rfl rfl) <| .cons (.skip rfl rfl rfl) <| .cons (.skip rfl rfl rfl) <| .cons (.skip rfl rfl rfl) <| .cons (.skip rfl rfl rfl) <| .cons (.skip rfl rfl rfl) <| .cons (.val [10, 15] rfl rfl (yz (ya1 (y_a rfl) (ya1 (y_a rfl) ya0))) rfl rfl) <| .cons (.loud0 [4, 6] rfl rfl rfl rfl (l_a rfl) rfl) <| .cons (.val [16] rfl rfl (yz (ya1 (y_a rfl) ya0)) rfl rfl) .nil) (keepT_sub (ks := [4, 5]) rfl) ?_
      case grd1 => kernel_rfl
      rfl
    · refine W_grd 20 1 ([some (.cells 27 [num 0, num 0])] :: [some (.cells 27 (compP 3 g))] :: []) (⟨_, none, 0, 0⟩ :: ⟨_, none, 0, 0⟩ :: ⟨_, none, 0, 0⟩ :: ⟨_, none, 0, 0⟩ :: ⟨_, none, 0, 0⟩ :: ⟨_, none, 0, 1⟩ :: ⟨_, none, 0, 1⟩ :: ⟨_, none, 0, 1⟩ :: ⟨_, none, 0, 1⟩ :: ⟨_, none, 0, 1⟩ :: ⟨_, none, 0, 1⟩ :: ⟨_, some 0, 0, 0⟩ :: ⟨_, none, 1, 1⟩ :: []) _ mixed ?grd2 rfl rfl rfl rfl (.cons (.val [1] rfl rfl (yz (ya1 (y_a rfl) ya0)) rfl rfl) <| .cons (.val [1] rfl rfl (yz (ya1 (y_a rfl) ya0)) rfl rfl) <| .cons (.val [7] rfl rfl (yz (ya1 (y_a rfl) ya0)) rfl rfl) <| .cons (.val [8] rfl rfl (yz (ya1 (y_q rfl (hc1)) ya0)) rfl rfl) <| .cons (.val [9] rfl rfl (yz (ya1 (y_a rfl) ya0)) rfl rfl) <| .cons (.val [2] rfl rfl (yz (ya1 (y_a rfl) (ya1 (y_a rfl) ya0))) rfl rfl) <| .cons (.val [0] rfl rfl (yz (ya1 (y_a rfl) (ya1 (y_a rfl) ya0))) rfl rfl) <| .cons (.val [11, 12] rfl rfl (yz (ya1 (y_ix (d) rfl (by omega) (by have := (hL (tt hc1)).1; omega)) (ya1 (y_ix (d) rfl (by omega) (by have := (hL (tt hc1)).1; omega)) ya0))) rfl rfl) <| .cons (.val [13] rfl rfl (yz (ya1 (y_ld rfl (ints_get L d (hL (tt hc1)).1)) (ya1 (y_ld rfl (ints_get L d (hL (tt hc1)).1)) ya0))) rfl rfl) <| .cons (.val [14] rfl rfl (yz (ya1 (y_q rfl ((hL (tt hc1)).2)) (ya1 (y_q rfl ((hL (tt hc1)).2)) ya0))) rfl rfl) <| .cons (.val [10, 15] rfl rfl (yz (ya1 (y_a rfl) (ya1 (y_a rfl) ya0))) rfl rfl) <| .cons (.loud0 [4, 6] rfl rfl rfl rfl (l_a rfl) rfl) <| .cons (.val [16] rfl rfl (yz (ya1 (y_a rfl) ya0)) rfl rfl) .nil) (keepT_sub (ks := [4, 5]) rfl) ?_
      case grd2 => kernel_rfl
      rfl
  rintro _ rfl
  refine W_ret ?_
  exact ⟨_, _, ResL.of rfl, Pur.pure (p := .tuple [compV 3 g, flag (c1 && c2)]), rfl⟩
set_option maxRecDepth 10000 in
set_option maxHeartbeats 1000000 in
theorem asm3_can (h : Int) (L : List Int) (d : Nat) (c2 : Bool) (hd : d < L.length) (hL : decide (0 ≤ L.getD d 0) = c2) : Can Tryz.prog 131 ([num d] ++ [.pin (compP 2 h) 0, .pin [num h] 0, .pin [intsV L] 0]) (· = .tuple [compV 2 h, flag (decide (h ≠ d) && c2)]) := by
  obtain ⟨c1, hc1⟩ : ∃ q, decide ((d : Int) ≠ h) = q := ⟨_, rfl⟩
  have hc1' : decide (h ≠ (d : Int)) = c1 := by rw [← hc1]; exact decide_eq_decide.2 ⟨fun e => e.symm, fun e => e.symm⟩
  rw [hc1']
  refine can_of Tryz.func131 rfl Tryz.ntmps131 rfl ?_
  refine W_rs ?_
  refine WR_a 2 rfl <| WR_k [0, 1, 2, 3, 5] rfl ?_
  refine W_seqM (Q1 := fun st => st = ⟨[(5, .ptr 0 0), (6, flag (c1 && c2))], [some (.cells 27 (compP 2 h))]⟩) ?_ ?_
  · cases c1
    · refine W_grd 20 1 ([some (.cells 27 [num 0, num 0])] :: [some (.cells 27 (compP 2 h))] :: []) (⟨_, none, 0, 0⟩ :: ⟨_, none, 0, 0⟩ :: ⟨_, none, 0, 0⟩ :: ⟨_, none, 0, 0⟩ :: ⟨_, none, 0, 0⟩ :: ⟨_, none, 0, 1⟩ :: ⟨_, none, 0, 1⟩ :: ⟨_, none, 0, 1⟩ :: ⟨_, none, 0, 1⟩ :: ⟨_, none, 0, 1⟩ :: ⟨_, none, 0, 1⟩ :: ⟨_, some 0, 0, 0⟩ :: ⟨_, none, 1, 1⟩ :: []) _ mixed ?grd3 rfl rfl rfl rfl (.cons (.val [1] rfl rfl (yz (ya1 (y_a rfl) ya0)) rfl rfl) <| .cons (.val [0] rfl rfl (yz (ya1 (y_a rfl) ya0)) rfl rfl) <| .cons (.val [2] rfl rfl (yz (ya1 (y_a rfl) ya0)) rfl rfl) <| .cons (.val [8, 9] rfl rfl (yz (ya1 (y_q rfl (hc1)) ya0)) rfl rfl) <| .cons (.val [10] rfl rfl (yz (ya1 (y_a rfl) ya0)) rfl rfl) <| .cons (.skip rfl rfl rfl) <| .cons (.skip rfl rfl rfl) <| .cons (.skip rfl rfl rfl) <| .cons (.skip rfl rfl rfl) <| .cons (.skip rfl rfl rfl) <| .cons (.val [11, 16] rfl rfl (yz (ya1 (y_a rfl) (ya1 (y_a rfl) ya0))) rfl rfl) <| .cons (.loud0 [5, 7] rfl rfl rfl rfl (l_a rfl) rfl) <| .cons (.val [17] rfl rfl (yz (ya1 (y_a rfl) ya0)) rfl rfl) .nil) (keepT_sub (ks := [5, 6]) rfl) ?_
      case grd3 => kernel_rfl
      rfl
    · refine W_grd 20 1 ([some (.cells 27 [num 0, num 0])] :: [some (.cells 27 (compP 2 h))] :: []) (⟨_, none, 0, 0⟩ :: ⟨_, none, 0, 0⟩ :: ⟨_, none, 0, 0⟩ :: ⟨_, none, 0, 0⟩ :: ⟨_, none, 0, 0⟩ :: ⟨_, none, 0, 1⟩ :: ⟨_, none, 0, 1⟩ :: ⟨_, none, 0, 1⟩ :: ⟨_, none, 0, 1⟩ :: ⟨_, none, 0, 1⟩ :: ⟨_, none, 0, 1⟩ :: ⟨_, some 0, 0, 0⟩ :: ⟨_, none, 1, 1⟩ :: []) _ mixed ?grd4 rfl rfl rfl rfl (.cons (.val [1] rfl rfl (yz (ya1 (y_a rfl) ya0)) rfl rfl) <| .cons (.val [0] rfl rfl (yz (ya1 (y_a rfl) ya0)) rfl rfl) <| .cons (.val [2] rfl rfl (yz (ya1 (y_a rfl) ya0)) rfl rfl) <| .cons (.val [8, 9] rfl rfl (yz (ya1 (y_q rfl (hc1)) ya0)) rfl rfl) <| .cons (.val [10] rfl rfl (yz (ya1 (y_a rfl) ya0)) rfl rfl) <| .cons (.val [3] rfl rfl (yz (ya1 (y_a rfl) (ya1 (y_a rfl) ya0))) rfl rfl) <| .cons (.val [0] rfl rfl (yz (ya1 (y_a rfl) (ya1 (y_a rfl) ya0))) rfl rfl) <| .cons (.val [12, 13] rfl rfl (yz (ya1 (y_ix (d) rfl) (ya1 (y_ix (d) rfl) ya0))) rfl rfl) <| .cons (.val [14] rfl rfl (yz (ya1 (y_ld rfl (ints_get L d hd)) (ya1 (y_ld rfl (ints_get L d hd)) ya0))) rfl rfl) <| .cons (.val [15] rfl rfl (yz (ya1 (y_q rfl (hL)) (ya1 (y_q rfl (hL)) ya0))) rfl rfl) <| .cons (.val [11, 16] rfl rfl (yz (ya1 (y_a rfl) (ya1 (y_a rfl) ya0))) rfl rfl) <| .cons (.loud0 [5, 7] rfl rfl rfl rfl (l_a rfl) rfl) <| .cons (.val [17] rfl rfl (yz (ya1 (y_a rfl) ya0)) rfl rfl) .nil) (keepT_sub (ks := [5, 6]) rfl) ?_
      case grd4 => kernel_rfl
      rfl
  rintro _ rfl
  refine W_ret ?_
  exact ⟨_, _, ResL.of rfl, Pur.pure (p := .tuple [compV 2 h, flag (c1 && c2)]), rfl⟩
/-- The function that repair.assume returns. -/
def F2 (g : Int) (L : List Int) : PV := .func 130 [.pin (compP 3 g) 0, .pin [intsV L] 0]
def F3 (h : Int) (L : List Int) : PV := .func 131 [.pin (compP 2 h) 0, .pin [num h] 0, .pin [intsV L] 0]
def asmC (g h k : Int) (L M : List Int) : List PV := [.pin [.slice 2 [F2 g L, F3 h M]] 0, .pin (compP 1 k) 0]
instance (g : Int) (L : List Int) : IsPure (F2 g L) := by unfold F2; infer_instance
instance (g : Int) (L : List Int) : IsPure (F3 g L) := by unfold F3; infer_instance
instance (g h k : Int) (L M : List Int) : IsPureL (asmC g h k L M) := by unfold asmC; infer_instance
set_option maxRecDepth 10000 in
set_option maxHeartbeats 1000000 in
theorem asm4_can (g h k : Int) (L M : List Int) (d : Nat) (c2 c4 : Bool) (hL : 0 < g → d < L.length ∧ decide (0 ≤ L.getD d 0) = c2) (hd : d < M.length) (hM : decide (0 ≤ M.getD d 0) = c4) : Can Tryz.prog 132 ([num d] ++ asmC g h k L M) (· = if (decide (0 < g) && c2) = true then compV 3 g else if (decide (h ≠ d) && c4) = true then compV 2 h else compV 1 k) := by
  have h2 := asm2_can g L d c2 hL
  have h3 := asm3_can h M d c4 hd hM
  obtain ⟨o1, ho1⟩ : ∃ o, (decide (0 < g) && c2) = o := ⟨_, rfl⟩
  obtain ⟨o2, ho2⟩ : ∃ o, (decide (h ≠ (d : Int)) && c4) = o := ⟨_, rfl⟩
  rw [ho1] at h2 ⊢
  rw [ho2] at h3 ⊢
  have hrule : ∀ i, i < 2 → ∃ f cap, [F2 g L, F3 h M][i]? = some (.func f cap) ∧ enters Tryz.prog f = true ∧ IsPureL ([num d] ++ cap) ∧ Can Tryz.prog f ([num d] ++ cap) (· = .tuple [if i = 0 then compV 3 g else compV 2 h, flag (if i = 0 then o1 else o2)]) := fun i hi => by
    match i, hi with
    | 0, _ => exact ⟨_, _, rfl, by kernel_rfl, inferInstance, h2⟩
    | 1, _ => exact ⟨_, _, rfl, by kernel_rfl, inferInstance, h3⟩
  unfold asmC
  refine can_of Tryz.func132 rfl Tryz.ntmps132 rfl ?_
  refine W_rs ?_
  refine WR_a 1 rfl <| WR_k [0, 1, 2, 4] rfl ?_
  refine W_seq ?_
  refine W_cs (.a 3 rfl <| .k [0, 2, 4, 9, 10, 11] rfl) ?_
  refine W_block ?_
  refine W_k [0, 2, 4, 9, 10, 11] rfl ?_
  refine W_loop (fun r s => ∃ i, i ≤ 2 ∧ r = 2 - i ∧ (1 ≤ i → o1 = false) ∧ (i = 2 → o2 = false) ∧ s = ⟨[(0, num d), (2, .pin (compP 1 k) 0), (4, .ptr 0 0), (9, .slice 2 [F2 g L, F3 h M]), (10, num 2), (11, num i)], [some (.cells 27 [num 0, num 0])]⟩) 2 ⟨0, by omega, by omega, fun h => by omega, fun h => by omega, rfl⟩ ?_
  rintro r s ⟨i, hi, rfl, hi1, hi2, rfl⟩
  refine W_cs (.a 1 rfl <| .k [0, 2, 4, 9, 10, 11, 12] rfl) ?_
  refine W_seq ?_
  refine W_cond rfl (fun h1 => ?_) (fun h1 => ?_)
  · have hlt : i < 2 := by have := tt h1; omega
    obtain ⟨f, cap, hf, hen, hpu, hcan⟩ := hrule i hlt
    obtain ⟨kx, kn, hkx⟩ : ∃ kx kn, (if i = 0 then compV 3 g else compV 2 h) = compV kx kn := by
      split
      · exact ⟨_, _, rfl⟩
      · exact ⟨_, _, rfl⟩
    obtain ⟨o, ho⟩ : ∃ o, (if i = 0 then o1 else o2) = o := ⟨_, rfl⟩
    rw [ho, hkx] at hcan
    haveI := hpu
    refine W_skip ?_
    refine W_seq ?_
    refine W_block ?_
    refine W_cs (.v (y_ix (i) rfl) rfl <| .v (y_ld rfl (hf)) rfl <| .a 1 rfl <| .k [0, 2, 4, 6, 9, 10, 11] rfl) ?_
    refine W_rs ?_
    refine WR_a 2 rfl <| WR_v (y_call rfl hen rfl rfl hcan) rfl <| WR_a 6 rfl <| WR_k [0, 2, 4, 7, 8, 9, 10, 11] rfl ?_
    refine W_cs (.a 1 rfl <| .k [0, 2, 4, 7, 9, 10, 11, 21] rfl) ?_
    refine W_cond rfl (fun h2 => ?_) (fun h2 => ?_)
    · subst h2
      refine W_rs ?_
      refine WR_a 2 rfl <| WR_k [4] rfl ?_
      refine W_ret ?_
      refine ⟨_, _, ResL.of rfl, Pur.pure (p := compV kx kn), ?_⟩
      rw [← hkx]
      by_cases e : i = 0
      · rw [if_pos e] at ho ⊢
        rw [if_pos ho]
      · rw [if_neg e] at ho ⊢
        rw [if_neg (by rw [hi1 (by omega)]; simp), if_pos ho]
    · subst h2
      refine W_skip ?_
      refine W_ren [0] (.c 0 <| .c 2 <| .c 4 <| .c 9 <| .c 10 <| .c 11 <| .nil) (.kept rfl (.cells RenL.pure) <| .nil) rfl rfl ?_
      refine W_chain (.v (y_ar rfl) rfl <| .a 1 rfl <| .k [0, 2, 4, 9, 10, 11] rfl) ?_
      refine ⟨2 - (i + 1), by omega, i + 1, by omega, rfl, fun _ => ?_, fun e => ?_, rfl⟩
      · by_cases e : i = 0
        · rw [if_pos e] at ho; exact ho
        · exact hi1 (by omega)
      · rw [if_neg (by omega)] at ho; exact ho
  · have hie : i = 2 := by have := ff h1; omega
    subst hie
    rw [if_neg (by rw [hi1 (by omega)]; simp), if_neg (by rw [hi2 rfl]; simp)]
    refine W_exit ?_
    refine W_rs ?_
    refine WR_a 2 rfl <| WR_k [4] rfl ?_
    refine W_ret ?_
    exact ⟨_, _, ResL.of rfl, Pur.pure (p := compV 1 k), rfl⟩
noncomputable def wgL (T : Topo) (a : Nat) : List Int := if 0 < grpN T a then distL T (maskX T 3 (grpN T a)) (tailN T a).toNat true else []
noncomputable def wnL (T : Topo) (a : Nat) : List Int := distL T (maskX T 2 (headN T a)) (tailN T a).toNat true
set_option maxRecDepth 10000 in
set_option maxHeartbeats 4000000 in
theorem assume_can (T : Topo) (a : Nat) (hv : validB T = true) (ha : a < 2 * T.links.length) : Can Tryz.prog 89 [topoV T, num a] (· = .func 132 (asmC (grpN T a) (headN T a) ((a / 2 : Nat) : Int) (wgL T a) (wnL T a))) := by
  have hll := links_le hv
  have hi : a / 2 < T.links.length := by omega
  have hS := sound_of hv
  have htl := tail_can T a ha
  have hhd := head_can T a ha (by omega)
  obtain ⟨n, hn⟩ := Int.eq_ofNat_of_zero_le (hS.tail a ha).1
  have hnN : (n : Int) < T.nodes := by rw [← hn]; exact (hS.tail a ha).2
  have hL : wgL T a = if 0 < grpN T a then distL T (maskX T 3 (grpN T a)) n true else [] := by unfold wgL; rw [hn, Int.toNat_natCast]
  have hM : wnL T a = distL T (maskX T 2 (headN T a)) n true := by unfold wnL; rw [hn, Int.toNat_natCast]
  rw [hn] at htl
  obtain ⟨h, hh⟩ : ∃ h, headN T a = h := ⟨_, rfl⟩
  obtain ⟨g, hg⟩ : ∃ g, grpN T a = g := ⟨_, rfl⟩
  have hgl : (lnk T.links (a / 2)).grp = g := hg
  rw [hh] at hhd hM
  rw [hg] at hL
  rw [hL, hM, hh, hg]
  have h1 := fun k x => asm1_can T k x n hv hnN
  obtain ⟨c1, hc1⟩ : ∃ q, decide (0 < g) = q := ⟨_, rfl⟩
  refine can_of Tryz.func89 rfl Tryz.ntmps89 rfl ?_
  refine W_cs (.a 2 rfl <| .k [1, 2] rfl) ?_
  refine W_orders2 ([(1, num a), (2, .pin (topoP T) 0), (5, .ptr 0 0), (6, .ptr 1 0)]) ([some (.cells 3 [num n]), some (.cells 3 [num h])]) ([(1, num a), (2, .pin (topoP T) 0), (5, .ptr 1 0), (6, .ptr 0 0)]) ([some (.cells 3 [num h]), some (.cells 3 [num n])]) mixed ?_ (fun hh => W_ren [1, 0] (.c 1 <| .c 2 <| .c 5 <| .c 6 <| .nil) (.kept rfl (.cells RenL.pure) <| .kept rfl (.cells RenL.pure) <| .nil) rfl rfl hh) ?_
  · refine memo_intro (fun ops hops => ?_)
    have m1111111111_67 : WA Tryz.prog 47 0 ops 0 #[true, true, true, true, true, true, true, true, true, true] ⟨[(1, num a), (2, .pin (topoP T) 0), (5, .ptr 0 0), (6, .ptr 1 0), (14, topoV T), (15, num a), (16, num n), (17, topoV T), (18, num a), (19, num h)], [some (.cells 3 [num n]), some (.cells 3 [num h])]⟩ (fun s => (s.σ = [some (.cells 3 [num n]), some (.cells 3 [num h])] ∧ Sub s.t [(1, num a), (2, .pin (topoP T) 0), (5, .ptr 0 0), (6, .ptr 1 0)]) ∨ (s.σ = [some (.cells 3 [num h]), some (.cells 3 [num n])] ∧ Sub s.t [(1, num a), (2, .pin (topoP T) 0), (5, .ptr 1 0), (6, .ptr 0 0)])) := by
      subst hops
      exact WA_nil (by kernel_rfl) (.inl ⟨rfl, keepT_sub (ks := [1, 2, 5, 6]) rfl⟩)
    have m1111111110_67 : WA Tryz.prog 47 0 ops 1 #[true, true, true, true, true, true, true, true, true, false] ⟨[(1, num a), (2, .pin (topoP T) 0), (5, .ptr 0 0), (6, .ptr 1 0), (14, topoV T), (15, num a), (16, num n), (17, topoV T), (18, num a), (19, num h)], [some (.cells 3 [num n]), some (.cells 3 [num 0])]⟩ (fun s => (s.σ = [some (.cells 3 [num n]), some (.cells 3 [num h])] ∧ Sub s.t [(1, num a), (2, .pin (topoP T) 0), (5, .ptr 0 0), (6, .ptr 1 0)]) ∨ (s.σ = [some (.cells 3 [num h]), some (.cells 3 [num n])] ∧ Sub s.t [(1, num a), (2, .pin (topoP T) 0), (5, .ptr 1 0), (6, .ptr 0 0)])) := by
      subst hops
      refine WA_step 9 [] (by kernel_rfl) ?_
      exact WAs_cons rfl rfl (WR_loud0 (l_a rfl) rfl rfl (WR_k [1, 2, 5, 6, 14, 15, 16, 17, 18, 19] rfl m1111111111_67)) (WAs_nil)
    have m1111111100_67 : WA Tryz.prog 47 0 ops 2 #[true, true, true, true, true, true, true, true, false, false] ⟨[(1, num a), (2, .pin (topoP T) 0), (5, .ptr 0 0), (6, .ptr 1 0), (14, topoV T), (15, num a), (16, num n), (17, topoV T), (18, num a), (19, num h)], [some (.cells 3 [num 0]), some (.cells 3 [num 0])]⟩ (fun s => (s.σ = [some (.cells 3 [num n]), some (.cells 3 [num h])] ∧ Sub s.t [(1, num a), (2, .pin (topoP T) 0), (5, .ptr 0 0), (6, .ptr 1 0)]) ∨ (s.σ = [some (.cells 3 [num h]), some (.cells 3 [num n])] ∧ Sub s.t [(1, num a), (2, .pin (topoP T) 0), (5, .ptr 1 0), (6, .ptr 0 0)])) := by
      subst hops
      refine WA_step 8 [] (by kernel_rfl) ?_
      exact WAs_cons rfl rfl (WR_loud0 (l_a rfl) rfl rfl (WR_k [1, 2, 5, 6, 14, 15, 16, 17, 18, 19] rfl m1111111110_67)) (WAs_nil)
    have m1111111000_6 : WA Tryz.prog 47 0 ops 3 #[true, true, true, true, true, true, true, false, false, false] ⟨[(1, num a), (2, .pin (topoP T) 0), (5, .ptr 0 0), (14, topoV T), (15, num a), (16, num n), (17, topoV T), (18, num a), (19, num h)], [some (.cells 3 [num 0])]⟩ (fun s => (s.σ = [some (.cells 3 [num n]), some (.cells 3 [num h])] ∧ Sub s.t [(1, num a), (2, .pin (topoP T) 0), (5, .ptr 0 0), (6, .ptr 1 0)]) ∨ (s.σ = [some (.cells 3 [num h]), some (.cells 3 [num n])] ∧ Sub s.t [(1, num a), (2, .pin (topoP T) 0), (5, .ptr 1 0), (6, .ptr 0 0)])) := by
      subst hops
      refine WA_step 7 [] (by kernel_rfl) ?_
      exact WAs_cons rfl rfl (WR_l (l_a rfl) rfl (WR_k [1, 2, 5, 6, 14, 15, 16, 17, 18, 19] rfl m1111111100_67)) (WAs_nil)
    have m1111111111_76 : WA Tryz.prog 47 0 ops 0 #[true, true, true, true, true, true, true, true, true, true] ⟨[(1, num a), (2, .pin (topoP T) 0), (5, .ptr 1 0), (6, .ptr 0 0), (14, topoV T), (15, num a), (16, num n), (17, topoV T), (18, num a), (19, num h)], [some (.cells 3 [num h]), some (.cells 3 [num n])]⟩ (fun s => (s.σ = [some (.cells 3 [num n]), some (.cells 3 [num h])] ∧ Sub s.t [(1, num a), (2, .pin (topoP T) 0), (5, .ptr 0 0), (6, .ptr 1 0)]) ∨ (s.σ = [some (.cells 3 [num h]), some (.cells 3 [num n])] ∧ Sub s.t [(1, num a), (2, .pin (topoP T) 0), (5, .ptr 1 0), (6, .ptr 0 0)])) := by
      subst hops
      exact WA_nil (by kernel_rfl) (.inr ⟨rfl, keepT_sub (ks := [1, 2, 5, 6]) rfl⟩)
    have m1111111110_76 : WA Tryz.prog 47 0 ops 1 #[true, true, true, true, true, true, true, true, true, false] ⟨[(1, num a), (2, .pin (topoP T) 0), (5, .ptr 1 0), (6, .ptr 0 0), (14, topoV T), (15, num a), (16, num n), (17, topoV T), (18, num a), (19, num h)], [some (.cells 3 [num 0]), some (.cells 3 [num n])]⟩ (fun s => (s.σ = [some (.cells 3 [num n]), some (.cells 3 [num h])] ∧ Sub s.t [(1, num a), (2, .pin (topoP T) 0), (5, .ptr 0 0), (6, .ptr 1 0)]) ∨ (s.σ = [some (.cells 3 [num h]), some (.cells 3 [num n])] ∧ Sub s.t [(1, num a), (2, .pin (topoP T) 0), (5, .ptr 1 0), (6, .ptr 0 0)])) := by
      subst hops
      refine WA_step 9 [] (by kernel_rfl) ?_
      exact WAs_cons rfl rfl (WR_loud0 (l_a rfl) rfl rfl (WR_k [1, 2, 5, 6, 14, 15, 16, 17, 18, 19] rfl m1111111111_76)) (WAs_nil)
    have m1111111100_76 : WA Tryz.prog 47 0 ops 2 #[true, true, true, true, true, true, true, true, false, false] ⟨[(1, num a), (2, .pin (topoP T) 0), (5, .ptr 1 0), (6, .ptr 0 0), (14, topoV T), (15, num a), (16, num n), (17, topoV T), (18, num a), (19, num h)], [some (.cells 3 [num 0]), some (.cells 3 [num 0])]⟩ (fun s => (s.σ = [some (.cells 3 [num n]), some (.cells 3 [num h])] ∧ Sub s.t [(1, num a), (2, .pin (topoP T) 0), (5, .ptr 0 0), (6, .ptr 1 0)]) ∨ (s.σ = [some (.cells 3 [num h]), some (.cells 3 [num n])] ∧ Sub s.t [(1, num a), (2, .pin (topoP T) 0), (5, .ptr 1 0), (6, .ptr 0 0)])) := by
      subst hops
      refine WA_step 8 [] (by kernel_rfl) ?_
      exact WAs_cons rfl rfl (WR_loud0 (l_a rfl) rfl rfl (WR_k [1, 2, 5, 6, 14, 15, 16, 17, 18, 19] rfl m1111111110_76)) (WAs_nil)
    have m1111110100_7 : WA Tryz.prog 47 0 ops 3 #[true, true, true, true, true, true, false, true, false, false] ⟨[(1, num a), (2, .pin (topoP T) 0), (6, .ptr 0 0), (14, topoV T), (15, num a), (16, num n), (17, topoV T), (18, num a), (19, num h)], [some (.cells 3 [num 0])]⟩ (fun s => (s.σ = [some (.cells 3 [num n]), some (.cells 3 [num h])] ∧ Sub s.t [(1, num a), (2, .pin (topoP T) 0), (5, .ptr 0 0), (6, .ptr 1 0)]) ∨ (s.σ = [some (.cells 3 [num h]), some (.cells 3 [num n])] ∧ Sub s.t [(1, num a), (2, .pin (topoP T) 0), (5, .ptr 1 0), (6, .ptr 0 0)])) := by
      subst hops
      refine WA_step 6 [] (by kernel_rfl) ?_
      exact WAs_cons rfl rfl (WR_l (l_a rfl) rfl (WR_k [1, 2, 5, 6, 14, 15, 16, 17, 18, 19] rfl m1111111100_76)) (WAs_nil)
    have m1111110000_ : WA Tryz.prog 47 0 ops 4 #[true, true, true, true, true, true, false, false, false, false] ⟨[(1, num a), (2, .pin (topoP T) 0), (14, topoV T), (15, num a), (16, num n), (17, topoV T), (18, num a), (19, num h)], []⟩ (fun s => (s.σ = [some (.cells 3 [num n]), some (.cells 3 [num h])] ∧ Sub s.t [(1, num a), (2, .pin (topoP T) 0), (5, .ptr 0 0), (6, .ptr 1 0)]) ∨ (s.σ = [some (.cells 3 [num h]), some (.cells 3 [num n])] ∧ Sub s.t [(1, num a), (2, .pin (topoP T) 0), (5, .ptr 1 0), (6, .ptr 0 0)])) := by
      subst hops
      refine WA_step 6 [7] (by kernel_rfl) ?_
      exact WAs_cons rfl rfl (WR_l (l_a rfl) rfl (WR_k [1, 2, 5, 14, 15, 16, 17, 18, 19] rfl m1111111000_6)) (WAs_cons rfl rfl (WR_l (l_a rfl) rfl (WR_k [1, 2, 6, 14, 15, 16, 17, 18, 19] rfl m1111110100_7)) (WAs_nil))
    have m1111101100_67 : WA Tryz.prog 47 0 ops 3 #[true, true, true, true, true, false, true, true, false, false] ⟨[(1, num a), (2, .pin (topoP T) 0), (5, .ptr 0 0), (6, .ptr 1 0), (14, topoV T), (15, num a), (16, num n), (17, topoV T), (18, num a)], [some (.cells 3 [num 0]), some (.cells 3 [num 0])]⟩ (fun s => (s.σ = [some (.cells 3 [num n]), some (.cells 3 [num h])] ∧ Sub s.t [(1, num a), (2, .pin (topoP T) 0), (5, .ptr 0 0), (6, .ptr 1 0)]) ∨ (s.σ = [some (.cells 3 [num h]), some (.cells 3 [num n])] ∧ Sub s.t [(1, num a), (2, .pin (topoP T) 0), (5, .ptr 1 0), (6, .ptr 0 0)])) := by
      subst hops
      refine WA_step 5 [] (by kernel_rfl) ?_
      exact WAs_cons rfl rfl (WR_v (y_c rfl (hhd)) rfl (WR_k [1, 2, 5, 6, 14, 15, 16, 17, 18, 19] rfl m1111111100_67)) (WAs_nil)
    have m1111101000_6 : WA Tryz.prog 47 0 ops 4 #[true, true, true, true, true, false, true, false, false, false] ⟨[(1, num a), (2, .pin (topoP T) 0), (5, .ptr 0 0), (14, topoV T), (15, num a), (16, num n), (17, topoV T), (18, num a)], [some (.cells 3 [num 0])]⟩ (fun s => (s.σ = [some (.cells 3 [num n]), some (.cells 3 [num h])] ∧ Sub s.t [(1, num a), (2, .pin (topoP T) 0), (5, .ptr 0 0), (6, .ptr 1 0)]) ∨ (s.σ = [some (.cells 3 [num h]), some (.cells 3 [num n])] ∧ Sub s.t [(1, num a), (2, .pin (topoP T) 0), (5, .ptr 1 0), (6, .ptr 0 0)])) := by
      subst hops
      refine WA_step 5 [7] (by kernel_rfl) ?_
      exact WAs_cons rfl rfl (WR_v (y_c rfl (hhd)) rfl (WR_k [1, 2, 5, 14, 15, 16, 17, 18, 19] rfl m1111111000_6)) (WAs_cons rfl rfl (WR_l (l_a rfl) rfl (WR_k [1, 2, 5, 6, 14, 15, 16, 17, 18] rfl m1111101100_67)) (WAs_nil))
    have m1111101100_76 : WA Tryz.prog 47 0 ops 3 #[true, true, true, true, true, false, true, true, false, false] ⟨[(1, num a), (2, .pin (topoP T) 0), (5, .ptr 1 0), (6, .ptr 0 0), (14, topoV T), (15, num a), (16, num n), (17, topoV T), (18, num a)], [some (.cells 3 [num 0]), some (.cells 3 [num 0])]⟩ (fun s => (s.σ = [some (.cells 3 [num n]), some (.cells 3 [num h])] ∧ Sub s.t [(1, num a), (2, .pin (topoP T) 0), (5, .ptr 0 0), (6, .ptr 1 0)]) ∨ (s.σ = [some (.cells 3 [num h]), some (.cells 3 [num n])] ∧ Sub s.t [(1, num a), (2, .pin (topoP T) 0), (5, .ptr 1 0), (6, .ptr 0 0)])) := by
      subst hops
      refine WA_step 5 [] (by kernel_rfl) ?_
      exact WAs_cons rfl rfl (WR_v (y_c rfl (hhd)) rfl (WR_k [1, 2, 5, 6, 14, 15, 16, 17, 18, 19] rfl m1111111100_76)) (WAs_nil)
    have m1111100100_7 : WA Tryz.prog 47 0 ops 4 #[true, true, true, true, true, false, false, true, false, false] ⟨[(1, num a), (2, .pin (topoP T) 0), (6, .ptr 0 0), (14, topoV T), (15, num a), (16, num n), (17, topoV T), (18, num a)], [some (.cells 3 [num 0])]⟩ (fun s => (s.σ = [some (.cells 3 [num n]), some (.cells 3 [num h])] ∧ Sub s.t [(1, num a), (2, .pin (topoP T) 0), (5, .ptr 0 0), (6, .ptr 1 0)]) ∨ (s.σ = [some (.cells 3 [num h]), some (.cells 3 [num n])] ∧ Sub s.t [(1, num a), (2, .pin (topoP T) 0), (5, .ptr 1 0), (6, .ptr 0 0)])) := by
      subst hops
      refine WA_step 5 [6] (by kernel_rfl) ?_
      exact WAs_cons rfl rfl (WR_v (y_c rfl (hhd)) rfl (WR_k [1, 2, 6, 14, 15, 16, 17, 18, 19] rfl m1111110100_7)) (WAs_cons rfl rfl (WR_l (l_a rfl) rfl (WR_k [1, 2, 5, 6, 14, 15, 16, 17, 18] rfl m1111101100_76)) (WAs_nil))
    have m1111100000_ : WA Tryz.prog 47 0 ops 5 #[true, true, true, true, true, false, false, false, false, false] ⟨[(1, num a), (2, .pin (topoP T) 0), (14, topoV T), (15, num a), (16, num n), (17, topoV T), (18, num a)], []⟩ (fun s => (s.σ = [some (.cells 3 [num n]), some (.cells 3 [num h])] ∧ Sub s.t [(1, num a), (2, .pin (topoP T) 0), (5, .ptr 0 0), (6, .ptr 1 0)]) ∨ (s.σ = [some (.cells 3 [num h]), some (.cells 3 [num n])] ∧ Sub s.t [(1, num a), (2, .pin (topoP T) 0), (5, .ptr 1 0), (6, .ptr 0 0)])) := by
      subst hops
      refine WA_step 5 [6, 7] (by kernel_rfl) ?_
      exact WAs_cons rfl rfl (WR_v (y_c rfl (hhd)) rfl (WR_k [1, 2, 14, 15, 16, 17, 18, 19] rfl m1111110000_)) (WAs_cons rfl rfl (WR_l (l_a rfl) rfl (WR_k [1, 2, 5, 14, 15, 16, 17, 18] rfl m1111101000_6)) (WAs_cons rfl rfl (WR_l (l_a rfl) rfl (WR_k [1, 2, 6, 14, 15, 16, 17, 18] rfl m1111100100_7)) (WAs_nil)))
    have m1111001100_67 : WA Tryz.prog 47 0 ops 4 #[true, true, true, true, false, false, true, true, false, false] ⟨[(1, num a), (2, .pin (topoP T) 0), (5, .ptr 0 0), (6, .ptr 1 0), (14, topoV T), (15, num a), (16, num n), (17, topoV T)], [some (.cells 3 [num 0]), some (.cells 3 [num 0])]⟩ (fun s => (s.σ = [some (.cells 3 [num n]), some (.cells 3 [num h])] ∧ Sub s.t [(1, num a), (2, .pin (topoP T) 0), (5, .ptr 0 0), (6, .ptr 1 0)]) ∨ (s.σ = [some (.cells 3 [num h]), some (.cells 3 [num n])] ∧ Sub s.t [(1, num a), (2, .pin (topoP T) 0), (5, .ptr 1 0), (6, .ptr 0 0)])) := by
      subst hops
      refine WA_step 4 [] (by kernel_rfl) ?_
      exact WAs_cons rfl rfl (WR_v (y_a rfl) rfl (WR_k [1, 2, 5, 6, 14, 15, 16, 17, 18] rfl m1111101100_67)) (WAs_nil)
    have m1111001000_6 : WA Tryz.prog 47 0 ops 5 #[true, true, true, true, false, false, true, false, false, false] ⟨[(1, num a), (2, .pin (topoP T) 0), (5, .ptr 0 0), (14, topoV T), (15, num a), (16, num n), (17, topoV T)], [some (.cells 3 [num 0])]⟩ (fun s => (s.σ = [some (.cells 3 [num n]), some (.cells 3 [num h])] ∧ Sub s.t [(1, num a), (2, .pin (topoP T) 0), (5, .ptr 0 0), (6, .ptr 1 0)]) ∨ (s.σ = [some (.cells 3 [num h]), some (.cells 3 [num n])] ∧ Sub s.t [(1, num a), (2, .pin (topoP T) 0), (5, .ptr 1 0), (6, .ptr 0 0)])) := by
      subst hops
      refine WA_step 4 [7] (by kernel_rfl) ?_
      exact WAs_cons rfl rfl (WR_v (y_a rfl) rfl (WR_k [1, 2, 5, 14, 15, 16, 17, 18] rfl m1111101000_6)) (WAs_cons rfl rfl (WR_l (l_a rfl) rfl (WR_k [1, 2, 5, 6, 14, 15, 16, 17] rfl m1111001100_67)) (WAs_nil))
    have m1111001100_76 : WA Tryz.prog 47 0 ops 4 #[true, true, true, true, false, false, true, true, false, false] ⟨[(1, num a), (2, .pin (topoP T) 0), (5, .ptr 1 0), (6, .ptr 0 0), (14, topoV T), (15, num a), (16, num n), (17, topoV T)], [some (.cells 3 [num 0]), some (.cells 3 [num 0])]⟩ (fun s => (s.σ = [some (.cells 3 [num n]), some (.cells 3 [num h])] ∧ Sub s.t [(1, num a), (2, .pin (topoP T) 0), (5, .ptr 0 0), (6, .ptr 1 0)]) ∨ (s.σ = [some (.cells 3 [num h]), some (.cells 3 [num n])] ∧ Sub s.t [(1, num a), (2, .pin (topoP T) 0), (5, .ptr 1 0), (6, .ptr 0 0)])) := by
      subst hops
      refine WA_step 4 [] (by kernel_rfl) ?_
      exact WAs_cons rfl rfl (WR_v (y_a rfl) rfl (WR_k [1, 2, 5, 6, 14, 15, 16, 17, 18] rfl m1111101100_76)) (WAs_nil)
    have m1111000100_7 : WA Tryz.prog 47 0 ops 5 #[true, true, true, true, false, false, false, true, false, false] ⟨[(1, num a), (2, .pin (topoP T) 0), (6, .ptr 0 0), (14, topoV T), (15, num a), (16, num n), (17, topoV T)], [some (.cells 3 [num 0])]⟩ (fun s => (s.σ = [some (.cells 3 [num n]), some (.cells 3 [num h])] ∧ Sub s.t [(1, num a), (2, .pin (topoP T) 0), (5, .ptr 0 0), (6, .ptr 1 0)]) ∨ (s.σ = [some (.cells 3 [num h]), some (.cells 3 [num n])] ∧ Sub s.t [(1, num a), (2, .pin (topoP T) 0), (5, .ptr 1 0), (6, .ptr 0 0)])) := by
      subst hops
      refine WA_step 4 [6] (by kernel_rfl) ?_
      exact WAs_cons rfl rfl (WR_v (y_a rfl) rfl (WR_k [1, 2, 6, 14, 15, 16, 17, 18] rfl m1111100100_7)) (WAs_cons rfl rfl (WR_l (l_a rfl) rfl (WR_k [1, 2, 5, 6, 14, 15, 16, 17] rfl m1111001100_76)) (WAs_nil))
    have m1111000000_ : WA Tryz.prog 47 0 ops 6 #[true, true, true, true, false, false, false, false, false, false] ⟨[(1, num a), (2, .pin (topoP T) 0), (14, topoV T), (15, num a), (16, num n), (17, topoV T)], []⟩ (fun s => (s.σ = [some (.cells 3 [num n]), some (.cells 3 [num h])] ∧ Sub s.t [(1, num a), (2, .pin (topoP T) 0), (5, .ptr 0 0), (6, .ptr 1 0)]) ∨ (s.σ = [some (.cells 3 [num h]), some (.cells 3 [num n])] ∧ Sub s.t [(1, num a), (2, .pin (topoP T) 0), (5, .ptr 1 0), (6, .ptr 0 0)])) := by
      subst hops
      refine WA_step 4 [6, 7] (by kernel_rfl) ?_
      exact WAs_cons rfl rfl (WR_v (y_a rfl) rfl (WR_k [1, 2, 14, 15, 16, 17, 18] rfl m1111100000_)) (WAs_cons rfl rfl (WR_l (l_a rfl) rfl (WR_k [1, 2, 5, 14, 15, 16, 17] rfl m1111001000_6)) (WAs_cons rfl rfl (WR_l (l_a rfl) rfl (WR_k [1, 2, 6, 14, 15, 16, 17] rfl m1111000100_7)) (WAs_nil)))
    have m1110101100_67 : WA Tryz.prog 47 0 ops 4 #[true, true, true, false, true, false, true, true, false, false] ⟨[(1, num a), (2, .pin (topoP T) 0), (5, .ptr 0 0), (6, .ptr 1 0), (14, topoV T), (15, num a), (16, num n), (18, num a)], [some (.cells 3 [num 0]), some (.cells 3 [num 0])]⟩ (fun s => (s.σ = [some (.cells 3 [num n]), some (.cells 3 [num h])] ∧ Sub s.t [(1, num a), (2, .pin (topoP T) 0), (5, .ptr 0 0), (6, .ptr 1 0)]) ∨ (s.σ = [some (.cells 3 [num h]), some (.cells 3 [num n])] ∧ Sub s.t [(1, num a), (2, .pin (topoP T) 0), (5, .ptr 1 0), (6, .ptr 0 0)])) := by
      subst hops
      refine WA_step 3 [] (by kernel_rfl) ?_
      exact WAs_cons rfl rfl (WR_v (y_a rfl) rfl (WR_k [1, 2, 5, 6, 14, 15, 16, 17, 18] rfl m1111101100_67)) (WAs_nil)
    have m1110101000_6 : WA Tryz.prog 47 0 ops 5 #[true, true, true, false, true, false, true, false, false, false] ⟨[(1, num a), (2, .pin (topoP T) 0), (5, .ptr 0 0), (14, topoV T), (15, num a), (16, num n), (18, num a)], [some (.cells 3 [num 0])]⟩ (fun s => (s.σ = [some (.cells 3 [num n]), some (.cells 3 [num h])] ∧ Sub s.t [(1, num a), (2, .pin (topoP T) 0), (5, .ptr 0 0), (6, .ptr 1 0)]) ∨ (s.σ = [some (.cells 3 [num h]), some (.cells 3 [num n])] ∧ Sub s.t [(1, num a), (2, .pin (topoP T) 0), (5, .ptr 1 0), (6, .ptr 0 0)])) := by
      subst hops
      refine WA_step 3 [7] (by kernel_rfl) ?_
      exact WAs_cons rfl rfl (WR_v (y_a rfl) rfl (WR_k [1, 2, 5, 14, 15, 16, 17, 18] rfl m1111101000_6)) (WAs_cons rfl rfl (WR_l (l_a rfl) rfl (WR_k [1, 2, 5, 6, 14, 15, 16, 18] rfl m1110101100_67)) (WAs_nil))
    have m1110101100_76 : WA Tryz.prog 47 0 ops 4 #[true, true, true, false, true, false, true, true, false, false] ⟨[(1, num a), (2, .pin (topoP T) 0), (5, .ptr 1 0), (6, .ptr 0 0), (14, topoV T), (15, num a), (16, num n), (18, num a)], [some (.cells 3 [num 0]), some (.cells 3 [num 0])]⟩ (fun s => (s.σ = [some (.cells 3 [num n]), some (.cells 3 [num h])] ∧ Sub s.t [(1, num a), (2, .pin (topoP T) 0), (5, .ptr 0 0), (6, .ptr 1 0)]) ∨ (s.σ = [some (.cells 3 [num h]), some (.cells 3 [num n])] ∧ Sub s.t [(1, num a), (2, .pin (topoP T) 0), (5, .ptr 1 0), (6, .ptr 0 0)])) := by
      subst hops
      refine WA_step 3 [] (by kernel_rfl) ?_
      exact WAs_cons rfl rfl (WR_v (y_a rfl) rfl (WR_k [1, 2, 5, 6, 14, 15, 16, 17, 18] rfl m1111101100_76)) (WAs_nil)
    have m1110100100_7 : WA Tryz.prog 47 0 ops 5 #[true, true, true, false, true, false, false, true, false, false] ⟨[(1, num a), (2, .pin (topoP T) 0), (6, .ptr 0 0), (14, topoV T), (15, num a), (16, num n), (18, num a)], [some (.cells 3 [num 0])]⟩ (fun s => (s.σ = [some (.cells 3 [num n]), some (.cells 3 [num h])] ∧ Sub s.t [(1, num a), (2, .pin (topoP T) 0), (5, .ptr 0 0), (6, .ptr 1 0)]) ∨ (s.σ = [some (.cells 3 [num h]), some (.cells 3 [num n])] ∧ Sub s.t [(1, num a), (2, .pin (topoP T) 0), (5, .ptr 1 0), (6, .ptr 0 0)])) := by
      subst hops
      refine WA_step 3 [6] (by kernel_rfl) ?_
      exact WAs_cons rfl rfl (WR_v (y_a rfl) rfl (WR_k [1, 2, 6, 14, 15, 16, 17, 18] rfl m1111100100_7)) (WAs_cons rfl rfl (WR_l (l_a rfl) rfl (WR_k [1, 2, 5, 6, 14, 15, 16, 18] rfl m1110101100_76)) (WAs_nil))
    have m1110100000_ : WA Tryz.prog 47 0 ops 6 #[true, true, true, false, true, false, false, false, false, false] ⟨[(1, num a), (2, .pin (topoP T) 0), (14, topoV T), (15, num a), (16, num n), (18, num a)], []⟩ (fun s => (s.σ = [some (.cells 3 [num n]), some (.cells 3 [num h])] ∧ Sub s.t [(1, num a), (2, .pin (topoP T) 0), (5, .ptr 0 0), (6, .ptr 1 0)]) ∨ (s.σ = [some (.cells 3 [num h]), some (.cells 3 [num n])] ∧ Sub s.t [(1, num a), (2, .pin (topoP T) 0), (5, .ptr 1 0), (6, .ptr 0 0)])) := by
      subst hops
      refine WA_step 3 [6, 7] (by kernel_rfl) ?_
      exact WAs_cons rfl rfl (WR_v (y_a rfl) rfl (WR_k [1, 2, 14, 15, 16, 17, 18] rfl m1111100000_)) (WAs_cons rfl rfl (WR_l (l_a rfl) rfl (WR_k [1, 2, 5, 14, 15, 16, 18] rfl m1110101000_6)) (WAs_cons rfl rfl (WR_l (l_a rfl) rfl (WR_k [1, 2, 6, 14, 15, 16, 18] rfl m1110100100_7)) (WAs_nil)))
    have m1110001100_67 : WA Tryz.prog 47 0 ops 5 #[true, true, true, false, false, false, true, true, false, false] ⟨[(1, num a), (2, .pin (topoP T) 0), (5, .ptr 0 0), (6, .ptr 1 0), (14, topoV T), (15, num a), (16, num n)], [some (.cells 3 [num 0]), some (.cells 3 [num 0])]⟩ (fun s => (s.σ = [some (.cells 3 [num n]), some (.cells 3 [num h])] ∧ Sub s.t [(1, num a), (2, .pin (topoP T) 0), (5, .ptr 0 0), (6, .ptr 1 0)]) ∨ (s.σ = [some (.cells 3 [num h]), some (.cells 3 [num n])] ∧ Sub s.t [(1, num a), (2, .pin (topoP T) 0), (5, .ptr 1 0), (6, .ptr 0 0)])) := by
      subst hops
      refine WA_step 3 [4] (by kernel_rfl) ?_
      exact WAs_cons rfl rfl (WR_v (y_a rfl) rfl (WR_k [1, 2, 5, 6, 14, 15, 16, 17] rfl m1111001100_67)) (WAs_cons rfl rfl (WR_v (y_a rfl) rfl (WR_k [1, 2, 5, 6, 14, 15, 16, 18] rfl m1110101100_67)) (WAs_nil))
    have m1110001000_6 : WA Tryz.prog 47 0 ops 6 #[true, true, true, false, false, false, true, false, false, false] ⟨[(1, num a), (2, .pin (topoP T) 0), (5, .ptr 0 0), (14, topoV T), (15, num a), (16, num n)], [some (.cells 3 [num 0])]⟩ (fun s => (s.σ = [some (.cells 3 [num n]), some (.cells 3 [num h])] ∧ Sub s.t [(1, num a), (2, .pin (topoP T) 0), (5, .ptr 0 0), (6, .ptr 1 0)]) ∨ (s.σ = [some (.cells 3 [num h]), some (.cells 3 [num n])] ∧ Sub s.t [(1, num a), (2, .pin (topoP T) 0), (5, .ptr 1 0), (6, .ptr 0 0)])) := by
      subst hops
      refine WA_step 3 [4, 7] (by kernel_rfl) ?_
      exact WAs_cons rfl rfl (WR_v (y_a rfl) rfl (WR_k [1, 2, 5, 14, 15, 16, 17] rfl m1111001000_6)) (WAs_cons rfl rfl (WR_v (y_a rfl) rfl (WR_k [1, 2, 5, 14, 15, 16, 18] rfl m1110101000_6)) (WAs_cons rfl rfl (WR_l (l_a rfl) rfl (WR_k [1, 2, 5, 6, 14, 15, 16] rfl m1110001100_67)) (WAs_nil)))
    have m1110001100_76 : WA Tryz.prog 47 0 ops 5 #[true, true, true, false, false, false, true, true, false, false] ⟨[(1, num a), (2, .pin (topoP T) 0), (5, .ptr 1 0), (6, .ptr 0 0), (14, topoV T), (15, num a), (16, num n)], [some (.cells 3 [num 0]), some (.cells 3 [num 0])]⟩ (fun s => (s.σ = [some (.cells 3 [num n]), some (.cells 3 [num h])] ∧ Sub s.t [(1, num a), (2, .pin (topoP T) 0), (5, .ptr 0 0), (6, .ptr 1 0)]) ∨ (s.σ = [some (.cells 3 [num h]), some (.cells 3 [num n])] ∧ Sub s.t [(1, num a), (2, .pin (topoP T) 0), (5, .ptr 1 0), (6, .ptr 0 0)])) := by
      subst hops
      refine WA_step 3 [4] (by kernel_rfl) ?_
      exact WAs_cons rfl rfl (WR_v (y_a rfl) rfl (WR_k [1, 2, 5, 6, 14, 15, 16, 17] rfl m1111001100_76)) (WAs_cons rfl rfl (WR_v (y_a rfl) rfl (WR_k [1, 2, 5, 6, 14, 15, 16, 18] rfl m1110101100_76)) (WAs_nil))
    have m1110000100_7 : WA Tryz.prog 47 0 ops 6 #[true, true, true, false, false, false, false, true, false, false] ⟨[(1, num a), (2, .pin (topoP T) 0), (6, .ptr 0 0), (14, topoV T), (15, num a), (16, num n)], [some (.cells 3 [num 0])]⟩ (fun s => (s.σ = [some (.cells 3 [num n]), some (.cells 3 [num h])] ∧ Sub s.t [(1, num a), (2, .pin (topoP T) 0), (5, .ptr 0 0), (6, .ptr 1 0)]) ∨ (s.σ = [some (.cells 3 [num h]), some (.cells 3 [num n])] ∧ Sub s.t [(1, num a), (2, .pin (topoP T) 0), (5, .ptr 1 0), (6, .ptr 0 0)])) := by
      subst hops
      refine WA_step 3 [4, 6] (by kernel_rfl) ?_
      exact WAs_cons rfl rfl (WR_v (y_a rfl) rfl (WR_k [1, 2, 6, 14, 15, 16, 17] rfl m1111000100_7)) (WAs_cons rfl rfl (WR_v (y_a rfl) rfl (WR_k [1, 2, 6, 14, 15, 16, 18] rfl m1110100100_7)) (WAs_cons rfl rfl (WR_l (l_a rfl) rfl (WR_k [1, 2, 5, 6, 14, 15, 16] rfl m1110001100_76)) (WAs_nil)))
    have m1110000000_ : WA Tryz.prog 47 0 ops 7 #[true, true, true, false, false, false, false, false, false, false] ⟨[(1, num a), (2, .pin (topoP T) 0), (14, topoV T), (15, num a), (16, num n)], []⟩ (fun s => (s.σ = [some (.cells 3 [num n]), some (.cells 3 [num h])] ∧ Sub s.t [(1, num a), (2, .pin (topoP T) 0), (5, .ptr 0 0), (6, .ptr 1 0)]) ∨ (s.σ = [some (.cells 3 [num h]), some (.cells 3 [num n])] ∧ Sub s.t [(1, num a), (2, .pin (topoP T) 0), (5, .ptr 1 0), (6, .ptr 0 0)])) := by
      subst hops
      refine WA_step 3 [4, 6, 7] (by kernel_rfl) ?_
      exact WAs_cons rfl rfl (WR_v (y_a rfl) rfl (WR_k [1, 2, 14, 15, 16, 17] rfl m1111000000_)) (WAs_cons rfl rfl (WR_v (y_a rfl) rfl (WR_k [1, 2, 14, 15, 16, 18] rfl m1110100000_)) (WAs_cons rfl rfl (WR_l (l_a rfl) rfl (WR_k [1, 2, 5, 14, 15, 16] rfl m1110001000_6)) (WAs_cons rfl rfl (WR_l (l_a rfl) rfl (WR_k [1, 2, 6, 14, 15, 16] rfl m1110000100_7)) (WAs_nil))))
    have m1101101100_67 : WA Tryz.prog 47 0 ops 4 #[true, true, false, true, true, false, true, true, false, false] ⟨[(1, num a), (2, .pin (topoP T) 0), (5, .ptr 0 0), (6, .ptr 1 0), (14, topoV T), (15, num a), (17, topoV T), (18, num a)], [some (.cells 3 [num 0]), some (.cells 3 [num 0])]⟩ (fun s => (s.σ = [some (.cells 3 [num n]), some (.cells 3 [num h])] ∧ Sub s.t [(1, num a), (2, .pin (topoP T) 0), (5, .ptr 0 0), (6, .ptr 1 0)]) ∨ (s.σ = [some (.cells 3 [num h]), some (.cells 3 [num n])] ∧ Sub s.t [(1, num a), (2, .pin (topoP T) 0), (5, .ptr 1 0), (6, .ptr 0 0)])) := by
      subst hops
      refine WA_step 2 [] (by kernel_rfl) ?_
      exact WAs_cons rfl rfl (WR_v (y_c rfl (htl)) rfl (WR_k [1, 2, 5, 6, 14, 15, 16, 17, 18] rfl m1111101100_67)) (WAs_nil)
    have m1101101000_6 : WA Tryz.prog 47 0 ops 5 #[true, true, false, true, true, false, true, false, false, false] ⟨[(1, num a), (2, .pin (topoP T) 0), (5, .ptr 0 0), (14, topoV T), (15, num a), (17, topoV T), (18, num a)], [some (.cells 3 [num 0])]⟩ (fun s => (s.σ = [some (.cells 3 [num n]), some (.cells 3 [num h])] ∧ Sub s.t [(1, num a), (2, .pin (topoP T) 0), (5, .ptr 0 0), (6, .ptr 1 0)]) ∨ (s.σ = [some (.cells 3 [num h]), some (.cells 3 [num n])] ∧ Sub s.t [(1, num a), (2, .pin (topoP T) 0), (5, .ptr 1 0), (6, .ptr 0 0)])) := by
      subst hops
      refine WA_step 2 [7] (by kernel_rfl) ?_
      exact WAs_cons rfl rfl (WR_v (y_c rfl (htl)) rfl (WR_k [1, 2, 5, 14, 15, 16, 17, 18] rfl m1111101000_6)) (WAs_cons rfl rfl (WR_l (l_a rfl) rfl (WR_k [1, 2, 5, 6, 14, 15, 17, 18] rfl m1101101100_67)) (WAs_nil))
    have m1101101100_76 : WA Tryz.prog 47 0 ops 4 #[true, true, false, true, true, false, true, true, false, false] ⟨[(1, num a), (2, .pin (topoP T) 0), (5, .ptr 1 0), (6, .ptr 0 0), (14, topoV T), (15, num a), (17, topoV T), (18, num a)], [some (.cells 3 [num 0]), some (.cells 3 [num 0])]⟩ (fun s => (s.σ = [some (.cells 3 [num n]), some (.cells 3 [num h])] ∧ Sub s.t [(1, num a), (2, .pin (topoP T) 0), (5, .ptr 0 0), (6, .ptr 1 0)]) ∨ (s.σ = [some (.cells 3 [num h]), some (.cells 3 [num n])] ∧ Sub s.t [(1, num a), (2, .pin (topoP T) 0), (5, .ptr 1 0), (6, .ptr 0 0)])) := by
      subst hops
      refine WA_step 2 [] (by kernel_rfl) ?_
      exact WAs_cons rfl rfl (WR_v (y_c rfl (htl)) rfl (WR_k [1, 2, 5, 6, 14, 15, 16, 17, 18] rfl m1111101100_76)) (WAs_nil)
    have m1101100100_7 : WA Tryz.prog 47 0 ops 5 #[true, true, false, true, true, false, false, true, false, false] ⟨[(1, num a), (2, .pin (topoP T) 0), (6, .ptr 0 0), (14, topoV T), (15, num a), (17, topoV T), (18, num a)], [some (.cells 3 [num 0])]⟩ (fun s => (s.σ = [some (.cells 3 [num n]), some (.cells 3 [num h])] ∧ Sub s.t [(1, num a), (2, .pin (topoP T) 0), (5, .ptr 0 0), (6, .ptr 1 0)]) ∨ (s.σ = [some (.cells 3 [num h]), some (.cells 3 [num n])] ∧ Sub s.t [(1, num a), (2, .pin (topoP T) 0), (5, .ptr 1 0), (6, .ptr 0 0)])) := by
      subst hops
      refine WA_step 2 [6] (by kernel_rfl) ?_
      exact WAs_cons rfl rfl (WR_v (y_c rfl (htl)) rfl (WR_k [1, 2, 6, 14, 15, 16, 17, 18] rfl m1111100100_7)) (WAs_cons rfl rfl (WR_l (l_a rfl) rfl (WR_k [1, 2, 5, 6, 14, 15, 17, 18] rfl m1101101100_76)) (WAs_nil))
    have m1101100000_ : WA Tryz.prog 47 0 ops 6 #[true, true, false, true, true, false, false, false, false, false] ⟨[(1, num a), (2, .pin (topoP T) 0), (14, topoV T), (15, num a), (17, topoV T), (18, num a)], []⟩ (fun s => (s.σ = [some (.cells 3 [num n]), some (.cells 3 [num h])] ∧ Sub s.t [(1, num a), (2, .pin (topoP T) 0), (5, .ptr 0 0), (6, .ptr 1 0)]) ∨ (s.σ = [some (.cells 3 [num h]), some (.cells 3 [num n])] ∧ Sub s.t [(1, num a), (2, .pin (topoP T) 0), (5, .ptr 1 0), (6, .ptr 0 0)])) := by
      subst hops
      refine WA_step 2 [6, 7] (by kernel_rfl) ?_
      exact WAs_cons rfl rfl (WR_v (y_c rfl (htl)) rfl (WR_k [1, 2, 14, 15, 16, 17, 18] rfl m1111100000_)) (WAs_cons rfl rfl (WR_l (l_a rfl) rfl (WR_k [1, 2, 5, 14, 15, 17, 18] rfl m1101101000_6)) (WAs_cons rfl rfl (WR_l (l_a rfl) rfl (WR_k [1, 2, 6, 14, 15, 17, 18] rfl m1101100100_7)) (WAs_nil)))
    have m1101001100_67 : WA Tryz.prog 47 0 ops 5 #[true, true, false, true, false, false, true, true, false, false] ⟨[(1, num a), (2, .pin (topoP T) 0), (5, .ptr 0 0), (6, .ptr 1 0), (14, topoV T), (15, num a), (17, topoV T)], [some (.cells 3 [num 0]), some (.cells 3 [num 0])]⟩ (fun s => (s.σ = [some (.cells 3 [num n]), some (.cells 3 [num h])] ∧ Sub s.t [(1, num a), (2, .pin (topoP T) 0), (5, .ptr 0 0), (6, .ptr 1 0)]) ∨ (s.σ = [some (.cells 3 [num h]), some (.cells 3 [num n])] ∧ Sub s.t [(1, num a), (2, .pin (topoP T) 0), (5, .ptr 1 0), (6, .ptr 0 0)])) := by
      subst hops
      refine WA_step 2 [4] (by kernel_rfl) ?_
      exact WAs_cons rfl rfl (WR_v (y_c rfl (htl)) rfl (WR_k [1, 2, 5, 6, 14, 15, 16, 17] rfl m1111001100_67)) (WAs_cons rfl rfl (WR_v (y_a rfl) rfl (WR_k [1, 2, 5, 6, 14, 15, 17, 18] rfl m1101101100_67)) (WAs_nil))
    have m1101001000_6 : WA Tryz.prog 47 0 ops 6 #[true, true, false, true, false, false, true, false, false, false] ⟨[(1, num a), (2, .pin (topoP T) 0), (5, .ptr 0 0), (14, topoV T), (15, num a), (17, topoV T)], [some (.cells 3 [num 0])]⟩ (fun s => (s.σ = [some (.cells 3 [num n]), some (.cells 3 [num h])] ∧ Sub s.t [(1, num a), (2, .pin (topoP T) 0), (5, .ptr 0 0), (6, .ptr 1 0)]) ∨ (s.σ = [some (.cells 3 [num h]), some (.cells 3 [num n])] ∧ Sub s.t [(1, num a), (2, .pin (topoP T) 0), (5, .ptr 1 0), (6, .ptr 0 0)])) := by
      subst hops
      refine WA_step 2 [4, 7] (by kernel_rfl) ?_
      exact WAs_cons rfl rfl (WR_v (y_c rfl (htl)) rfl (WR_k [1, 2, 5, 14, 15, 16, 17] rfl m1111001000_6)) (WAs_cons rfl rfl (WR_v (y_a rfl) rfl (WR_k [1, 2, 5, 14, 15, 17, 18] rfl m1101101000_6)) (WAs_cons rfl rfl (WR_l (l_a rfl) rfl (WR_k [1, 2, 5, 6, 14, 15, 17] rfl m1101001100_67)) (WAs_nil)))
    have m1101001100_76 : WA Tryz.prog 47 0 ops 5 #[true, true, false, true, false, false, true, true, false, false] ⟨[(1, num a), (2, .pin (topoP T) 0), (5, .ptr 1 0), (6, .ptr 0 0), (14, topoV T), (15, num a), (17, topoV T)], [some (.cells 3 [num 0]), some (.cells 3 [num 0])]⟩ (fun s => (s.σ = [some (.cells 3 [num n]), some (.cells 3 [num h])] ∧ Sub s.t [(1, num a), (2, .pin (topoP T) 0), (5, .ptr 0 0), (6, .ptr 1 0)]) ∨ (s.σ = [some (.cells 3 [num h]), some (.cells 3 [num n])] ∧ Sub s.t [(1, num a), (2, .pin (topoP T) 0), (5, .ptr 1 0), (6, .ptr 0 0)])) := by
      subst hops
      refine WA_step 2 [4] (by kernel_rfl) ?_
      exact WAs_cons rfl rfl (WR_v (y_c rfl (htl)) rfl (WR_k [1, 2, 5, 6, 14, 15, 16, 17] rfl m1111001100_76)) (WAs_cons rfl rfl (WR_v (y_a rfl) rfl (WR_k [1, 2, 5, 6, 14, 15, 17, 18] rfl m1101101100_76)) (WAs_nil))
    have m1101000100_7 : WA Tryz.prog 47 0 ops 6 #[true, true, false, true, false, false, false, true, false, false] ⟨[(1, num a), (2, .pin (topoP T) 0), (6, .ptr 0 0), (14, topoV T), (15, num a), (17, topoV T)], [some (.cells 3 [num 0])]⟩ (fun s => (s.σ = [some (.cells 3 [num n]), some (.cells 3 [num h])] ∧ Sub s.t [(1, num a), (2, .pin (topoP T) 0), (5, .ptr 0 0), (6, .ptr 1 0)]) ∨ (s.σ = [some (.cells 3 [num h]), some (.cells 3 [num n])] ∧ Sub s.t [(1, num a), (2, .pin (topoP T) 0), (5, .ptr 1 0), (6, .ptr 0 0)])) := by
      subst hops
      refine WA_step 2 [4, 6] (by kernel_rfl) ?_
      exact WAs_cons rfl rfl (WR_v (y_c rfl (htl)) rfl (WR_k [1, 2, 6, 14, 15, 16, 17] rfl m1111000100_7)) (WAs_cons rfl rfl (WR_v (y_a rfl) rfl (WR_k [1, 2, 6, 14, 15, 17, 18] rfl m1101100100_7)) (WAs_cons rfl rfl (WR_l (l_a rfl) rfl (WR_k [1, 2, 5, 6, 14, 15, 17] rfl m1101001100_76)) (WAs_nil)))
    have m1101000000_ : WA Tryz.prog 47 0 ops 7 #[true, true, false, true, false, false, false, false, false, false] ⟨[(1, num a), (2, .pin (topoP T) 0), (14, topoV T), (15, num a), (17, topoV T)], []⟩ (fun s => (s.σ = [some (.cells 3 [num n]), some (.cells 3 [num h])] ∧ Sub s.t [(1, num a), (2, .pin (topoP T) 0), (5, .ptr 0 0), (6, .ptr 1 0)]) ∨ (s.σ = [some (.cells 3 [num h]), some (.cells 3 [num n])] ∧ Sub s.t [(1, num a), (2, .pin (topoP T) 0), (5, .ptr 1 0), (6, .ptr 0 0)])) := by
      subst hops
      refine WA_step 2 [4, 6, 7] (by kernel_rfl) ?_
      exact WAs_cons rfl rfl (WR_v (y_c rfl (htl)) rfl (WR_k [1, 2, 14, 15, 16, 17] rfl m1111000000_)) (WAs_cons rfl rfl (WR_v (y_a rfl) rfl (WR_k [1, 2, 14, 15, 17, 18] rfl m1101100000_)) (WAs_cons rfl rfl (WR_l (l_a rfl) rfl (WR_k [1, 2, 5, 14, 15, 17] rfl m1101001000_6)) (WAs_cons rfl rfl (WR_l (l_a rfl) rfl (WR_k [1, 2, 6, 14, 15, 17] rfl m1101000100_7)) (WAs_nil))))
    have m1100101100_67 : WA Tryz.prog 47 0 ops 5 #[true, true, false, false, true, false, true, true, false, false] ⟨[(1, num a), (2, .pin (topoP T) 0), (5, .ptr 0 0), (6, .ptr 1 0), (14, topoV T), (15, num a), (18, num a)], [some (.cells 3 [num 0]), some (.cells 3 [num 0])]⟩ (fun s => (s.σ = [some (.cells 3 [num n]), some (.cells 3 [num h])] ∧ Sub s.t [(1, num a), (2, .pin (topoP T) 0), (5, .ptr 0 0), (6, .ptr 1 0)]) ∨ (s.σ = [some (.cells 3 [num h]), some (.cells 3 [num n])] ∧ Sub s.t [(1, num a), (2, .pin (topoP T) 0), (5, .ptr 1 0), (6, .ptr 0 0)])) := by
      subst hops
      refine WA_step 2 [3] (by kernel_rfl) ?_
      exact WAs_cons rfl rfl (WR_v (y_c rfl (htl)) rfl (WR_k [1, 2, 5, 6, 14, 15, 16, 18] rfl m1110101100_67)) (WAs_cons rfl rfl (WR_v (y_a rfl) rfl (WR_k [1, 2, 5, 6, 14, 15, 17, 18] rfl m1101101100_67)) (WAs_nil))
    have m1100101000_6 : WA Tryz.prog 47 0 ops 6 #[true, true, false, false, true, false, true, false, false, false] ⟨[(1, num a), (2, .pin (topoP T) 0), (5, .ptr 0 0), (14, topoV T), (15, num a), (18, num a)], [some (.cells 3 [num 0])]⟩ (fun s => (s.σ = [some (.cells 3 [num n]), some (.cells 3 [num h])] ∧ Sub s.t [(1, num a), (2, .pin (topoP T) 0), (5, .ptr 0 0), (6, .ptr 1 0)]) ∨ (s.σ = [some (.cells 3 [num h]), some (.cells 3 [num n])] ∧ Sub s.t [(1, num a), (2, .pin (topoP T) 0), (5, .ptr 1 0), (6, .ptr 0 0)])) := by
      subst hops
      refine WA_step 2 [3, 7] (by kernel_rfl) ?_
      exact WAs_cons rfl rfl (WR_v (y_c rfl (htl)) rfl (WR_k [1, 2, 5, 14, 15, 16, 18] rfl m1110101000_6)) (WAs_cons rfl rfl (WR_v (y_a rfl) rfl (WR_k [1, 2, 5, 14, 15, 17, 18] rfl m1101101000_6)) (WAs_cons rfl rfl (WR_l (l_a rfl) rfl (WR_k [1, 2, 5, 6, 14, 15, 18] rfl m1100101100_67)) (WAs_nil)))
    have m1100101100_76 : WA Tryz.prog 47 0 ops 5 #[true, true, false, false, true, false, true, true, false, false] ⟨[(1, num a), (2, .pin (topoP T) 0), (5, .ptr 1 0), (6, .ptr 0 0), (14, topoV T), (15, num a), (18, num a)], [some (.cells 3 [num 0]), some (.cells 3 [num 0])]⟩ (fun s => (s.σ = [some (.cells 3 [num n]), some (.cells 3 [num h])] ∧ Sub s.t [(1, num a), (2, .pin (topoP T) 0), (5, .ptr 0 0), (6, .ptr 1 0)]) ∨ (s.σ = [some (.cells 3 [num h]), some (.cells 3 [num n])] ∧ Sub s.t [(1, num a), (2, .pin (topoP T) 0), (5, .ptr 1 0), (6, .ptr 0 0)])) := by
      subst hops
      refine WA_step 2 [3] (by kernel_rfl) ?_
      exact WAs_cons rfl rfl (WR_v (y_c rfl (htl)) rfl (WR_k [1, 2, 5, 6, 14, 15, 16, 18] rfl m1110101100_76)) (WAs_cons rfl rfl (WR_v (y_a rfl) rfl (WR_k [1, 2, 5, 6, 14, 15, 17, 18] rfl m1101101100_76)) (WAs_nil))
    have m1100100100_7 : WA Tryz.prog 47 0 ops 6 #[true, true, false, false, true, false, false, true, false, false] ⟨[(1, num a), (2, .pin (topoP T) 0), (6, .ptr 0 0), (14, topoV T), (15, num a), (18, num a)], [some (.cells 3 [num 0])]⟩ (fun s => (s.σ = [some (.cells 3 [num n]), some (.cells 3 [num h])] ∧ Sub s.t [(1, num a), (2, .pin (topoP T) 0), (5, .ptr 0 0), (6, .ptr 1 0)]) ∨ (s.σ = [some (.cells 3 [num h]), some (.cells 3 [num n])] ∧ Sub s.t [(1, num a), (2, .pin (topoP T) 0), (5, .ptr 1 0), (6, .ptr 0 0)])) := by
      subst hops
      refine WA_step 2 [3, 6] (by kernel_rfl) ?_
      exact WAs_cons rfl rfl (WR_v (y_c rfl (htl)) rfl (WR_k [1, 2, 6, 14, 15, 16, 18] rfl m1110100100_7)) (WAs_cons rfl rfl (WR_v (y_a rfl) rfl (WR_k [1, 2, 6, 14, 15, 17, 18] rfl m1101100100_7)) (WAs_cons rfl rfl (WR_l (l_a rfl) rfl (WR_k [1, 2, 5, 6, 14, 15, 18] rfl m1100101100_76)) (WAs_nil)))
    have m1100100000_ : WA Tryz.prog 47 0 ops 7 #[true, true, false, false, true, false, false, false, false, false] ⟨[(1, num a), (2, .pin (topoP T) 0), (14, topoV T), (15, num a), (18, num a)], []⟩ (fun s => (s.σ = [some (.cells 3 [num n]), some (.cells 3 [num h])] ∧ Sub s.t [(1, num a), (2, .pin (topoP T) 0), (5, .ptr 0 0), (6, .ptr 1 0)]) ∨ (s.σ = [some (.cells 3 [num h]), some (.cells 3 [num n])] ∧ Sub s.t [(1, num a), (2, .pin (topoP T) 0), (5, .ptr 1 0), (6, .ptr 0 0)])) := by
      subst hops
      refine WA_step 2 [3, 6, 7] (by kernel_rfl) ?_
      exact WAs_cons rfl rfl (WR_v (y_c rfl (htl)) rfl (WR_k [1, 2, 14, 15, 16, 18] rfl m1110100000_)) (WAs_cons rfl rfl (WR_v (y_a rfl) rfl (WR_k [1, 2, 14, 15, 17, 18] rfl m1101100000_)) (WAs_cons rfl rfl (WR_l (l_a rfl) rfl (WR_k [1, 2, 5, 14, 15, 18] rfl m1100101000_6)) (WAs_cons rfl rfl (WR_l (l_a rfl) rfl (WR_k [1, 2, 6, 14, 15, 18] rfl m1100100100_7)) (WAs_nil))))
    have m1100001100_67 : WA Tryz.prog 47 0 ops 6 #[true, true, false, false, false, false, true, true, false, false] ⟨[(1, num a), (2, .pin (topoP T) 0), (5, .ptr 0 0), (6, .ptr 1 0), (14, topoV T), (15, num a)], [some (.cells 3 [num 0]), some (.cells 3 [num 0])]⟩ (fun s => (s.σ = [some (.cells 3 [num n]), some (.cells 3 [num h])] ∧ Sub s.t [(1, num a), (2, .pin (topoP T) 0), (5, .ptr 0 0), (6, .ptr 1 0)]) ∨ (s.σ = [some (.cells 3 [num h]), some (.cells 3 [num n])] ∧ Sub s.t [(1, num a), (2, .pin (topoP T) 0), (5, .ptr 1 0), (6, .ptr 0 0)])) := by
      subst hops
      refine WA_step 2 [3, 4] (by kernel_rfl) ?_
      exact WAs_cons rfl rfl (WR_v (y_c rfl (htl)) rfl (WR_k [1, 2, 5, 6, 14, 15, 16] rfl m1110001100_67)) (WAs_cons rfl rfl (WR_v (y_a rfl) rfl (WR_k [1, 2, 5, 6, 14, 15, 17] rfl m1101001100_67)) (WAs_cons rfl rfl (WR_v (y_a rfl) rfl (WR_k [1, 2, 5, 6, 14, 15, 18] rfl m1100101100_67)) (WAs_nil)))
    have m1100001000_6 : WA Tryz.prog 47 0 ops 7 #[true, true, false, false, false, false, true, false, false, false] ⟨[(1, num a), (2, .pin (topoP T) 0), (5, .ptr 0 0), (14, topoV T), (15, num a)], [some (.cells 3 [num 0])]⟩ (fun s => (s.σ = [some (.cells 3 [num n]), some (.cells 3 [num h])] ∧ Sub s.t [(1, num a), (2, .pin (topoP T) 0), (5, .ptr 0 0), (6, .ptr 1 0)]) ∨ (s.σ = [some (.cells 3 [num h]), some (.cells 3 [num n])] ∧ Sub s.t [(1, num a), (2, .pin (topoP T) 0), (5, .ptr 1 0), (6, .ptr 0 0)])) := by
      subst hops
      refine WA_step 2 [3, 4, 7] (by kernel_rfl) ?_
      exact WAs_cons rfl rfl (WR_v (y_c rfl (htl)) rfl (WR_k [1, 2, 5, 14, 15, 16] rfl m1110001000_6)) (WAs_cons rfl rfl (WR_v (y_a rfl) rfl (WR_k [1, 2, 5, 14, 15, 17] rfl m1101001000_6)) (WAs_cons rfl rfl (WR_v (y_a rfl) rfl (WR_k [1, 2, 5, 14, 15, 18] rfl m1100101000_6)) (WAs_cons rfl rfl (WR_l (l_a rfl) rfl (WR_k [1, 2, 5, 6, 14, 15] rfl m1100001100_67)) (WAs_nil))))
    have m1100001100_76 : WA Tryz.prog 47 0 ops 6 #[true, true, false, false, false, false, true, true, false, false] ⟨[(1, num a), (2, .pin (topoP T) 0), (5, .ptr 1 0), (6, .ptr 0 0), (14, topoV T), (15, num a)], [some (.cells 3 [num 0]), some (.cells 3 [num 0])]⟩ (fun s => (s.σ = [some (.cells 3 [num n]), some (.cells 3 [num h])] ∧ Sub s.t [(1, num a), (2, .pin (topoP T) 0), (5, .ptr 0 0), (6, .ptr 1 0)]) ∨ (s.σ = [some (.cells 3 [num h]), some (.cells 3 [num n])] ∧ Sub s.t [(1, num a), (2, .pin (topoP T) 0), (5, .ptr 1 0), (6, .ptr 0 0)])) := by
      subst hops
      refine WA_step 2 [3, 4] (by kernel_rfl) ?_
      exact WAs_cons rfl rfl (WR_v (y_c rfl (htl)) rfl (WR_k [1, 2, 5, 6, 14, 15, 16] rfl m1110001100_76)) (WAs_cons rfl rfl (WR_v (y_a rfl) rfl (WR_k [1, 2, 5, 6, 14, 15, 17] rfl m1101001100_76)) (WAs_cons rfl rfl (WR_v (y_a rfl) rfl (WR_k [1, 2, 5, 6, 14, 15, 18] rfl m1100101100_76)) (WAs_nil)))
    have m1100000100_7 : WA Tryz.prog 47 0 ops 7 #[true, true, false, false, false, false, false, true, false, false] ⟨[(1, num a), (2, .pin (topoP T) 0), (6, .ptr 0 0), (14, topoV T), (15, num a)], [some (.cells 3 [num 0])]⟩ (fun s => (s.σ = [some (.cells 3 [num n]), some (.cells 3 [num h])] ∧ Sub s.t [(1, num a), (2, .pin (topoP T) 0), (5, .ptr 0 0), (6, .ptr 1 0)]) ∨ (s.σ = [some (.cells 3 [num h]), some (.cells 3 [num n])] ∧ Sub s.t [(1, num a), (2, .pin (topoP T) 0), (5, .ptr 1 0), (6, .ptr 0 0)])) := by
      subst hops
      refine WA_step 2 [3, 4, 6] (by kernel_rfl) ?_
      exact WAs_cons rfl rfl (WR_v (y_c rfl (htl)) rfl (WR_k [1, 2, 6, 14, 15, 16] rfl m1110000100_7)) (WAs_cons rfl rfl (WR_v (y_a rfl) rfl (WR_k [1, 2, 6, 14, 15, 17] rfl m1101000100_7)) (WAs_cons rfl rfl (WR_v (y_a rfl) rfl (WR_k [1, 2, 6, 14, 15, 18] rfl m1100100100_7)) (WAs_cons rfl rfl (WR_l (l_a rfl) rfl (WR_k [1, 2, 5, 6, 14, 15] rfl m1100001100_76)) (WAs_nil))))
    have m1100000000_ : WA Tryz.prog 47 0 ops 8 #[true, true, false, false, false, false, false, false, false, false] ⟨[(1, num a), (2, .pin (topoP T) 0), (14, topoV T), (15, num a)], []⟩ (fun s => (s.σ = [some (.cells 3 [num n]), some (.cells 3 [num h])] ∧ Sub s.t [(1, num a), (2, .pin (topoP T) 0), (5, .ptr 0 0), (6, .ptr 1 0)]) ∨ (s.σ = [some (.cells 3 [num h]), some (.cells 3 [num n])] ∧ Sub s.t [(1, num a), (2, .pin (topoP T) 0), (5, .ptr 1 0), (6, .ptr 0 0)])) := by
      subst hops
      refine WA_step 2 [3, 4, 6, 7] (by kernel_rfl) ?_
      exact WAs_cons rfl rfl (WR_v (y_c rfl (htl)) rfl (WR_k [1, 2, 14, 15, 16] rfl m1110000000_)) (WAs_cons rfl rfl (WR_v (y_a rfl) rfl (WR_k [1, 2, 14, 15, 17] rfl m1101000000_)) (WAs_cons rfl rfl (WR_v (y_a rfl) rfl (WR_k [1, 2, 14, 15, 18] rfl m1100100000_)) (WAs_cons rfl rfl (WR_l (l_a rfl) rfl (WR_k [1, 2, 5, 14, 15] rfl m1100001000_6)) (WAs_cons rfl rfl (WR_l (l_a rfl) rfl (WR_k [1, 2, 6, 14, 15] rfl m1100000100_7)) (WAs_nil)))))
    have m1001101100_67 : WA Tryz.prog 47 0 ops 5 #[true, false, false, true, true, false, true, true, false, false] ⟨[(1, num a), (2, .pin (topoP T) 0), (5, .ptr 0 0), (6, .ptr 1 0), (14, topoV T), (17, topoV T), (18, num a)], [some (.cells 3 [num 0]), some (.cells 3 [num 0])]⟩ (fun s => (s.σ = [some (.cells 3 [num n]), some (.cells 3 [num h])] ∧ Sub s.t [(1, num a), (2, .pin (topoP T) 0), (5, .ptr 0 0), (6, .ptr 1 0)]) ∨ (s.σ = [some (.cells 3 [num h]), some (.cells 3 [num n])] ∧ Sub s.t [(1, num a), (2, .pin (topoP T) 0), (5, .ptr 1 0), (6, .ptr 0 0)])) := by
      subst hops
      refine WA_step 1 [] (by kernel_rfl) ?_
      exact WAs_cons rfl rfl (WR_v (y_a rfl) rfl (WR_k [1, 2, 5, 6, 14, 15, 17, 18] rfl m1101101100_67)) (WAs_nil)
    have m1001101000_6 : WA Tryz.prog 47 0 ops 6 #[true, false, false, true, true, false, true, false, false, false] ⟨[(1, num a), (2, .pin (topoP T) 0), (5, .ptr 0 0), (14, topoV T), (17, topoV T), (18, num a)], [some (.cells 3 [num 0])]⟩ (fun s => (s.σ = [some (.cells 3 [num n]), some (.cells 3 [num h])] ∧ Sub s.t [(1, num a), (2, .pin (topoP T) 0), (5, .ptr 0 0), (6, .ptr 1 0)]) ∨ (s.σ = [some (.cells 3 [num h]), some (.cells 3 [num n])] ∧ Sub s.t [(1, num a), (2, .pin (topoP T) 0), (5, .ptr 1 0), (6, .ptr 0 0)])) := by
      subst hops
      refine WA_step 1 [7] (by kernel_rfl) ?_
      exact WAs_cons rfl rfl (WR_v (y_a rfl) rfl (WR_k [1, 2, 5, 14, 15, 17, 18] rfl m1101101000_6)) (WAs_cons rfl rfl (WR_l (l_a rfl) rfl (WR_k [1, 2, 5, 6, 14, 17, 18] rfl m1001101100_67)) (WAs_nil))
    have m1001101100_76 : WA Tryz.prog 47 0 ops 5 #[true, false, false, true, true, false, true, true, false, false] ⟨[(1, num a), (2, .pin (topoP T) 0), (5, .ptr 1 0), (6, .ptr 0 0), (14, topoV T), (17, topoV T), (18, num a)], [some (.cells 3 [num 0]), some (.cells 3 [num 0])]⟩ (fun s => (s.σ = [some (.cells 3 [num n]), some (.cells 3 [num h])] ∧ Sub s.t [(1, num a), (2, .pin (topoP T) 0), (5, .ptr 0 0), (6, .ptr 1 0)]) ∨ (s.σ = [some (.cells 3 [num h]), some (.cells 3 [num n])] ∧ Sub s.t [(1, num a), (2, .pin (topoP T) 0), (5, .ptr 1 0), (6, .ptr 0 0)])) := by
      subst hops
      refine WA_step 1 [] (by kernel_rfl) ?_
      exact WAs_cons rfl rfl (WR_v (y_a rfl) rfl (WR_k [1, 2, 5, 6, 14, 15, 17, 18] rfl m1101101100_76)) (WAs_nil)
    have m1001100100_7 : WA Tryz.prog 47 0 ops 6 #[true, false, false, true, true, false, false, true, false, false] ⟨[(1, num a), (2, .pin (topoP T) 0), (6, .ptr 0 0), (14, topoV T), (17, topoV T), (18, num a)], [some (.cells 3 [num 0])]⟩ (fun s => (s.σ = [some (.cells 3 [num n]), some (.cells 3 [num h])] ∧ Sub s.t [(1, num a), (2, .pin (topoP T) 0), (5, .ptr 0 0), (6, .ptr 1 0)]) ∨ (s.σ = [some (.cells 3 [num h]), some (.cells 3 [num n])] ∧ Sub s.t [(1, num a), (2, .pin (topoP T) 0), (5, .ptr 1 0), (6, .ptr 0 0)])) := by
      subst hops
      refine WA_step 1 [6] (by kernel_rfl) ?_
      exact WAs_cons rfl rfl (WR_v (y_a rfl) rfl (WR_k [1, 2, 6, 14, 15, 17, 18] rfl m1101100100_7)) (WAs_cons rfl rfl (WR_l (l_a rfl) rfl (WR_k [1, 2, 5, 6, 14, 17, 18] rfl m1001101100_76)) (WAs_nil))
    have m1001100000_ : WA Tryz.prog 47 0 ops 7 #[true, false, false, true, true, false, false, false, false, false] ⟨[(1, num a), (2, .pin (topoP T) 0), (14, topoV T), (17, topoV T), (18, num a)], []⟩ (fun s => (s.σ = [some (.cells 3 [num n]), some (.cells 3 [num h])] ∧ Sub s.t [(1, num a), (2, .pin (topoP T) 0), (5, .ptr 0 0), (6, .ptr 1 0)]) ∨ (s.σ = [some (.cells 3 [num h]), some (.cells 3 [num n])] ∧ Sub s.t [(1, num a), (2, .pin (topoP T) 0), (5, .ptr 1 0), (6, .ptr 0 0)])) := by
      subst hops
      refine WA_step 1 [6, 7] (by kernel_rfl) ?_
      exact WAs_cons rfl rfl (WR_v (y_a rfl) rfl (WR_k [1, 2, 14, 15, 17, 18] rfl m1101100000_)) (WAs_cons rfl rfl (WR_l (l_a rfl) rfl (WR_k [1, 2, 5, 14, 17, 18] rfl m1001101000_6)) (WAs_cons rfl rfl (WR_l (l_a rfl) rfl (WR_k [1, 2, 6, 14, 17, 18] rfl m1001100100_7)) (WAs_nil)))
    have m1001001100_67 : WA Tryz.prog 47 0 ops 6 #[true, false, false, true, false, false, true, true, false, false] ⟨[(1, num a), (2, .pin (topoP T) 0), (5, .ptr 0 0), (6, .ptr 1 0), (14, topoV T), (17, topoV T)], [some (.cells 3 [num 0]), some (.cells 3 [num 0])]⟩ (fun s => (s.σ = [some (.cells 3 [num n]), some (.cells 3 [num h])] ∧ Sub s.t [(1, num a), (2, .pin (topoP T) 0), (5, .ptr 0 0), (6, .ptr 1 0)]) ∨ (s.σ = [some (.cells 3 [num h]), some (.cells 3 [num n])] ∧ Sub s.t [(1, num a), (2, .pin (topoP T) 0), (5, .ptr 1 0), (6, .ptr 0 0)])) := by
      subst hops
      refine WA_step 1 [4] (by kernel_rfl) ?_
      exact WAs_cons rfl rfl (WR_v (y_a rfl) rfl (WR_k [1, 2, 5, 6, 14, 15, 17] rfl m1101001100_67)) (WAs_cons rfl rfl (WR_v (y_a rfl) rfl (WR_k [1, 2, 5, 6, 14, 17, 18] rfl m1001101100_67)) (WAs_nil))
    have m1001001000_6 : WA Tryz.prog 47 0 ops 7 #[true, false, false, true, false, false, true, false, false, false] ⟨[(1, num a), (2, .pin (topoP T) 0), (5, .ptr 0 0), (14, topoV T), (17, topoV T)], [some (.cells 3 [num 0])]⟩ (fun s => (s.σ = [some (.cells 3 [num n]), some (.cells 3 [num h])] ∧ Sub s.t [(1, num a), (2, .pin (topoP T) 0), (5, .ptr 0 0), (6, .ptr 1 0)]) ∨ (s.σ = [some (.cells 3 [num h]), some (.cells 3 [num n])] ∧ Sub s.t [(1, num a), (2, .pin (topoP T) 0), (5, .ptr 1 0), (6, .ptr 0 0)])) := by
      subst hops
      refine WA_step 1 [4, 7] (by kernel_rfl) ?_
      exact WAs_cons rfl rfl (WR_v (y_a rfl) rfl (WR_k [1, 2, 5, 14, 15, 17] rfl m1101001000_6)) (WAs_cons rfl rfl (WR_v (y_a rfl) rfl (WR_k [1, 2, 5, 14, 17, 18] rfl m1001101000_6)) (WAs_cons rfl rfl (WR_l (l_a rfl) rfl (WR_k [1, 2, 5, 6, 14, 17] rfl m1001001100_67)) (WAs_nil)))
    have m1001001100_76 : WA Tryz.prog 47 0 ops 6 #[true, false, false, true, false, false, true, true, false, false] ⟨[(1, num a), (2, .pin (topoP T) 0), (5, .ptr 1 0), (6, .ptr 0 0), (14, topoV T), (17, topoV T)], [some (.cells 3 [num 0]), some (.cells 3 [num 0])]⟩ (fun s => (s.σ = [some (.cells 3 [num n]), some (.cells 3 [num h])] ∧ Sub s.t [(1, num a), (2, .pin (topoP T) 0), (5, .ptr 0 0), (6, .ptr 1 0)]) ∨ (s.σ = [some (.cells 3 [num h]), some (.cells 3 [num n])] ∧ Sub s.t [(1, num a), (2, .pin (topoP T) 0), (5, .ptr 1 0), (6, .ptr 0 0)])) := by
      subst hops
      refine WA_step 1 [4] (by kernel_rfl) ?_
      exact WAs_cons rfl rfl (WR_v (y_a rfl) rfl (WR_k [1, 2, 5, 6, 14, 15, 17] rfl m1101001100_76)) (WAs_cons rfl rfl (WR_v (y_a rfl) rfl (WR_k [1, 2, 5, 6, 14, 17, 18] rfl m1001101100_76)) (WAs_nil))
    have m1001000100_7 : WA Tryz.prog 47 0 ops 7 #[true, false, false, true, false, false, false, true, false, false] ⟨[(1, num a), (2, .pin (topoP T) 0), (6, .ptr 0 0), (14, topoV T), (17, topoV T)], [some (.cells 3 [num 0])]⟩ (fun s => (s.σ = [some (.cells 3 [num n]), some (.cells 3 [num h])] ∧ Sub s.t [(1, num a), (2, .pin (topoP T) 0), (5, .ptr 0 0), (6, .ptr 1 0)]) ∨ (s.σ = [some (.cells 3 [num h]), some (.cells 3 [num n])] ∧ Sub s.t [(1, num a), (2, .pin (topoP T) 0), (5, .ptr 1 0), (6, .ptr 0 0)])) := by
      subst hops
      refine WA_step 1 [4, 6] (by kernel_rfl) ?_
      exact WAs_cons rfl rfl (WR_v (y_a rfl) rfl (WR_k [1, 2, 6, 14, 15, 17] rfl m1101000100_7)) (WAs_cons rfl rfl (WR_v (y_a rfl) rfl (WR_k [1, 2, 6, 14, 17, 18] rfl m1001100100_7)) (WAs_cons rfl rfl (WR_l (l_a rfl) rfl (WR_k [1, 2, 5, 6, 14, 17] rfl m1001001100_76)) (WAs_nil)))
    have m1001000000_ : WA Tryz.prog 47 0 ops 8 #[true, false, false, true, false, false, false, false, false, false] ⟨[(1, num a), (2, .pin (topoP T) 0), (14, topoV T), (17, topoV T)], []⟩ (fun s => (s.σ = [some (.cells 3 [num n]), some (.cells 3 [num h])] ∧ Sub s.t [(1, num a), (2, .pin (topoP T) 0), (5, .ptr 0 0), (6, .ptr 1 0)]) ∨ (s.σ = [some (.cells 3 [num h]), some (.cells 3 [num n])] ∧ Sub s.t [(1, num a), (2, .pin (topoP T) 0), (5, .ptr 1 0), (6, .ptr 0 0)])) := by
      subst hops
      refine WA_step 1 [4, 6, 7] (by kernel_rfl) ?_
      exact WAs_cons rfl rfl (WR_v (y_a rfl) rfl (WR_k [1, 2, 14, 15, 17] rfl m1101000000_)) (WAs_cons rfl rfl (WR_v (y_a rfl) rfl (WR_k [1, 2, 14, 17, 18] rfl m1001100000_)) (WAs_cons rfl rfl (WR_l (l_a rfl) rfl (WR_k [1, 2, 5, 14, 17] rfl m1001001000_6)) (WAs_cons rfl rfl (WR_l (l_a rfl) rfl (WR_k [1, 2, 6, 14, 17] rfl m1001000100_7)) (WAs_nil))))
    have m1000101100_67 : WA Tryz.prog 47 0 ops 6 #[true, false, false, false, true, false, true, true, false, false] ⟨[(1, num a), (2, .pin (topoP T) 0), (5, .ptr 0 0), (6, .ptr 1 0), (14, topoV T), (18, num a)], [some (.cells 3 [num 0]), some (.cells 3 [num 0])]⟩ (fun s => (s.σ = [some (.cells 3 [num n]), some (.cells 3 [num h])] ∧ Sub s.t [(1, num a), (2, .pin (topoP T) 0), (5, .ptr 0 0), (6, .ptr 1 0)]) ∨ (s.σ = [some (.cells 3 [num h]), some (.cells 3 [num n])] ∧ Sub s.t [(1, num a), (2, .pin (topoP T) 0), (5, .ptr 1 0), (6, .ptr 0 0)])) := by
      subst hops
      refine WA_step 1 [3] (by kernel_rfl) ?_
      exact WAs_cons rfl rfl (WR_v (y_a rfl) rfl (WR_k [1, 2, 5, 6, 14, 15, 18] rfl m1100101100_67)) (WAs_cons rfl rfl (WR_v (y_a rfl) rfl (WR_k [1, 2, 5, 6, 14, 17, 18] rfl m1001101100_67)) (WAs_nil))
    have m1000101000_6 : WA Tryz.prog 47 0 ops 7 #[true, false, false, false, true, false, true, false, false, false] ⟨[(1, num a), (2, .pin (topoP T) 0), (5, .ptr 0 0), (14, topoV T), (18, num a)], [some (.cells 3 [num 0])]⟩ (fun s => (s.σ = [some (.cells 3 [num n]), some (.cells 3 [num h])] ∧ Sub s.t [(1, num a), (2, .pin (topoP T) 0), (5, .ptr 0 0), (6, .ptr 1 0)]) ∨ (s.σ = [some (.cells 3 [num h]), some (.cells 3 [num n])] ∧ Sub s.t [(1, num a), (2, .pin (topoP T) 0), (5, .ptr 1 0), (6, .ptr 0 0)])) := by
      subst hops
      refine WA_step 1 [3, 7] (by kernel_rfl) ?_
      exact WAs_cons rfl rfl (WR_v (y_a rfl) rfl (WR_k [1, 2, 5, 14, 15, 18] rfl m1100101000_6)) (WAs_cons rfl rfl (WR_v (y_a rfl) rfl (WR_k [1, 2, 5, 14, 17, 18] rfl m1001101000_6)) (WAs_cons rfl rfl (WR_l (l_a rfl) rfl (WR_k [1, 2, 5, 6, 14, 18] rfl m1000101100_67)) (WAs_nil)))
    have m1000101100_76 : WA Tryz.prog 47 0 ops 6 #[true, false, false, false, true, false, true, true, false, false] ⟨[(1, num a), (2, .pin (topoP T) 0), (5, .ptr 1 0), (6, .ptr 0 0), (14, topoV T), (18, num a)], [some (.cells 3 [num 0]), some (.cells 3 [num 0])]⟩ (fun s => (s.σ = [some (.cells 3 [num n]), some (.cells 3 [num h])] ∧ Sub s.t [(1, num a), (2, .pin (topoP T) 0), (5, .ptr 0 0), (6, .ptr 1 0)]) ∨ (s.σ = [some (.cells 3 [num h]), some (.cells 3 [num n])] ∧ Sub s.t [(1, num a), (2, .pin (topoP T) 0), (5, .ptr 1 0), (6, .ptr 0 0)])) := by
      subst hops
      refine WA_step 1 [3] (by kernel_rfl) ?_
      exact WAs_cons rfl rfl (WR_v (y_a rfl) rfl (WR_k [1, 2, 5, 6, 14, 15, 18] rfl m1100101100_76)) (WAs_cons rfl rfl (WR_v (y_a rfl) rfl (WR_k [1, 2, 5, 6, 14, 17, 18] rfl m1001101100_76)) (WAs_nil))
    have m1000100100_7 : WA Tryz.prog 47 0 ops 7 #[true, false, false, false, true, false, false, true, false, false] ⟨[(1, num a), (2, .pin (topoP T) 0), (6, .ptr 0 0), (14, topoV T), (18, num a)], [some (.cells 3 [num 0])]⟩ (fun s => (s.σ = [some (.cells 3 [num n]), some (.cells 3 [num h])] ∧ Sub s.t [(1, num a), (2, .pin (topoP T) 0), (5, .ptr 0 0), (6, .ptr 1 0)]) ∨ (s.σ = [some (.cells 3 [num h]), some (.cells 3 [num n])] ∧ Sub s.t [(1, num a), (2, .pin (topoP T) 0), (5, .ptr 1 0), (6, .ptr 0 0)])) := by
      subst hops
      refine WA_step 1 [3, 6] (by kernel_rfl) ?_
      exact WAs_cons rfl rfl (WR_v (y_a rfl) rfl (WR_k [1, 2, 6, 14, 15, 18] rfl m1100100100_7)) (WAs_cons rfl rfl (WR_v (y_a rfl) rfl (WR_k [1, 2, 6, 14, 17, 18] rfl m1001100100_7)) (WAs_cons rfl rfl (WR_l (l_a rfl) rfl (WR_k [1, 2, 5, 6, 14, 18] rfl m1000101100_76)) (WAs_nil)))
    have m1000100000_ : WA Tryz.prog 47 0 ops 8 #[true, false, false, false, true, false, false, false, false, false] ⟨[(1, num a), (2, .pin (topoP T) 0), (14, topoV T), (18, num a)], []⟩ (fun s => (s.σ = [some (.cells 3 [num n]), some (.cells 3 [num h])] ∧ Sub s.t [(1, num a), (2, .pin (topoP T) 0), (5, .ptr 0 0), (6, .ptr 1 0)]) ∨ (s.σ = [some (.cells 3 [num h]), some (.cells 3 [num n])] ∧ Sub s.t [(1, num a), (2, .pin (topoP T) 0), (5, .ptr 1 0), (6, .ptr 0 0)])) := by
      subst hops
      refine WA_step 1 [3, 6, 7] (by kernel_rfl) ?_
      exact WAs_cons rfl rfl (WR_v (y_a rfl) rfl (WR_k [1, 2, 14, 15, 18] rfl m1100100000_)) (WAs_cons rfl rfl (WR_v (y_a rfl) rfl (WR_k [1, 2, 14, 17, 18] rfl m1001100000_)) (WAs_cons rfl rfl (WR_l (l_a rfl) rfl (WR_k [1, 2, 5, 14, 18] rfl m1000101000_6)) (WAs_cons rfl rfl (WR_l (l_a rfl) rfl (WR_k [1, 2, 6, 14, 18] rfl m1000100100_7)) (WAs_nil))))
    have m1000001100_67 : WA Tryz.prog 47 0 ops 7 #[true, false, false, false, false, false, true, true, false, false] ⟨[(1, num a), (2, .pin (topoP T) 0), (5, .ptr 0 0), (6, .ptr 1 0), (14, topoV T)], [some (.cells 3 [num 0]), some (.cells 3 [num 0])]⟩ (fun s => (s.σ = [some (.cells 3 [num n]), some (.cells 3 [num h])] ∧ Sub s.t [(1, num a), (2, .pin (topoP T) 0), (5, .ptr 0 0), (6, .ptr 1 0)]) ∨ (s.σ = [some (.cells 3 [num h]), some (.cells 3 [num n])] ∧ Sub s.t [(1, num a), (2, .pin (topoP T) 0), (5, .ptr 1 0), (6, .ptr 0 0)])) := by
      subst hops
      refine WA_step 1 [3, 4] (by kernel_rfl) ?_
      exact WAs_cons rfl rfl (WR_v (y_a rfl) rfl (WR_k [1, 2, 5, 6, 14, 15] rfl m1100001100_67)) (WAs_cons rfl rfl (WR_v (y_a rfl) rfl (WR_k [1, 2, 5, 6, 14, 17] rfl m1001001100_67)) (WAs_cons rfl rfl (WR_v (y_a rfl) rfl (WR_k [1, 2, 5, 6, 14, 18] rfl m1000101100_67)) (WAs_nil)))
    have m1000001000_6 : WA Tryz.prog 47 0 ops 8 #[true, false, false, false, false, false, true, false, false, false] ⟨[(1, num a), (2, .pin (topoP T) 0), (5, .ptr 0 0), (14, topoV T)], [some (.cells 3 [num 0])]⟩ (fun s => (s.σ = [some (.cells 3 [num n]), some (.cells 3 [num h])] ∧ Sub s.t [(1, num a), (2, .pin (topoP T) 0), (5, .ptr 0 0), (6, .ptr 1 0)]) ∨ (s.σ = [some (.cells 3 [num h]), some (.cells 3 [num n])] ∧ Sub s.t [(1, num a), (2, .pin (topoP T) 0), (5, .ptr 1 0), (6, .ptr 0 0)])) := by
      subst hops
      refine WA_step 1 [3, 4, 7] (by kernel_rfl) ?_
      exact WAs_cons rfl rfl (WR_v (y_a rfl) rfl (WR_k [1, 2, 5, 14, 15] rfl m1100001000_6)) (WAs_cons rfl rfl (WR_v (y_a rfl) rfl (WR_k [1, 2, 5, 14, 17] rfl m1001001000_6)) (WAs_cons rfl rfl (WR_v (y_a rfl) rfl (WR_k [1, 2, 5, 14, 18] rfl m1000101000_6)) (WAs_cons rfl rfl (WR_l (l_a rfl) rfl (WR_k [1, 2, 5, 6, 14] rfl m1000001100_67)) (WAs_nil))))
    have m1000001100_76 : WA Tryz.prog 47 0 ops 7 #[true, false, false, false, false, false, true, true, false, false] ⟨[(1, num a), (2, .pin (topoP T) 0), (5, .ptr 1 0), (6, .ptr 0 0), (14, topoV T)], [some (.cells 3 [num 0]), some (.cells 3 [num 0])]⟩ (fun s => (s.σ = [some (.cells 3 [num n]), some (.cells 3 [num h])] ∧ Sub s.t [(1, num a), (2, .pin (topoP T) 0), (5, .ptr 0 0), (6, .ptr 1 0)]) ∨ (s.σ = [some (.cells 3 [num h]), some (.cells 3 [num n])] ∧ Sub s.t [(1, num a), (2, .pin (topoP T) 0), (5, .ptr 1 0), (6, .ptr 0 0)])) := by
      subst hops
      refine WA_step 1 [3, 4] (by kernel_rfl) ?_
      exact WAs_cons rfl rfl (WR_v (y_a rfl) rfl (WR_k [1, 2, 5, 6, 14, 15] rfl m1100001100_76)) (WAs_cons rfl rfl (WR_v (y_a rfl) rfl (WR_k [1, 2, 5, 6, 14, 17] rfl m1001001100_76)) (WAs_cons rfl rfl (WR_v (y_a rfl) rfl (WR_k [1, 2, 5, 6, 14, 18] rfl m1000101100_76)) (WAs_nil)))
    have m1000000100_7 : WA Tryz.prog 47 0 ops 8 #[true, false, false, false, false, false, false, true, false, false] ⟨[(1, num a), (2, .pin (topoP T) 0), (6, .ptr 0 0), (14, topoV T)], [some (.cells 3 [num 0])]⟩ (fun s => (s.σ = [some (.cells 3 [num n]), some (.cells 3 [num h])] ∧ Sub s.t [(1, num a), (2, .pin (topoP T) 0), (5, .ptr 0 0), (6, .ptr 1 0)]) ∨ (s.σ = [some (.cells 3 [num h]), some (.cells 3 [num n])] ∧ Sub s.t [(1, num a), (2, .pin (topoP T) 0), (5, .ptr 1 0), (6, .ptr 0 0)])) := by
      subst hops
      refine WA_step 1 [3, 4, 6] (by kernel_rfl) ?_
      exact WAs_cons rfl rfl (WR_v (y_a rfl) rfl (WR_k [1, 2, 6, 14, 15] rfl m1100000100_7)) (WAs_cons rfl rfl (WR_v (y_a rfl) rfl (WR_k [1, 2, 6, 14, 17] rfl m1001000100_7)) (WAs_cons rfl rfl (WR_v (y_a rfl) rfl (WR_k [1, 2, 6, 14, 18] rfl m1000100100_7)) (WAs_cons rfl rfl (WR_l (l_a rfl) rfl (WR_k [1, 2, 5, 6, 14] rfl m1000001100_76)) (WAs_nil))))
    have m1000000000_ : WA Tryz.prog 47 0 ops 9 #[true, false, false, false, false, false, false, false, false, false] ⟨[(1, num a), (2, .pin (topoP T) 0), (14, topoV T)], []⟩ (fun s => (s.σ = [some (.cells 3 [num n]), some (.cells 3 [num h])] ∧ Sub s.t [(1, num a), (2, .pin (topoP T) 0), (5, .ptr 0 0), (6, .ptr 1 0)]) ∨ (s.σ = [some (.cells 3 [num h]), some (.cells 3 [num n])] ∧ Sub s.t [(1, num a), (2, .pin (topoP T) 0), (5, .ptr 1 0), (6, .ptr 0 0)])) := by
      subst hops
      refine WA_step 1 [3, 4, 6, 7] (by kernel_rfl) ?_
      exact WAs_cons rfl rfl (WR_v (y_a rfl) rfl (WR_k [1, 2, 14, 15] rfl m1100000000_)) (WAs_cons rfl rfl (WR_v (y_a rfl) rfl (WR_k [1, 2, 14, 17] rfl m1001000000_)) (WAs_cons rfl rfl (WR_v (y_a rfl) rfl (WR_k [1, 2, 14, 18] rfl m1000100000_)) (WAs_cons rfl rfl (WR_l (l_a rfl) rfl (WR_k [1, 2, 5, 14] rfl m1000001000_6)) (WAs_cons rfl rfl (WR_l (l_a rfl) rfl (WR_k [1, 2, 6, 14] rfl m1000000100_7)) (WAs_nil)))))
    have m0101101100_67 : WA Tryz.prog 47 0 ops 5 #[false, true, false, true, true, false, true, true, false, false] ⟨[(1, num a), (2, .pin (topoP T) 0), (5, .ptr 0 0), (6, .ptr 1 0), (15, num a), (17, topoV T), (18, num a)], [some (.cells 3 [num 0]), some (.cells 3 [num 0])]⟩ (fun s => (s.σ = [some (.cells 3 [num n]), some (.cells 3 [num h])] ∧ Sub s.t [(1, num a), (2, .pin (topoP T) 0), (5, .ptr 0 0), (6, .ptr 1 0)]) ∨ (s.σ = [some (.cells 3 [num h]), some (.cells 3 [num n])] ∧ Sub s.t [(1, num a), (2, .pin (topoP T) 0), (5, .ptr 1 0), (6, .ptr 0 0)])) := by
      subst hops
      refine WA_step 0 [] (by kernel_rfl) ?_
      exact WAs_cons rfl rfl (WR_v (y_a rfl) rfl (WR_k [1, 2, 5, 6, 14, 15, 17, 18] rfl m1101101100_67)) (WAs_nil)
    have m0101101000_6 : WA Tryz.prog 47 0 ops 6 #[false, true, false, true, true, false, true, false, false, false] ⟨[(1, num a), (2, .pin (topoP T) 0), (5, .ptr 0 0), (15, num a), (17, topoV T), (18, num a)], [some (.cells 3 [num 0])]⟩ (fun s => (s.σ = [some (.cells 3 [num n]), some (.cells 3 [num h])] ∧ Sub s.t [(1, num a), (2, .pin (topoP T) 0), (5, .ptr 0 0), (6, .ptr 1 0)]) ∨ (s.σ = [some (.cells 3 [num h]), some (.cells 3 [num n])] ∧ Sub s.t [(1, num a), (2, .pin (topoP T) 0), (5, .ptr 1 0), (6, .ptr 0 0)])) := by
      subst hops
      refine WA_step 0 [7] (by kernel_rfl) ?_
      exact WAs_cons rfl rfl (WR_v (y_a rfl) rfl (WR_k [1, 2, 5, 14, 15, 17, 18] rfl m1101101000_6)) (WAs_cons rfl rfl (WR_l (l_a rfl) rfl (WR_k [1, 2, 5, 6, 15, 17, 18] rfl m0101101100_67)) (WAs_nil))
    have m0101101100_76 : WA Tryz.prog 47 0 ops 5 #[false, true, false, true, true, false, true, true, false, false] ⟨[(1, num a), (2, .pin (topoP T) 0), (5, .ptr 1 0), (6, .ptr 0 0), (15, num a), (17, topoV T), (18, num a)], [some (.cells 3 [num 0]), some (.cells 3 [num 0])]⟩ (fun s => (s.σ = [some (.cells 3 [num n]), some (.cells 3 [num h])] ∧ Sub s.t [(1, num a), (2, .pin (topoP T) 0), (5, .ptr 0 0), (6, .ptr 1 0)]) ∨ (s.σ = [some (.cells 3 [num h]), some (.cells 3 [num n])] ∧ Sub s.t [(1, num a), (2, .pin (topoP T) 0), (5, .ptr 1 0), (6, .ptr 0 0)])) := by
      subst hops
      refine WA_step 0 [] (by kernel_rfl) ?_
      exact WAs_cons rfl rfl (WR_v (y_a rfl) rfl (WR_k [1, 2, 5, 6, 14, 15, 17, 18] rfl m1101101100_76)) (WAs_nil)
    have m0101100100_7 : WA Tryz.prog 47 0 ops 6 #[false, true, false, true, true, false, false, true, false, false] ⟨[(1, num a), (2, .pin (topoP T) 0), (6, .ptr 0 0), (15, num a), (17, topoV T), (18, num a)], [some (.cells 3 [num 0])]⟩ (fun s => (s.σ = [some (.cells 3 [num n]), some (.cells 3 [num h])] ∧ Sub s.t [(1, num a), (2, .pin (topoP T) 0), (5, .ptr 0 0), (6, .ptr 1 0)]) ∨ (s.σ = [some (.cells 3 [num h]), some (.cells 3 [num n])] ∧ Sub s.t [(1, num a), (2, .pin (topoP T) 0), (5, .ptr 1 0), (6, .ptr 0 0)])) := by
      subst hops
      refine WA_step 0 [6] (by kernel_rfl) ?_
      exact WAs_cons rfl rfl (WR_v (y_a rfl) rfl (WR_k [1, 2, 6, 14, 15, 17, 18] rfl m1101100100_7)) (WAs_cons rfl rfl (WR_l (l_a rfl) rfl (WR_k [1, 2, 5, 6, 15, 17, 18] rfl m0101101100_76)) (WAs_nil))
    have m0101100000_ : WA Tryz.prog 47 0 ops 7 #[false, true, false, true, true, false, false, false, false, false] ⟨[(1, num a), (2, .pin (topoP T) 0), (15, num a), (17, topoV T), (18, num a)], []⟩ (fun s => (s.σ = [some (.cells 3 [num n]), some (.cells 3 [num h])] ∧ Sub s.t [(1, num a), (2, .pin (topoP T) 0), (5, .ptr 0 0), (6, .ptr 1 0)]) ∨ (s.σ = [some (.cells 3 [num h]), some (.cells 3 [num n])] ∧ Sub s.t [(1, num a), (2, .pin (topoP T) 0), (5, .ptr 1 0), (6, .ptr 0 0)])) := by
      subst hops
      refine WA_step 0 [6, 7] (by kernel_rfl) ?_
      exact WAs_cons rfl rfl (WR_v (y_a rfl) rfl (WR_k [1, 2, 14, 15, 17, 18] rfl m1101100000_)) (WAs_cons rfl rfl (WR_l (l_a rfl) rfl (WR_k [1, 2, 5, 15, 17, 18] rfl m0101101000_6)) (WAs_cons rfl rfl (WR_l (l_a rfl) rfl (WR_k [1, 2, 6, 15, 17, 18] rfl m0101100100_7)) (WAs_nil)))
    have m0101001100_67 : WA Tryz.prog 47 0 ops 6 #[false, true, false, true, false, false, true, true, false, false] ⟨[(1, num a), (2, .pin (topoP T) 0), (5, .ptr 0 0), (6, .ptr 1 0), (15, num a), (17, topoV T)], [some (.cells 3 [num 0]), some (.cells 3 [num 0])]⟩ (fun s => (s.σ = [some (.cells 3 [num n]), some (.cells 3 [num h])] ∧ Sub s.t [(1, num a), (2, .pin (topoP T) 0), (5, .ptr 0 0), (6, .ptr 1 0)]) ∨ (s.σ = [some (.cells 3 [num h]), some (.cells 3 [num n])] ∧ Sub s.t [(1, num a), (2, .pin (topoP T) 0), (5, .ptr 1 0), (6, .ptr 0 0)])) := by
      subst hops
      refine WA_step 0 [4] (by kernel_rfl) ?_
      exact WAs_cons rfl rfl (WR_v (y_a rfl) rfl (WR_k [1, 2, 5, 6, 14, 15, 17] rfl m1101001100_67)) (WAs_cons rfl rfl (WR_v (y_a rfl) rfl (WR_k [1, 2, 5, 6, 15, 17, 18] rfl m0101101100_67)) (WAs_nil))
    have m0101001000_6 : WA Tryz.prog 47 0 ops 7 #[false, true, false, true, false, false, true, false, false, false] ⟨[(1, num a), (2, .pin (topoP T) 0), (5, .ptr 0 0), (15, num a), (17, topoV T)], [some (.cells 3 [num 0])]⟩ (fun s => (s.σ = [some (.cells 3 [num n]), some (.cells 3 [num h])] ∧ Sub s.t [(1, num a), (2, .pin (topoP T) 0), (5, .ptr 0 0), (6, .ptr 1 0)]) ∨ (s.σ = [some (.cells 3 [num h]), some (.cells 3 [num n])] ∧ Sub s.t [(1, num a), (2, .pin (topoP T) 0), (5, .ptr 1 0), (6, .ptr 0 0)])) := by
      subst hops
      refine WA_step 0 [4, 7] (by kernel_rfl) ?_
      exact WAs_cons rfl rfl (WR_v (y_a rfl) rfl (WR_k [1, 2, 5, 14, 15, 17] rfl m1101001000_6)) (WAs_cons rfl rfl (WR_v (y_a rfl) rfl (WR_k [1, 2, 5, 15, 17, 18] rfl m0101101000_6)) (WAs_cons rfl rfl (WR_l (l_a rfl) rfl (WR_k [1, 2, 5, 6, 15, 17] rfl m0101001100_67)) (WAs_nil)))
    have m0101001100_76 : WA Tryz.prog 47 0 ops 6 #[false, true, false, true, false, false, true, true, false, false] ⟨[(1, num a), (2, .pin (topoP T) 0), (5, .ptr 1 0), (6, .ptr 0 0), (15, num a), (17, topoV T)], [some (.cells 3 [num 0]), some (.cells 3 [num 0])]⟩ (fun s => (s.σ = [some (.cells 3 [num n]), some (.cells 3 [num h])] ∧ Sub s.t [(1, num a), (2, .pin (topoP T) 0), (5, .ptr 0 0), (6, .ptr 1 0)]) ∨ (s.σ = [some (.cells 3 [num h]), some (.cells 3 [num n])] ∧ Sub s.t [(1, num a), (2, .pin (topoP T) 0), (5, .ptr 1 0), (6, .ptr 0 0)])) := by
      subst hops
      refine WA_step 0 [4] (by kernel_rfl) ?_
      exact WAs_cons rfl rfl (WR_v (y_a rfl) rfl (WR_k [1, 2, 5, 6, 14, 15, 17] rfl m1101001100_76)) (WAs_cons rfl rfl (WR_v (y_a rfl) rfl (WR_k [1, 2, 5, 6, 15, 17, 18] rfl m0101101100_76)) (WAs_nil))
    have m0101000100_7 : WA Tryz.prog 47 0 ops 7 #[false, true, false, true, false, false, false, true, false, false] ⟨[(1, num a), (2, .pin (topoP T) 0), (6, .ptr 0 0), (15, num a), (17, topoV T)], [some (.cells 3 [num 0])]⟩ (fun s => (s.σ = [some (.cells 3 [num n]), some (.cells 3 [num h])] ∧ Sub s.t [(1, num a), (2, .pin (topoP T) 0), (5, .ptr 0 0), (6, .ptr 1 0)]) ∨ (s.σ = [some (.cells 3 [num h]), some (.cells 3 [num n])] ∧ Sub s.t [(1, num a), (2, .pin (topoP T) 0), (5, .ptr 1 0), (6, .ptr 0 0)])) := by
      subst hops
      refine WA_step 0 [4, 6] (by kernel_rfl) ?_
      exact WAs_cons rfl rfl (WR_v (y_a rfl) rfl (WR_k [1, 2, 6, 14, 15, 17] rfl m1101000100_7)) (WAs_cons rfl rfl (WR_v (y_a rfl) rfl (WR_k [1, 2, 6, 15, 17, 18] rfl m0101100100_7)) (WAs_cons rfl rfl (WR_l (l_a rfl) rfl (WR_k [1, 2, 5, 6, 15, 17] rfl m0101001100_76)) (WAs_nil)))
    have m0101000000_ : WA Tryz.prog 47 0 ops 8 #[false, true, false, true, false, false, false, false, false, false] ⟨[(1, num a), (2, .pin (topoP T) 0), (15, num a), (17, topoV T)], []⟩ (fun s => (s.σ = [some (.cells 3 [num n]), some (.cells 3 [num h])] ∧ Sub s.t [(1, num a), (2, .pin (topoP T) 0), (5, .ptr 0 0), (6, .ptr 1 0)]) ∨ (s.σ = [some (.cells 3 [num h]), some (.cells 3 [num n])] ∧ Sub s.t [(1, num a), (2, .pin (topoP T) 0), (5, .ptr 1 0), (6, .ptr 0 0)])) := by
      subst hops
      refine WA_step 0 [4, 6, 7] (by kernel_rfl) ?_
      exact WAs_cons rfl rfl (WR_v (y_a rfl) rfl (WR_k [1, 2, 14, 15, 17] rfl m1101000000_)) (WAs_cons rfl rfl (WR_v (y_a rfl) rfl (WR_k [1, 2, 15, 17, 18] rfl m0101100000_)) (WAs_cons rfl rfl (WR_l (l_a rfl) rfl (WR_k [1, 2, 5, 15, 17] rfl m0101001000_6)) (WAs_cons rfl rfl (WR_l (l_a rfl) rfl (WR_k [1, 2, 6, 15, 17] rfl m0101000100_7)) (WAs_nil))))
    have m0100101100_67 : WA Tryz.prog 47 0 ops 6 #[false, true, false, false, true, false, true, true, false, false] ⟨[(1, num a), (2, .pin (topoP T) 0), (5, .ptr 0 0), (6, .ptr 1 0), (15, num a), (18, num a)], [some (.cells 3 [num 0]), some (.cells 3 [num 0])]⟩ (fun s => (s.σ = [some (.cells 3 [num n]), some (.cells 3 [num h])] ∧ Sub s.t [(1, num a), (2, .pin (topoP T) 0), (5, .ptr 0 0), (6, .ptr 1 0)]) ∨ (s.σ = [some (.cells 3 [num h]), some (.cells 3 [num n])] ∧ Sub s.t [(1, num a), (2, .pin (topoP T) 0), (5, .ptr 1 0), (6, .ptr 0 0)])) := by
      subst hops
      refine WA_step 0 [3] (by kernel_rfl) ?_
      exact WAs_cons rfl rfl (WR_v (y_a rfl) rfl (WR_k [1, 2, 5, 6, 14, 15, 18] rfl m1100101100_67)) (WAs_cons rfl rfl (WR_v (y_a rfl) rfl (WR_k [1, 2, 5, 6, 15, 17, 18] rfl m0101101100_67)) (WAs_nil))
    have m0100101000_6 : WA Tryz.prog 47 0 ops 7 #[false, true, false, false, true, false, true, false, false, false] ⟨[(1, num a), (2, .pin (topoP T) 0), (5, .ptr 0 0), (15, num a), (18, num a)], [some (.cells 3 [num 0])]⟩ (fun s => (s.σ = [some (.cells 3 [num n]), some (.cells 3 [num h])] ∧ Sub s.t [(1, num a), (2, .pin (topoP T) 0), (5, .ptr 0 0), (6, .ptr 1 0)]) ∨ (s.σ = [some (.cells 3 [num h]), some (.cells 3 [num n])] ∧ Sub s.t [(1, num a), (2, .pin (topoP T) 0), (5, .ptr 1 0), (6, .ptr 0 0)])) := by
      subst hops
      refine WA_step 0 [3, 7] (by kernel_rfl) ?_
      exact WAs_cons rfl rfl (WR_v (y_a rfl) rfl (WR_k [1, 2, 5, 14, 15, 18] rfl m1100101000_6)) (WAs_cons rfl rfl (WR_v (y_a rfl) rfl (WR_k [1, 2, 5, 15, 17, 18] rfl m0101101000_6)) (WAs_cons rfl rfl (WR_l (l_a rfl) rfl (WR_k [1, 2, 5, 6, 15, 18] rfl m0100101100_67)) (WAs_nil)))
    have m0100101100_76 : WA Tryz.prog 47 0 ops 6 #[false, true, false, false, true, false, true, true, false, false] ⟨[(1, num a), (2, .pin (topoP T) 0), (5, .ptr 1 0), (6, .ptr 0 0), (15, num a), (18, num a)], [some (.cells 3 [num 0]), some (.cells 3 [num 0])]⟩ (fun s => (s.σ = [some (.cells 3 [num n]), some (.cells 3 [num h])] ∧ Sub s.t [(1, num a), (2, .pin (topoP T) 0), (5, .ptr 0 0), (6, .ptr 1 0)]) ∨ (s.σ = [some (.cells 3 [num h]), some (.cells 3 [num n])] ∧ Sub s.t [(1, num a), (2, .pin (topoP T) 0), (5, .ptr 1 0), (6, .ptr 0 0)])) := by
      subst hops
      refine WA_step 0 [3] (by kernel_rfl) ?_
      exact WAs_cons rfl rfl (WR_v (y_a rfl) rfl (WR_k [1, 2, 5, 6, 14, 15, 18] rfl m1100101100_76)) (WAs_cons rfl rfl (WR_v (y_a rfl) rfl (WR_k [1, 2, 5, 6, 15, 17, 18] rfl m0101101100_76)) (WAs_nil))
    have m0100100100_7 : WA Tryz.prog 47 0 ops 7 #[false, true, false, false, true, false, false, true, false, false] ⟨[(1, num a), (2, .pin (topoP T) 0), (6, .ptr 0 0), (15, num a), (18, num a)], [some (.cells 3 [num 0])]⟩ (fun s => (s.σ = [some (.cells 3 [num n]), some (.cells 3 [num h])] ∧ Sub s.t [(1, num a), (2, .pin (topoP T) 0), (5, .ptr 0 0), (6, .ptr 1 0)]) ∨ (s.σ = [some (.cells 3 [num h]), some (.cells 3 [num n])] ∧ Sub s.t [(1, num a), (2, .pin (topoP T) 0), (5, .ptr 1 0), (6, .ptr 0 0)])) := by
      subst hops
      refine WA_step 0 [3, 6] (by kernel_rfl) ?_
      exact WAs_cons rfl rfl (WR_v (y_a rfl) rfl (WR_k [1, 2, 6, 14, 15, 18] rfl m1100100100_7)) (WAs_cons rfl rfl (WR_v (y_a rfl) rfl (WR_k [1, 2, 6, 15, 17, 18] rfl m0101100100_7)) (WAs_cons rfl rfl (WR_l (l_a rfl) rfl (WR_k [1, 2, 5, 6, 15, 18] rfl m0100101100_76)) (WAs_nil)))
    have m0100100000_ : WA Tryz.prog 47 0 ops 8 #[false, true, false, false, true, false, false, false, false, false] ⟨[(1, num a), (2, .pin (topoP T) 0), (15, num a), (18, num a)], []⟩ (fun s => (s.σ = [some (.cells 3 [num n]), some (.cells 3 [num h])] ∧ Sub s.t [(1, num a), (2, .pin (topoP T) 0), (5, .ptr 0 0), (6, .ptr 1 0)]) ∨ (s.σ = [some (.cells 3 [num h]), some (.cells 3 [num n])] ∧ Sub s.t [(1, num a), (2, .pin (topoP T) 0), (5, .ptr 1 0), (6, .ptr 0 0)])) := by
      subst hops
      refine WA_step 0 [3, 6, 7] (by kernel_rfl) ?_
      exact WAs_cons rfl rfl (WR_v (y_a rfl) rfl (WR_k [1, 2, 14, 15, 18] rfl m1100100000_)) (WAs_cons rfl rfl (WR_v (y_a rfl) rfl (WR_k [1, 2, 15, 17, 18] rfl m0101100000_)) (WAs_cons rfl rfl (WR_l (l_a rfl) rfl (WR_k [1, 2, 5, 15, 18] rfl m0100101000_6)) (WAs_cons rfl rfl (WR_l (l_a rfl) rfl (WR_k [1, 2, 6, 15, 18] rfl m0100100100_7)) (WAs_nil))))
    have m0100001100_67 : WA Tryz.prog 47 0 ops 7 #[false, true, false, false, false, false, true, true, false, false] ⟨[(1, num a), (2, .pin (topoP T) 0), (5, .ptr 0 0), (6, .ptr 1 0), (15, num a)], [some (.cells 3 [num 0]), some (.cells 3 [num 0])]⟩ (fun s => (s.σ = [some (.cells 3 [num n]), some (.cells 3 [num h])] ∧ Sub s.t [(1, num a), (2, .pin (topoP T) 0), (5, .ptr 0 0), (6, .ptr 1 0)]) ∨ (s.σ = [some (.cells 3 [num h]), some (.cells 3 [num n])] ∧ Sub s.t [(1, num a), (2, .pin (topoP T) 0), (5, .ptr 1 0), (6, .ptr 0 0)])) := by
      subst hops
      refine WA_step 0 [3, 4] (by kernel_rfl) ?_
      exact WAs_cons rfl rfl (WR_v (y_a rfl) rfl (WR_k [1, 2, 5, 6, 14, 15] rfl m1100001100_67)) (WAs_cons rfl rfl (WR_v (y_a rfl) rfl (WR_k [1, 2, 5, 6, 15, 17] rfl m0101001100_67)) (WAs_cons rfl rfl (WR_v (y_a rfl) rfl (WR_k [1, 2, 5, 6, 15, 18] rfl m0100101100_67)) (WAs_nil)))
    have m0100001000_6 : WA Tryz.prog 47 0 ops 8 #[false, true, false, false, false, false, true, false, false, false] ⟨[(1, num a), (2, .pin (topoP T) 0), (5, .ptr 0 0), (15, num a)], [some (.cells 3 [num 0])]⟩ (fun s => (s.σ = [some (.cells 3 [num n]), some (.cells 3 [num h])] ∧ Sub s.t [(1, num a), (2, .pin (topoP T) 0), (5, .ptr 0 0), (6, .ptr 1 0)]) ∨ (s.σ = [some (.cells 3 [num h]), some (.cells 3 [num n])] ∧ Sub s.t [(1, num a), (2, .pin (topoP T) 0), (5, .ptr 1 0), (6, .ptr 0 0)])) := by
      subst hops
      refine WA_step 0 [3, 4, 7] (by kernel_rfl) ?_
      exact WAs_cons rfl rfl (WR_v (y_a rfl) rfl (WR_k [1, 2, 5, 14, 15] rfl m1100001000_6)) (WAs_cons rfl rfl (WR_v (y_a rfl) rfl (WR_k [1, 2, 5, 15, 17] rfl m0101001000_6)) (WAs_cons rfl rfl (WR_v (y_a rfl) rfl (WR_k [1, 2, 5, 15, 18] rfl m0100101000_6)) (WAs_cons rfl rfl (WR_l (l_a rfl) rfl (WR_k [1, 2, 5, 6, 15] rfl m0100001100_67)) (WAs_nil))))
    have m0100001100_76 : WA Tryz.prog 47 0 ops 7 #[false, true, false, false, false, false, true, true, false, false] ⟨[(1, num a), (2, .pin (topoP T) 0), (5, .ptr 1 0), (6, .ptr 0 0), (15, num a)], [some (.cells 3 [num 0]), some (.cells 3 [num 0])]⟩ (fun s => (s.σ = [some (.cells 3 [num n]), some (.cells 3 [num h])] ∧ Sub s.t [(1, num a), (2, .pin (topoP T) 0), (5, .ptr 0 0), (6, .ptr 1 0)]) ∨ (s.σ = [some (.cells 3 [num h]), some (.cells 3 [num n])] ∧ Sub s.t [(1, num a), (2, .pin (topoP T) 0), (5, .ptr 1 0), (6, .ptr 0 0)])) := by
      subst hops
      refine WA_step 0 [3, 4] (by kernel_rfl) ?_
      exact WAs_cons rfl rfl (WR_v (y_a rfl) rfl (WR_k [1, 2, 5, 6, 14, 15] rfl m1100001100_76)) (WAs_cons rfl rfl (WR_v (y_a rfl) rfl (WR_k [1, 2, 5, 6, 15, 17] rfl m0101001100_76)) (WAs_cons rfl rfl (WR_v (y_a rfl) rfl (WR_k [1, 2, 5, 6, 15, 18] rfl m0100101100_76)) (WAs_nil)))
    have m0100000100_7 : WA Tryz.prog 47 0 ops 8 #[false, true, false, false, false, false, false, true, false, false] ⟨[(1, num a), (2, .pin (topoP T) 0), (6, .ptr 0 0), (15, num a)], [some (.cells 3 [num 0])]⟩ (fun s => (s.σ = [some (.cells 3 [num n]), some (.cells 3 [num h])] ∧ Sub s.t [(1, num a), (2, .pin (topoP T) 0), (5, .ptr 0 0), (6, .ptr 1 0)]) ∨ (s.σ = [some (.cells 3 [num h]), some (.cells 3 [num n])] ∧ Sub s.t [(1, num a), (2, .pin (topoP T) 0), (5, .ptr 1 0), (6, .ptr 0 0)])) := by
      subst hops
      refine WA_step 0 [3, 4, 6] (by kernel_rfl) ?_
      exact WAs_cons rfl rfl (WR_v (y_a rfl) rfl (WR_k [1, 2, 6, 14, 15] rfl m1100000100_7)) (WAs_cons rfl rfl (WR_v (y_a rfl) rfl (WR_k [1, 2, 6, 15, 17] rfl m0101000100_7)) (WAs_cons rfl rfl (WR_v (y_a rfl) rfl (WR_k [1, 2, 6, 15, 18] rfl m0100100100_7)) (WAs_cons rfl rfl (WR_l (l_a rfl) rfl (WR_k [1, 2, 5, 6, 15] rfl m0100001100_76)) (WAs_nil))))
    have m0100000000_ : WA Tryz.prog 47 0 ops 9 #[false, true, false, false, false, false, false, false, false, false] ⟨[(1, num a), (2, .pin (topoP T) 0), (15, num a)], []⟩ (fun s => (s.σ = [some (.cells 3 [num n]), some (.cells 3 [num h])] ∧ Sub s.t [(1, num a), (2, .pin (topoP T) 0), (5, .ptr 0 0), (6, .ptr 1 0)]) ∨ (s.σ = [some (.cells 3 [num h]), some (.cells 3 [num n])] ∧ Sub s.t [(1, num a), (2, .pin (topoP T) 0), (5, .ptr 1 0), (6, .ptr 0 0)])) := by
      subst hops
      refine WA_step 0 [3, 4, 6, 7] (by kernel_rfl) ?_
      exact WAs_cons rfl rfl (WR_v (y_a rfl) rfl (WR_k [1, 2, 14, 15] rfl m1100000000_)) (WAs_cons rfl rfl (WR_v (y_a rfl) rfl (WR_k [1, 2, 15, 17] rfl m0101000000_)) (WAs_cons rfl rfl (WR_v (y_a rfl) rfl (WR_k [1, 2, 15, 18] rfl m0100100000_)) (WAs_cons rfl rfl (WR_l (l_a rfl) rfl (WR_k [1, 2, 5, 15] rfl m0100001000_6)) (WAs_cons rfl rfl (WR_l (l_a rfl) rfl (WR_k [1, 2, 6, 15] rfl m0100000100_7)) (WAs_nil)))))
    have m0001101100_67 : WA Tryz.prog 47 0 ops 6 #[false, false, false, true, true, false, true, true, false, false] ⟨[(1, num a), (2, .pin (topoP T) 0), (5, .ptr 0 0), (6, .ptr 1 0), (17, topoV T), (18, num a)], [some (.cells 3 [num 0]), some (.cells 3 [num 0])]⟩ (fun s => (s.σ = [some (.cells 3 [num n]), some (.cells 3 [num h])] ∧ Sub s.t [(1, num a), (2, .pin (topoP T) 0), (5, .ptr 0 0), (6, .ptr 1 0)]) ∨ (s.σ = [some (.cells 3 [num h]), some (.cells 3 [num n])] ∧ Sub s.t [(1, num a), (2, .pin (topoP T) 0), (5, .ptr 1 0), (6, .ptr 0 0)])) := by
      subst hops
      refine WA_step 0 [1] (by kernel_rfl) ?_
      exact WAs_cons rfl rfl (WR_v (y_a rfl) rfl (WR_k [1, 2, 5, 6, 14, 17, 18] rfl m1001101100_67)) (WAs_cons rfl rfl (WR_v (y_a rfl) rfl (WR_k [1, 2, 5, 6, 15, 17, 18] rfl m0101101100_67)) (WAs_nil))
    have m0001101000_6 : WA Tryz.prog 47 0 ops 7 #[false, false, false, true, true, false, true, false, false, false] ⟨[(1, num a), (2, .pin (topoP T) 0), (5, .ptr 0 0), (17, topoV T), (18, num a)], [some (.cells 3 [num 0])]⟩ (fun s => (s.σ = [some (.cells 3 [num n]), some (.cells 3 [num h])] ∧ Sub s.t [(1, num a), (2, .pin (topoP T) 0), (5, .ptr 0 0), (6, .ptr 1 0)]) ∨ (s.σ = [some (.cells 3 [num h]), some (.cells 3 [num n])] ∧ Sub s.t [(1, num a), (2, .pin (topoP T) 0), (5, .ptr 1 0), (6, .ptr 0 0)])) := by
      subst hops
      refine WA_step 0 [1, 7] (by kernel_rfl) ?_
      exact WAs_cons rfl rfl (WR_v (y_a rfl) rfl (WR_k [1, 2, 5, 14, 17, 18] rfl m1001101000_6)) (WAs_cons rfl rfl (WR_v (y_a rfl) rfl (WR_k [1, 2, 5, 15, 17, 18] rfl m0101101000_6)) (WAs_cons rfl rfl (WR_l (l_a rfl) rfl (WR_k [1, 2, 5, 6, 17, 18] rfl m0001101100_67)) (WAs_nil)))
    have m0001101100_76 : WA Tryz.prog 47 0 ops 6 #[false, false, false, true, true, false, true, true, false, false] ⟨[(1, num a), (2, .pin (topoP T) 0), (5, .ptr 1 0), (6, .ptr 0 0), (17, topoV T), (18, num a)], [some (.cells 3 [num 0]), some (.cells 3 [num 0])]⟩ (fun s => (s.σ = [some (.cells 3 [num n]), some (.cells 3 [num h])] ∧ Sub s.t [(1, num a), (2, .pin (topoP T) 0), (5, .ptr 0 0), (6, .ptr 1 0)]) ∨ (s.σ = [some (.cells 3 [num h]), some (.cells 3 [num n])] ∧ Sub s.t [(1, num a), (2, .pin (topoP T) 0), (5, .ptr 1 0), (6, .ptr 0 0)])) := by
      subst hops
      refine WA_step 0 [1] (by kernel_rfl) ?_
      exact WAs_cons rfl rfl (WR_v (y_a rfl) rfl (WR_k [1, 2, 5, 6, 14, 17, 18] rfl m1001101100_76)) (WAs_cons rfl rfl (WR_v (y_a rfl) rfl (WR_k [1, 2, 5, 6, 15, 17, 18] rfl m0101101100_76)) (WAs_nil))
    have m0001100100_7 : WA Tryz.prog 47 0 ops 7 #[false, false, false, true, true, false, false, true, false, false] ⟨[(1, num a), (2, .pin (topoP T) 0), (6, .ptr 0 0), (17, topoV T), (18, num a)], [some (.cells 3 [num 0])]⟩ (fun s => (s.σ = [some (.cells 3 [num n]), some (.cells 3 [num h])] ∧ Sub s.t [(1, num a), (2, .pin (topoP T) 0), (5, .ptr 0 0), (6, .ptr 1 0)]) ∨ (s.σ = [some (.cells 3 [num h]), some (.cells 3 [num n])] ∧ Sub s.t [(1, num a), (2, .pin (topoP T) 0), (5, .ptr 1 0), (6, .ptr 0 0)])) := by
      subst hops
      refine WA_step 0 [1, 6] (by kernel_rfl) ?_
      exact WAs_cons rfl rfl (WR_v (y_a rfl) rfl (WR_k [1, 2, 6, 14, 17, 18] rfl m1001100100_7)) (WAs_cons rfl rfl (WR_v (y_a rfl) rfl (WR_k [1, 2, 6, 15, 17, 18] rfl m0101100100_7)) (WAs_cons rfl rfl (WR_l (l_a rfl) rfl (WR_k [1, 2, 5, 6, 17, 18] rfl m0001101100_76)) (WAs_nil)))
    have m0001100000_ : WA Tryz.prog 47 0 ops 8 #[false, false, false, true, true, false, false, false, false, false] ⟨[(1, num a), (2, .pin (topoP T) 0), (17, topoV T), (18, num a)], []⟩ (fun s => (s.σ = [some (.cells 3 [num n]), some (.cells 3 [num h])] ∧ Sub s.t [(1, num a), (2, .pin (topoP T) 0), (5, .ptr 0 0), (6, .ptr 1 0)]) ∨ (s.σ = [some (.cells 3 [num h]), some (.cells 3 [num n])] ∧ Sub s.t [(1, num a), (2, .pin (topoP T) 0), (5, .ptr 1 0), (6, .ptr 0 0)])) := by
      subst hops
      refine WA_step 0 [1, 6, 7] (by kernel_rfl) ?_
      exact WAs_cons rfl rfl (WR_v (y_a rfl) rfl (WR_k [1, 2, 14, 17, 18] rfl m1001100000_)) (WAs_cons rfl rfl (WR_v (y_a rfl) rfl (WR_k [1, 2, 15, 17, 18] rfl m0101100000_)) (WAs_cons rfl rfl (WR_l (l_a rfl) rfl (WR_k [1, 2, 5, 17, 18] rfl m0001101000_6)) (WAs_cons rfl rfl (WR_l (l_a rfl) rfl (WR_k [1, 2, 6, 17, 18] rfl m0001100100_7)) (WAs_nil))))
    have m0001001100_67 : WA Tryz.prog 47 0 ops 7 #[false, false, false, true, false, false, true, true, false, false] ⟨[(1, num a), (2, .pin (topoP T) 0), (5, .ptr 0 0), (6, .ptr 1 0), (17, topoV T)], [some (.cells 3 [num 0]), some (.cells 3 [num 0])]⟩ (fun s => (s.σ = [some (.cells 3 [num n]), some (.cells 3 [num h])] ∧ Sub s.t [(1, num a), (2, .pin (topoP T) 0), (5, .ptr 0 0), (6, .ptr 1 0)]) ∨ (s.σ = [some (.cells 3 [num h]), some (.cells 3 [num n])] ∧ Sub s.t [(1, num a), (2, .pin (topoP T) 0), (5, .ptr 1 0), (6, .ptr 0 0)])) := by
      subst hops
      refine WA_step 0 [1, 4] (by kernel_rfl) ?_
      exact WAs_cons rfl rfl (WR_v (y_a rfl) rfl (WR_k [1, 2, 5, 6, 14, 17] rfl m1001001100_67)) (WAs_cons rfl rfl (WR_v (y_a rfl) rfl (WR_k [1, 2, 5, 6, 15, 17] rfl m0101001100_67)) (WAs_cons rfl rfl (WR_v (y_a rfl) rfl (WR_k [1, 2, 5, 6, 17, 18] rfl m0001101100_67)) (WAs_nil)))
    have m0001001000_6 : WA Tryz.prog 47 0 ops 8 #[false, false, false, true, false, false, true, false, false, false] ⟨[(1, num a), (2, .pin (topoP T) 0), (5, .ptr 0 0), (17, topoV T)], [some (.cells 3 [num 0])]⟩ (fun s => (s.σ = [some (.cells 3 [num n]), some (.cells 3 [num h])] ∧ Sub s.t [(1, num a), (2, .pin (topoP T) 0), (5, .ptr 0 0), (6, .ptr 1 0)]) ∨ (s.σ = [some (.cells 3 [num h]), some (.cells 3 [num n])] ∧ Sub s.t [(1, num a), (2, .pin (topoP T) 0), (5, .ptr 1 0), (6, .ptr 0 0)])) := by
      subst hops
      refine WA_step 0 [1, 4, 7] (by kernel_rfl) ?_
      exact WAs_cons rfl rfl (WR_v (y_a rfl) rfl (WR_k [1, 2, 5, 14, 17] rfl m1001001000_6)) (WAs_cons rfl rfl (WR_v (y_a rfl) rfl (WR_k [1, 2, 5, 15, 17] rfl m0101001000_6)) (WAs_cons rfl rfl (WR_v (y_a rfl) rfl (WR_k [1, 2, 5, 17, 18] rfl m0001101000_6)) (WAs_cons rfl rfl (WR_l (l_a rfl) rfl (WR_k [1, 2, 5, 6, 17] rfl m0001001100_67)) (WAs_nil))))
    have m0001001100_76 : WA Tryz.prog 47 0 ops 7 #[false, false, false, true, false, false, true, true, false, false] ⟨[(1, num a), (2, .pin (topoP T) 0), (5, .ptr 1 0), (6, .ptr 0 0), (17, topoV T)], [some (.cells 3 [num 0]), some (.cells 3 [num 0])]⟩ (fun s => (s.σ = [some (.cells 3 [num n]), some (.cells 3 [num h])] ∧ Sub s.t [(1, num a), (2, .pin (topoP T) 0), (5, .ptr 0 0), (6, .ptr 1 0)]) ∨ (s.σ = [some (.cells 3 [num h]), some (.cells 3 [num n])] ∧ Sub s.t [(1, num a), (2, .pin (topoP T) 0), (5, .ptr 1 0), (6, .ptr 0 0)])) := by
      subst hops
      refine WA_step 0 [1, 4] (by kernel_rfl) ?_
      exact WAs_cons rfl rfl (WR_v (y_a rfl) rfl (WR_k [1, 2, 5, 6, 14, 17] rfl m1001001100_76)) (WAs_cons rfl rfl (WR_v (y_a rfl) rfl (WR_k [1, 2, 5, 6, 15, 17] rfl m0101001100_76)) (WAs_cons rfl rfl (WR_v (y_a rfl) rfl (WR_k [1, 2, 5, 6, 17, 18] rfl m0001101100_76)) (WAs_nil)))
    have m0001000100_7 : WA Tryz.prog 47 0 ops 8 #[false, false, false, true, false, false, false, true, false, false] ⟨[(1, num a), (2, .pin (topoP T) 0), (6, .ptr 0 0), (17, topoV T)], [some (.cells 3 [num 0])]⟩ (fun s => (s.σ = [some (.cells 3 [num n]), some (.cells 3 [num h])] ∧ Sub s.t [(1, num a), (2, .pin (topoP T) 0), (5, .ptr 0 0), (6, .ptr 1 0)]) ∨ (s.σ = [some (.cells 3 [num h]), some (.cells 3 [num n])] ∧ Sub s.t [(1, num a), (2, .pin (topoP T) 0), (5, .ptr 1 0), (6, .ptr 0 0)])) := by
      subst hops
      refine WA_step 0 [1, 4, 6] (by kernel_rfl) ?_
      exact WAs_cons rfl rfl (WR_v (y_a rfl) rfl (WR_k [1, 2, 6, 14, 17] rfl m1001000100_7)) (WAs_cons rfl rfl (WR_v (y_a rfl) rfl (WR_k [1, 2, 6, 15, 17] rfl m0101000100_7)) (WAs_cons rfl rfl (WR_v (y_a rfl) rfl (WR_k [1, 2, 6, 17, 18] rfl m0001100100_7)) (WAs_cons rfl rfl (WR_l (l_a rfl) rfl (WR_k [1, 2, 5, 6, 17] rfl m0001001100_76)) (WAs_nil))))
    have m0001000000_ : WA Tryz.prog 47 0 ops 9 #[false, false, false, true, false, false, false, false, false, false] ⟨[(1, num a), (2, .pin (topoP T) 0), (17, topoV T)], []⟩ (fun s => (s.σ = [some (.cells 3 [num n]), some (.cells 3 [num h])] ∧ Sub s.t [(1, num a), (2, .pin (topoP T) 0), (5, .ptr 0 0), (6, .ptr 1 0)]) ∨ (s.σ = [some (.cells 3 [num h]), some (.cells 3 [num n])] ∧ Sub s.t [(1, num a), (2, .pin (topoP T) 0), (5, .ptr 1 0), (6, .ptr 0 0)])) := by
      subst hops
      refine WA_step 0 [1, 4, 6, 7] (by kernel_rfl) ?_
      exact WAs_cons rfl rfl (WR_v (y_a rfl) rfl (WR_k [1, 2, 14, 17] rfl m1001000000_)) (WAs_cons rfl rfl (WR_v (y_a rfl) rfl (WR_k [1, 2, 15, 17] rfl m0101000000_)) (WAs_cons rfl rfl (WR_v (y_a rfl) rfl (WR_k [1, 2, 17, 18] rfl m0001100000_)) (WAs_cons rfl rfl (WR_l (l_a rfl) rfl (WR_k [1, 2, 5, 17] rfl m0001001000_6)) (WAs_cons rfl rfl (WR_l (l_a rfl) rfl (WR_k [1, 2, 6, 17] rfl m0001000100_7)) (WAs_nil)))))
    have m0000101100_67 : WA Tryz.prog 47 0 ops 7 #[false, false, false, false, true, false, true, true, false, false] ⟨[(1, num a), (2, .pin (topoP T) 0), (5, .ptr 0 0), (6, .ptr 1 0), (18, num a)], [some (.cells 3 [num 0]), some (.cells 3 [num 0])]⟩ (fun s => (s.σ = [some (.cells 3 [num n]), some (.cells 3 [num h])] ∧ Sub s.t [(1, num a), (2, .pin (topoP T) 0), (5, .ptr 0 0), (6, .ptr 1 0)]) ∨ (s.σ = [some (.cells 3 [num h]), some (.cells 3 [num n])] ∧ Sub s.t [(1, num a), (2, .pin (topoP T) 0), (5, .ptr 1 0), (6, .ptr 0 0)])) := by
      subst hops
      refine WA_step 0 [1, 3] (by kernel_rfl) ?_
      exact WAs_cons rfl rfl (WR_v (y_a rfl) rfl (WR_k [1, 2, 5, 6, 14, 18] rfl m1000101100_67)) (WAs_cons rfl rfl (WR_v (y_a rfl) rfl (WR_k [1, 2, 5, 6, 15, 18] rfl m0100101100_67)) (WAs_cons rfl rfl (WR_v (y_a rfl) rfl (WR_k [1, 2, 5, 6, 17, 18] rfl m0001101100_67)) (WAs_nil)))
    have m0000101000_6 : WA Tryz.prog 47 0 ops 8 #[false, false, false, false, true, false, true, false, false, false] ⟨[(1, num a), (2, .pin (topoP T) 0), (5, .ptr 0 0), (18, num a)], [some (.cells 3 [num 0])]⟩ (fun s => (s.σ = [some (.cells 3 [num n]), some (.cells 3 [num h])] ∧ Sub s.t [(1, num a), (2, .pin (topoP T) 0), (5, .ptr 0 0), (6, .ptr 1 0)]) ∨ (s.σ = [some (.cells 3 [num h]), some (.cells 3 [num n])] ∧ Sub s.t [(1, num a), (2, .pin (topoP T) 0), (5, .ptr 1 0), (6, .ptr 0 0)])) := by
      subst hops
      refine WA_step 0 [1, 3, 7] (by kernel_rfl) ?_
      exact WAs_cons rfl rfl (WR_v (y_a rfl) rfl (WR_k [1, 2, 5, 14, 18] rfl m1000101000_6)) (WAs_cons rfl rfl (WR_v (y_a rfl) rfl (WR_k [1, 2, 5, 15, 18] rfl m0100101000_6)) (WAs_cons rfl rfl (WR_v (y_a rfl) rfl (WR_k [1, 2, 5, 17, 18] rfl m0001101000_6)) (WAs_cons rfl rfl (WR_l (l_a rfl) rfl (WR_k [1, 2, 5, 6, 18] rfl m0000101100_67)) (WAs_nil))))
    have m0000101100_76 : WA Tryz.prog 47 0 ops 7 #[false, false, false, false, true, false, true, true, false, false] ⟨[(1, num a), (2, .pin (topoP T) 0), (5, .ptr 1 0), (6, .ptr 0 0), (18, num a)], [some (.cells 3 [num 0]), some (.cells 3 [num 0])]⟩ (fun s => (s.σ = [some (.cells 3 [num n]), some (.cells 3 [num h])] ∧ Sub s.t [(1, num a), (2, .pin (topoP T) 0), (5, .ptr 0 0), (6, .ptr 1 0)]) ∨ (s.σ = [some (.cells 3 [num h]), some (.cells 3 [num n])] ∧ Sub s.t [(1, num a), (2, .pin (topoP T) 0), (5, .ptr 1 0), (6, .ptr 0 0)])) := by
      subst hops
      refine WA_step 0 [1, 3] (by kernel_rfl) ?_
      exact WAs_cons rfl rfl (WR_v (y_a rfl) rfl (WR_k [1, 2, 5, 6, 14, 18] rfl m1000101100_76)) (WAs_cons rfl rfl (WR_v (y_a rfl) rfl (WR_k [1, 2, 5, 6, 15, 18] rfl m0100101100_76)) (WAs_cons rfl rfl (WR_v (y_a rfl) rfl (WR_k [1, 2, 5, 6, 17, 18] rfl m0001101100_76)) (WAs_nil)))
    have m0000100100_7 : WA Tryz.prog 47 0 ops 8 #[false, false, false, false, true, false, false, true, false, false] ⟨[(1, num a), (2, .pin (topoP T) 0), (6, .ptr 0 0), (18, num a)], [some (.cells 3 [num 0])]⟩ (fun s => (s.σ = [some (.cells 3 [num n]), some (.cells 3 [num h])] ∧ Sub s.t [(1, num a), (2, .pin (topoP T) 0), (5, .ptr 0 0), (6, .ptr 1 0)]) ∨ (s.σ = [some (.cells 3 [num h]), some (.cells 3 [num n])] ∧ Sub s.t [(1, num a), (2, .pin (topoP T) 0), (5, .ptr 1 0), (6, .ptr 0 0)])) := by
      subst hops
      refine WA_step 0 [1, 3, 6] (by kernel_rfl) ?_
      exact WAs_cons rfl rfl (WR_v (y_a rfl) rfl (WR_k [1, 2, 6, 14, 18] rfl m1000100100_7)) (WAs_cons rfl rfl (WR_v (y_a rfl) rfl (WR_k [1, 2, 6, 15, 18] rfl m0100100100_7)) (WAs_cons rfl rfl (WR_v (y_a rfl) rfl (WR_k [1, 2, 6, 17, 18] rfl m0001100100_7)) (WAs_cons rfl rfl (WR_l (l_a rfl) rfl (WR_k [1, 2, 5, 6, 18] rfl m0000101100_76)) (WAs_nil))))
    have m0000100000_ : WA Tryz.prog 47 0 ops 9 #[false, false, false, false, true, false, false, false, false, false] ⟨[(1, num a), (2, .pin (topoP T) 0), (18, num a)], []⟩ (fun s => (s.σ = [some (.cells 3 [num n]), some (.cells 3 [num h])] ∧ Sub s.t [(1, num a), (2, .pin (topoP T) 0), (5, .ptr 0 0), (6, .ptr 1 0)]) ∨ (s.σ = [some (.cells 3 [num h]), some (.cells 3 [num n])] ∧ Sub s.t [(1, num a), (2, .pin (topoP T) 0), (5, .ptr 1 0), (6, .ptr 0 0)])) := by
      subst hops
      refine WA_step 0 [1, 3, 6, 7] (by kernel_rfl) ?_
      exact WAs_cons rfl rfl (WR_v (y_a rfl) rfl (WR_k [1, 2, 14, 18] rfl m1000100000_)) (WAs_cons rfl rfl (WR_v (y_a rfl) rfl (WR_k [1, 2, 15, 18] rfl m0100100000_)) (WAs_cons rfl rfl (WR_v (y_a rfl) rfl (WR_k [1, 2, 17, 18] rfl m0001100000_)) (WAs_cons rfl rfl (WR_l (l_a rfl) rfl (WR_k [1, 2, 5, 18] rfl m0000101000_6)) (WAs_cons rfl rfl (WR_l (l_a rfl) rfl (WR_k [1, 2, 6, 18] rfl m0000100100_7)) (WAs_nil)))))
    have m0000001100_67 : WA Tryz.prog 47 0 ops 8 #[false, false, false, false, false, false, true, true, false, false] ⟨[(1, num a), (2, .pin (topoP T) 0), (5, .ptr 0 0), (6, .ptr 1 0)], [some (.cells 3 [num 0]), some (.cells 3 [num 0])]⟩ (fun s => (s.σ = [some (.cells 3 [num n]), some (.cells 3 [num h])] ∧ Sub s.t [(1, num a), (2, .pin (topoP T) 0), (5, .ptr 0 0), (6, .ptr 1 0)]) ∨ (s.σ = [some (.cells 3 [num h]), some (.cells 3 [num n])] ∧ Sub s.t [(1, num a), (2, .pin (topoP T) 0), (5, .ptr 1 0), (6, .ptr 0 0)])) := by
      subst hops
      refine WA_step 0 [1, 3, 4] (by kernel_rfl) ?_
      exact WAs_cons rfl rfl (WR_v (y_a rfl) rfl (WR_k [1, 2, 5, 6, 14] rfl m1000001100_67)) (WAs_cons rfl rfl (WR_v (y_a rfl) rfl (WR_k [1, 2, 5, 6, 15] rfl m0100001100_67)) (WAs_cons rfl rfl (WR_v (y_a rfl) rfl (WR_k [1, 2, 5, 6, 17] rfl m0001001100_67)) (WAs_cons rfl rfl (WR_v (y_a rfl) rfl (WR_k [1, 2, 5, 6, 18] rfl m0000101100_67)) (WAs_nil))))
    have m0000001000_6 : WA Tryz.prog 47 0 ops 9 #[false, false, false, false, false, false, true, false, false, false] ⟨[(1, num a), (2, .pin (topoP T) 0), (5, .ptr 0 0)], [some (.cells 3 [num 0])]⟩ (fun s => (s.σ = [some (.cells 3 [num n]), some (.cells 3 [num h])] ∧ Sub s.t [(1, num a), (2, .pin (topoP T) 0), (5, .ptr 0 0), (6, .ptr 1 0)]) ∨ (s.σ = [some (.cells 3 [num h]), some (.cells 3 [num n])] ∧ Sub s.t [(1, num a), (2, .pin (topoP T) 0), (5, .ptr 1 0), (6, .ptr 0 0)])) := by
      subst hops
      refine WA_step 0 [1, 3, 4, 7] (by kernel_rfl) ?_
      exact WAs_cons rfl rfl (WR_v (y_a rfl) rfl (WR_k [1, 2, 5, 14] rfl m1000001000_6)) (WAs_cons rfl rfl (WR_v (y_a rfl) rfl (WR_k [1, 2, 5, 15] rfl m0100001000_6)) (WAs_cons rfl rfl (WR_v (y_a rfl) rfl (WR_k [1, 2, 5, 17] rfl m0001001000_6)) (WAs_cons rfl rfl (WR_v (y_a rfl) rfl (WR_k [1, 2, 5, 18] rfl m0000101000_6)) (WAs_cons rfl rfl (WR_l (l_a rfl) rfl (WR_k [1, 2, 5, 6] rfl m0000001100_67)) (WAs_nil)))))
    have m0000001100_76 : WA Tryz.prog 47 0 ops 8 #[false, false, false, false, false, false, true, true, false, false] ⟨[(1, num a), (2, .pin (topoP T) 0), (5, .ptr 1 0), (6, .ptr 0 0)], [some (.cells 3 [num 0]), some (.cells 3 [num 0])]⟩ (fun s => (s.σ = [some (.cells 3 [num n]), some (.cells 3 [num h])] ∧ Sub s.t [(1, num a), (2, .pin (topoP T) 0), (5, .ptr 0 0), (6, .ptr 1 0)]) ∨ (s.σ = [some (.cells 3 [num h]), some (.cells 3 [num n])] ∧ Sub s.t [(1, num a), (2, .pin (topoP T) 0), (5, .ptr 1 0), (6, .ptr 0 0)])) := by
      subst hops
      refine WA_step 0 [1, 3, 4] (by kernel_rfl) ?_
      exact WAs_cons rfl rfl (WR_v (y_a rfl) rfl (WR_k [1, 2, 5, 6, 14] rfl m1000001100_76)) (WAs_cons rfl rfl (WR_v (y_a rfl) rfl (WR_k [1, 2, 5, 6, 15] rfl m0100001100_76)) (WAs_cons rfl rfl (WR_v (y_a rfl) rfl (WR_k [1, 2, 5, 6, 17] rfl m0001001100_76)) (WAs_cons rfl rfl (WR_v (y_a rfl) rfl (WR_k [1, 2, 5, 6, 18] rfl m0000101100_76)) (WAs_nil))))
    have m0000000100_7 : WA Tryz.prog 47 0 ops 9 #[false, false, false, false, false, false, false, true, false, false] ⟨[(1, num a), (2, .pin (topoP T) 0), (6, .ptr 0 0)], [some (.cells 3 [num 0])]⟩ (fun s => (s.σ = [some (.cells 3 [num n]), some (.cells 3 [num h])] ∧ Sub s.t [(1, num a), (2, .pin (topoP T) 0), (5, .ptr 0 0), (6, .ptr 1 0)]) ∨ (s.σ = [some (.cells 3 [num h]), some (.cells 3 [num n])] ∧ Sub s.t [(1, num a), (2, .pin (topoP T) 0), (5, .ptr 1 0), (6, .ptr 0 0)])) := by
      subst hops
      refine WA_step 0 [1, 3, 4, 6] (by kernel_rfl) ?_
      exact WAs_cons rfl rfl (WR_v (y_a rfl) rfl (WR_k [1, 2, 6, 14] rfl m1000000100_7)) (WAs_cons rfl rfl (WR_v (y_a rfl) rfl (WR_k [1, 2, 6, 15] rfl m0100000100_7)) (WAs_cons rfl rfl (WR_v (y_a rfl) rfl (WR_k [1, 2, 6, 17] rfl m0001000100_7)) (WAs_cons rfl rfl (WR_v (y_a rfl) rfl (WR_k [1, 2, 6, 18] rfl m0000100100_7)) (WAs_cons rfl rfl (WR_l (l_a rfl) rfl (WR_k [1, 2, 5, 6] rfl m0000001100_76)) (WAs_nil)))))
    have m0000000000_ : WA Tryz.prog 47 0 ops 10 #[false, false, false, false, false, false, false, false, false, false] ⟨[(1, num a), (2, .pin (topoP T) 0)], []⟩ (fun s => (s.σ = [some (.cells 3 [num n]), some (.cells 3 [num h])] ∧ Sub s.t [(1, num a), (2, .pin (topoP T) 0), (5, .ptr 0 0), (6, .ptr 1 0)]) ∨ (s.σ = [some (.cells 3 [num h]), some (.cells 3 [num n])] ∧ Sub s.t [(1, num a), (2, .pin (topoP T) 0), (5, .ptr 1 0), (6, .ptr 0 0)])) := by
      subst hops
      refine WA_step 0 [1, 3, 4, 6, 7] (by kernel_rfl) ?_
      exact WAs_cons rfl rfl (WR_v (y_a rfl) rfl (WR_k [1, 2, 14] rfl m1000000000_)) (WAs_cons rfl rfl (WR_v (y_a rfl) rfl (WR_k [1, 2, 15] rfl m0100000000_)) (WAs_cons rfl rfl (WR_v (y_a rfl) rfl (WR_k [1, 2, 17] rfl m0001000000_)) (WAs_cons rfl rfl (WR_v (y_a rfl) rfl (WR_k [1, 2, 18] rfl m0000100000_)) (WAs_cons rfl rfl (WR_l (l_a rfl) rfl (WR_k [1, 2, 5] rfl m0000001000_6)) (WAs_cons rfl rfl (WR_l (l_a rfl) rfl (WR_k [1, 2, 6] rfl m0000000100_7)) (WAs_nil))))))
    subst hops
    exact m0000000000_
  refine W_rs ?_
  refine WR_a 3 rfl <| WR_v (y_quo rfl rfl rfl (by decide) ((show (a : Int).tdiv 2 = ((a / 2 : Nat) : Int) by rw [Int.tdiv_eq_ediv_of_nonneg (by omega)]; omega)) (by unfold In64; omega)) rfl <| WR_v (y_ix ((a / 2 * 7)) rfl) rfl <| WR_a 1 rfl <| WR_v (y_ld rfl ((lnks_getP T.links (a / 2) 6 hi (by omega)).trans (show (lnkP (lnk T.links (a / 2)))[6]? = some (num g) by rw [← hgl]; rfl))) rfl <| WR_a 3 rfl <| WR_k [1, 2, 5, 6, 7] rfl ?_
  refine W_rs ?_
  refine WR_a 4 rfl <| WR_k [1, 2, 5, 6, 7, 8] rfl ?_
  refine W_rs ?_
  refine WR_a 1 rfl <| WR_v (y_quo rfl rfl rfl (by decide) ((show (a : Int).tdiv 2 = ((a / 2 : Nat) : Int) by rw [Int.tdiv_eq_ediv_of_nonneg (by omega)]; omega)) (by unfold In64; omega)) rfl <| WR_a 3 rfl <| WR_k [2, 5, 6, 7, 8, 9] rfl ?_
  refine W_sealPtr (xs := [num n]) 5 0 0 rfl rfl ?_
  refine W_sealPtr (xs := [num h]) 6 1 0 rfl rfl ?_
  refine W_sealPtr (xs := compP 3 g) 7 2 0 rfl rfl ?_
  refine W_sealPtr (xs := compP 2 h) 8 3 0 rfl rfl ?_
  refine W_sealPtr (xs := compP 1 ((a / 2 : Nat) : Int)) 9 4 0 rfl rfl ?_
  refine W_ren [] (.c 2 <| .c 5 <| .c 6 <| .c 7 <| .c 8 <| .c 9 <| .nil) .nil rfl rfl ?_
  refine W_cs (.v (y_makeFunc rfl rfl) rfl <| .a 1 rfl <| .k [6, 7, 8, 9, 10] rfl) ?_
  refine W_rs ?_
  refine WR_a 1 rfl <| WR_k [6, 7, 8, 9, 10, 11] rfl ?_
  refine W_seq ?_
  refine W_csK 36 (.raw (.bool (c1))) [6, 7, 8, 9, 10, 11] rfl ?_ ?_
  · exact .a 2 rfl <| .v (y_q rfl (hc1)) rfl <| .k [36, 6, 7, 8, 9, 10, 11] rfl
  refine W_cond rfl (fun h2 => ?_) (fun h2 => ?_)
  · have hg0 : 0 < g := tt (by rw [hc1, h2])
    rw [if_pos hg0]
    refine W_region ?_
    refine WR_a 2 rfl <| WR_c rfl (h1 3 g) rfl <| WR_a 1 rfl <| WR_k [6, 7, 8, 9, 10, 11] rfl ?_
    refine W_rs ?_
    refine WR_a 2 rfl <| WR_c rfl (h1 2 h) rfl <| WR_a 2 rfl <| WR_k [6, 7, 8, 9, 11, 12] rfl ?_
    refine W_rs ?_
    refine WR_v (y_makeFunc rfl rfl) rfl <| WR_v (y_makeFunc rfl rfl) rfl <| WR_l (l_buildSlice (xs := [_, _]) rfl (fok.sl.get rfl) ⟨Nat.le_of_ble_eq_true rfl, Nat.le_of_ble_eq_true rfl⟩ rfl rfl) rfl <| WR_a 2 rfl <| WR_k [9, 13] rfl ?_
    refine W_cs (.v (y_makeFunc rfl rfl) rfl <| .a 1 rfl <| .k [4] rfl) ?_
    refine W_ret ?_
    unfold asmC F2 F3
    first
      | exact ⟨_, _, ResL.of rfl, Pur.funcL (PurL.cons (Pur.ptrL rfl (PurL.cons (Pur.ownL rfl (PurL.cons (Pur.funcL (PurL.cons Pur.pure <| PurL.cons (Pur.ptrL rfl (PurL.cons (Pur.pure (p := intsV _)) PurL.nil)) PurL.nil)) <| PurL.cons (Pur.funcL (PurL.cons Pur.pure <| PurL.cons Pur.pure <| PurL.cons (Pur.ptrL rfl (PurL.cons (Pur.pure (p := intsV _)) PurL.nil)) PurL.nil)) PurL.nil)) PurL.nil)) <| PurL.cons Pur.pure PurL.nil), rfl⟩
      | exact ⟨_, _, ResL.of rfl, Pur.funcL (PurL.cons (Pur.ptrL rfl (PurL.cons (Pur.ownL rfl (PurL.cons (Pur.funcL (PurL.cons Pur.pure <| PurL.cons (Pur.ptrL rfl (PurL.cons Pur.nils PurL.nil)) PurL.nil)) <| PurL.cons (Pur.funcL (PurL.cons Pur.pure <| PurL.cons Pur.pure <| PurL.cons (Pur.ptrL rfl (PurL.cons (Pur.pure (p := intsV _)) PurL.nil)) PurL.nil)) PurL.nil)) PurL.nil)) <| PurL.cons Pur.pure PurL.nil), rfl⟩
  · have hg0 : ¬ 0 < g := ff (by rw [hc1, h2])
    rw [if_neg hg0]
    refine W_skip ?_
    refine W_rs ?_
    refine WR_a 2 rfl <| WR_c rfl (h1 2 h) rfl <| WR_a 2 rfl <| WR_k [6, 7, 8, 9, 11, 12] rfl ?_
    refine W_rs ?_
    refine WR_v (y_makeFunc rfl rfl) rfl <| WR_v (y_makeFunc rfl rfl) rfl <| WR_l (l_buildSlice (xs := [_, _]) rfl (fok.sl.get rfl) ⟨Nat.le_of_ble_eq_true rfl, Nat.le_of_ble_eq_true rfl⟩ rfl rfl) rfl <| WR_a 2 rfl <| WR_k [9, 13] rfl ?_
    refine W_cs (.v (y_makeFunc rfl rfl) rfl <| .a 1 rfl <| .k [4] rfl) ?_
    refine W_ret ?_
    unfold asmC F2 F3
    first
      | exact ⟨_, _, ResL.of rfl, Pur.funcL (PurL.cons (Pur.ptrL rfl (PurL.cons (Pur.ownL rfl (PurL.cons (Pur.funcL (PurL.cons Pur.pure <| PurL.cons (Pur.ptrL rfl (PurL.cons (Pur.pure (p := intsV _)) PurL.nil)) PurL.nil)) <| PurL.cons (Pur.funcL (PurL.cons Pur.pure <| PurL.cons Pur.pure <| PurL.cons (Pur.ptrL rfl (PurL.cons (Pur.pure (p := intsV _)) PurL.nil)) PurL.nil)) PurL.nil)) PurL.nil)) <| PurL.cons Pur.pure PurL.nil), rfl⟩
      | exact ⟨_, _, ResL.of rfl, Pur.funcL (PurL.cons (Pur.ptrL rfl (PurL.cons (Pur.ownL rfl (PurL.cons (Pur.funcL (PurL.cons Pur.pure <| PurL.cons (Pur.ptrL rfl (PurL.cons Pur.nils PurL.nil)) PurL.nil)) <| PurL.cons (Pur.funcL (PurL.cons Pur.pure <| PurL.cons Pur.pure <| PurL.cons (Pur.ptrL rfl (PurL.cons (Pur.pure (p := intsV _)) PurL.nil)) PurL.nil)) PurL.nil)) PurL.nil)) <| PurL.cons Pur.pure PurL.nil), rfl⟩
end PW
end Go.Proofs.YtbpgndbjbaoolaaGreat
