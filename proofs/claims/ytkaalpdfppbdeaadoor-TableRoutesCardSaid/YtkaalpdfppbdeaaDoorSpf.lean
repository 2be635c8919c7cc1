/- Package spf: run, the search by a queue. -/
import Derived.Test.YtkaalpdfppbdeaaDoorHeapN
import Derived.Test.YtkaalpdfppbdeaaDoorEnter
import Derived.Test.YtkaalpdfppbdeaaDoorDijk
namespace Go.Proofs.YtkaalpdfppbdeaaDoor
namespace PW
open Go.RowKit Reg Mem Net Heap

theorem hok_min {N n : Nat} {K P O : List Int} (h : HOK N n K P O) (hN : N ≤ 65536) {i : Nat} (hi : O.getD 0 0 = (i : Int)) (j : Nat) (hj : Held O (j : Int)) : K.getD i 0 ≤ K.getD j 0 := by
  obtain ⟨hP, hO, hK, hH⟩ := h
  obtain ⟨p, hp, he⟩ := hj
  have h1 := heapy_min hH p (by omega)
  unfold rk at h1
  rw [hi, he] at h1
  have h2 := hP.item p hp
  have := rank_key (by omega) (by omega) h1
  simpa using this
theorem hok_new (N : Nat) : HOK N 0 (List.replicate N 0) (List.replicate N 0) [] :=
  ⟨⟨by simp, fun p hp => by simp at hp, fun i hi => .inl (by simp [List.getD_eq_getElem?_getD, List.getElem?_replicate, hi])⟩, rfl, by simp, fun q _ hq => by omega⟩
theorem W_norm {P : Program} {M : Nat} {c : Code} {t : Tms} {Q : Exit → St → Prop} {b : Bool} {d : Option Blk} {N n : Nat} {K Pl O : List Int} (hd : PureD d) (hT : TRen [0, 1, 2, 3, 5] t t) (h : W P M 0 c ⟨t, hsto false d N n K Pl O⟩ Q) : W P M 0 c ⟨t, hsto b d N n K Pl O⟩ Q := by
  cases b
  · exact h
  · exact W_ren [0, 1, 2, 3, 5] hT (.same hd rfl <| .kept rfl (.cells (RenL.cons (Ren.own (i := 2) rfl) <| RenL.cons (Ren.own (i := 3) rfl) <| RenL.cons (Ren.own (i := 4) rfl) RenL.nil)) <| .kept rfl (.row RenL.pure) <| .kept rfl (.row RenL.pure) <| .kept rfl (.row RenL.pure) <| .nil) rfl rfl h
theorem W_sto {P : Program} {M L : Nat} {c : Code} {t : Tms} {Q : Exit → St → Prop} {σ σ' : Sto} (he : σ = σ') (h : W P M L c ⟨t, σ'⟩ Q) : W P M L c ⟨t, σ⟩ Q := by subst he; exact h
/-- Pop in one form. -/
theorem pop_one {N n : Nat} (d : Option Blk) (hd : PureD d) (K P O : List Int) (h : HOK N n K P O) (hN : N ≤ 65536) :
    CanS Tryd.prog 96 [.ptr 1 0] (hsto false d N n K P O) (fun r σ' => ∃ (b ok : Bool) (i n' : Nat) (key : Int) (K' P' O' : List Int), r = .tuple [num i, num key, flag ok] ∧ σ' = hsto b d N n' K' P' O' ∧
      ((ok = false ∧ n = 0) ∨ (ok = true ∧ i < N ∧ Held O (i : Int) ∧ (∀ j : Nat, Held O (j : Int) → K.getD i 0 ≤ K.getD j 0) ∧ key = K.getD i 0 ∧ K' = K.set i 0 ∧ HOK N n' K' P' O' ∧ ∀ j : Nat, Held O' (j : Int) ↔ Held O (j : Int) ∧ j ≠ i))) := by
  refine (pop_can d hd K P O h hN).mono fun r σ' hr => ?_
  rcases hr with ⟨h1, rfl, rfl⟩ | ⟨n', i, P', O', h1, h2, h3, rfl, rfl, h4, h5⟩
  · exact ⟨false, false, 0, n, 0, K, P, O, rfl, rfl, .inl ⟨rfl, h1⟩⟩
  · refine ⟨true, true, i, n', K.getD i 0, K.set i 0, P', O', rfl, rfl, .inr ⟨rfl, h2, ⟨0, by have := h.2.1; omega, h3⟩, hok_min h hN h3, rfl, rfl, h4, fun j => (h5 j).trans ?_⟩⟩
    constructor <;> rintro ⟨a, b⟩ <;> exact ⟨a, by omega⟩

def searchP (T : Topo) (D : List Bool) (n : Nat) (f1 f2 : FuncId) (cap1 cap2 : List PV) : List PV := [.raw (.int .i64 T.nodes), boolsV T.over, .slice T.links.length (lnksP T.links), boolsV D, num n, .func f1 cap1, .func f2 cap2]
instance (T : Topo) (D : List Bool) (n : Nat) (f1 f2 : FuncId) (cap1 cap2 : List PV) [IsPureL cap1] [IsPureL cap2] : IsPureL (searchP T D n f1 f2 cap1 cap2) := by unfold searchP; infer_instance
/-- The arcs that are followed from i. -/
def arcsAt (T : Topo) (dir : Bool) (i : Nat) : List Int := ((List.range (2 * T.links.length)).filter fun a => decide (arcY T dir a = (i : Int))).map Int.ofNat
theorem arcsAt_mem (T : Topo) (dir : Bool) (i : Nat) (a : Nat) : (a : Int) ∈ arcsAt T dir i ↔ a < 2 * T.links.length ∧ arcY T dir a = (i : Int) := by
  unfold arcsAt
  simp only [List.mem_map, List.mem_filter, List.mem_range, decide_eq_true_eq]
  constructor
  · rintro ⟨b, h, e⟩
    have : b = a := Int.ofNat.inj e
    subst this; exact h
  · intro h; exact ⟨a, h, rfl⟩
theorem arcsAt_get (T : Topo) (dir : Bool) (i k : Nat) (h : k < (arcsAt T dir i).length) : ∃ a : Nat, (arcsAt T dir i).getD k 0 = (a : Int) ∧ a < 2 * T.links.length ∧ arcY T dir a = (i : Int) := by
  have hm : (arcsAt T dir i).getD k 0 ∈ arcsAt T dir i := getD_mem h
  have : ∃ a : Nat, (arcsAt T dir i).getD k 0 = (a : Int) := by
    unfold arcsAt at hm ⊢
    obtain ⟨b, _, e⟩ := List.mem_map.1 hm
    exact ⟨b, e.symm⟩
  obtain ⟨a, ha⟩ := this
  rw [ha] at hm
  exact ⟨a, ha, (arcsAt_mem T dir i a).1 hm⟩
theorem arcsAt_len (T : Topo) (dir : Bool) (i : Nat) : (arcsAt T dir i).length ≤ 2 * T.links.length := by
  unfold arcsAt
  rw [List.length_map]
  exact Nat.le_trans (List.length_filter_le _ _) (by simp)
theorem rep_step (N k : Nat) (h : k < N) : (List.replicate k (-1 : Int) ++ List.replicate (N - k) 0).set k (-1) = List.replicate (k + 1) (-1) ++ List.replicate (N - (k + 1)) 0 := by
  rw [List.set_append_right _ _ (by simp), List.length_replicate, Nat.sub_self, show N - k = (N - (k + 1)) + 1 by omega, List.replicate_succ, List.set_cons_zero, List.replicate_succ', List.append_assoc]
  rfl
theorem zeros_ints_pre (N : Nat) : zeros [.raw (.int .i64 0)] N = intsP (List.replicate 0 (-1) ++ List.replicate (N - 0) 0) := by simpa using zeros_ints N
theorem pureRow (n : Nat) (L : List Int) : PureD (some (.row 3 1 n (intsP L))) := fun b h => by
  cases h
  exact inferInstanceAs (IsPureL (intsP L))
theorem purKey {σ : Sto} {K P O : List Int} (h : Pur σ (.ptr 1 0) (hpin K P O)) (p : Int) : PurL σ ([.ptr 1 0, num p] ++ []) [hpin K P O, num p] := PurL.cons h (PurL.cons Pur.pure PurL.nil)

set_option maxRecDepth 10000 in
set_option maxHeartbeats 4000000 in
theorem run_can (T : Topo) (D : List Bool) (n : Nat) (dir : Bool) (f1 f2 : FuncId) (cap1 cap2 : List PV) [IsPureL cap1] [IsPureL cap2] (hv : validB T = true) (hf : fitsB T D = true) (hn : (n : Int) < T.nodes) (he1 : enters Tryd.prog f1 = true) (he2 : enters Tryd.prog f2 = true)
    (h1 : ∀ i : Nat, (i : Int) < T.nodes → Can Tryd.prog f1 ([num i] ++ cap1) (· = intsV (arcsAt T dir i))) (h2 : ∀ a : Nat, a < 2 * T.links.length → Can Tryd.prog f2 ([num a] ++ cap2) (· = num (arcX T dir a))) :
    Can Tryd.prog 87 [.agg (searchP T D n f1 f2 cap1 cap2)] (· = intsV (distL T D n dir)) := by
  have hbd := valid_bd hv
  have hS := sound_of hv
  obtain ⟨N, hN⟩ : ∃ N : Nat, T.nodes = (N : Int) := ⟨T.nodes.toNat, by omega⟩
  have hN64 : N ≤ 64 := by have := hS.nodes; omega
  have hnN : n < N := by omega
  refine can_of Tryd.func87 rfl Tryd.ntmps87 rfl ?_
  refine W_cs (
    .val (y_boxPin rfl rfl rfl) rfl rfl rfl <|
    .val (y_assign rfl rfl) rfl rfl rfl <|
    .nil (.cons (k := 1) rfl <| Sub.nil _)) ?_
  refine W_rs ?_
  refine WR_val ((by first | exact y_fieldPin rfl fo_105_0 rfl | exact y_fieldPtr rfl fo_105_0 rfl)) rfl rfl rfl ?_
  refine WR_val ((by first | exact y_fieldPin rfl fo_25_0 rfl | exact y_fieldPtr rfl fo_25_0 rfl)) rfl rfl rfl ?_
  refine WR_val ((by first | exact y_loadPin rfl tk_3 rfl rfl | exact y_loadPtr rfl tk_3 rfl rfl rfl)) rfl rfl rfl ?_
  refine WR_loud (l_make rfl rk_29 rfl rfl hN hN ⟨by unfold maxLen; omega, by omega⟩) rfl rfl rfl ?_
  refine WR_val (y_assign rfl rfl) rfl rfl rfl ?_
  refine WR_sub (.cons (k := 1) rfl <| .cons (k := 3) rfl <| Sub.nil _) (WR_nil ?_)
  refine W_seq ?_
  refine W_cs (
    .val (y_move rfl rfl) rfl rfl rfl <|
    .val ((by first | exact y_lenSlice rfl el_29 rfl | exact y_lenOwn rfl el_29 rfl rfl | exact y_lenNil rfl el_29 rfl)) rfl rfl rfl <|
    .val (y_move rfl rfl) rfl rfl rfl <|
    .nil (.cons (k := 1) rfl <| .cons (k := 3) rfl <| .cons (k := 21) rfl <| .cons (k := 22) rfl <| Sub.nil _)) ?_
  refine W_block ?_
  refine W_sub (.cons (k := 1) rfl <| .cons (k := 3) rfl <| .cons (k := 21) rfl <| .cons (k := 22) rfl <| Sub.nil _) ?_
  refine W_loop (fun r s => ∃ k, k ≤ N ∧ r = N - k ∧ s = ⟨[(1, .pin (searchP T D n f1 f2 cap1 cap2) 0), (3, .own 0), (21, num N), (22, num k)], [some (.row 3 1 N (intsP (List.replicate k (-1) ++ List.replicate (N - k) 0)))]⟩) N ⟨0, by omega, by omega, by rw [← zeros_ints_pre N]; rfl⟩ ?_
  rintro r s ⟨k, hk, rfl, rfl⟩
  refine W_cs (
    .val (y_lss rfl rfl rfl rfl) rfl rfl rfl <|
    .nil (.cons (k := 1) rfl <| .cons (k := 3) rfl <| .cons (k := 21) rfl <| .cons (k := 22) rfl <| .cons (k := 23) rfl <| Sub.nil _)) ?_
  refine W_seq ?_
  refine W_cond rfl (fun hc => ?_) (fun hc => ?_)
  · have hlt : k < N := by have := of_decide_eq_true hc; omega
    refine W_skip ?_
    refine W_seq ?_
    refine W_block ?_
    refine W_cs (
      .val (y_move rfl rfl) rfl rfl rfl <|
      .val (y_assign rfl rfl) rfl rfl rfl <|
      .nil (.cons (k := 1) rfl <| .cons (k := 3) rfl <| .cons (k := 4) rfl <| .cons (k := 21) rfl <| .cons (k := 22) rfl <| Sub.nil _)) ?_
    refine W_region ?_
    refine WR_val (y_move rfl rfl) rfl rfl rfl ?_
    refine WR_val (y_move rfl rfl) rfl rfl rfl ?_
    refine WR_val ((by first | exact y_indexSlice (j := k) rfl el_29 rfl rfl (by omega) (by omega) (by omega) | exact y_indexOwn (j := k) rfl el_29 rfl rfl rfl (by omega) (by omega) (by omega))) rfl rfl rfl ?_
    refine WR_loud0 ((by first | exact l_store1 rfl tk_3 rfl rfl rfl (Nat.le_of_ble_eq_true rfl) | exact l_storeInts rfl tk_3 rfl rfl rfl (by first | omega | (simp; omega)) | exact l_storeBools rfl tk_3 rfl rfl rfl (by first | omega | (simp; omega)))) rfl rfl ?_
    refine WR_sub (.cons (k := 1) rfl <| .cons (k := 3) rfl <| .cons (k := 21) rfl <| .cons (k := 22) rfl <| Sub.nil _) (WR_nil ?_)
    refine W_sto (σ' := [some (.row 3 1 N (intsP (List.replicate (k + 1) (-1) ++ List.replicate (N - (k + 1)) 0)))]) (by rw [← rep_step N k hlt]; rfl) ?_
    refine W_chain (
      .val (y_add rfl rfl rfl rfl (by unfold In64; omega)) rfl rfl rfl <|
      .val (y_move rfl rfl) rfl rfl rfl <|
      .nil (.cons (k := 1) rfl <| .cons (k := 3) rfl <| .cons (k := 21) rfl <| .cons (k := 22) rfl <| Sub.nil _)) ?_
    exact ⟨N - (k + 1), by omega, k + 1, by omega, rfl, rfl⟩
  · have hke : k = N := by have := of_decide_eq_false hc; omega
    subst hke
    refine W_sto (σ' := [some (.row 3 1 k (intsP (List.replicate k (-1))))]) (by simp) ?_
    refine W_exit ?_
    refine W_rs ?_
    refine WR_val ((by first | exact y_fieldPin rfl fo_105_0 rfl | exact y_fieldPtr rfl fo_105_0 rfl)) rfl rfl rfl ?_
    refine WR_val ((by first | exact y_fieldPin rfl fo_25_0 rfl | exact y_fieldPtr rfl fo_25_0 rfl)) rfl rfl rfl ?_
    refine WR_val ((by first | exact y_loadPin rfl tk_3 rfl ((show some (num T.nodes) = some (num (k : Int)) by rw [hN])) | exact y_loadPtr rfl tk_3 rfl rfl ((show some (num T.nodes) = some (num (k : Int)) by rw [hN])))) rfl rfl rfl ?_
    refine WR_callS rfl en_94 rfl rfl rfl rfl rfl (CanS.mono (new_can k (some (.row 3 1 k (intsP (List.replicate k (-1))))) (pureRow _ _) (by omega)) (fun _ σ' h => ?_))
    obtain ⟨rfl, rfl⟩ := h
    refine WR_val (y_move rfl rfl) rfl rfl rfl ?_
    refine WR_val (y_extract rfl rfl rfl) rfl rfl rfl ?_
    refine WR_val (y_extract rfl rfl rfl) rfl rfl rfl ?_
    refine WR_val (y_assign rfl rfl) rfl rfl rfl ?_
    refine WR_val (y_assign rfl rfl) rfl rfl rfl ?_
    refine WR_sub (.cons (k := 1) rfl <| .cons (k := 3) rfl <| .cons (k := 5) rfl <| Sub.nil _) (WR_nil ?_)
    refine W_rs ?_
    refine WR_val (y_move rfl rfl) rfl rfl rfl ?_
    refine WR_val ((by first | exact y_fieldPin rfl fo_105_2 rfl | exact y_fieldPtr rfl fo_105_2 rfl)) rfl rfl rfl ?_
    refine WR_val ((by first | exact y_loadPin rfl tk_3 rfl rfl | exact y_loadPtr rfl tk_3 rfl rfl rfl)) rfl rfl rfl ?_
    refine WR_callS rfl en_95 rfl rfl rfl rfl rfl (CanS.mono (set_can (some (.row 3 1 k (intsP (List.replicate k (-1))))) (pureRow _ _) _ _ _ (hok_new k) (by omega) n hnN 0) (fun _ σ' h => ?_))
    obtain ⟨b, n1, P1, O1, rfl, hok, hheld⟩ := h
    refine WR_sub (.cons (k := 1) rfl <| .cons (k := 3) rfl <| .cons (k := 5) rfl <| Sub.nil _) (WR_nil ?_)
    refine W_norm (pureRow _ _) (.cons 1 rfl Ren.pure <| .cons 3 rfl (Ren.own (i := 0) rfl) <| .cons 5 rfl (Ren.ptr (i := 1) rfl) <| .nil) ?_
    have hD0 := dij_start (T := T) (D := D) (N := k) (n := n) (dir := dir) hN.symm hnN (K := (List.replicate k (0 : Int)).set n 0) (H := fun y => Held O1 (y : Int)) (by rw [getK _ _ _ _ (by simpa using hnN), if_pos rfl]) (fun y => (hheld y).trans ⟨fun h => h.elim (fun ⟨p, hp, _⟩ => by simp at hp) (fun e => by omega), fun e => .inr (by omega)⟩)
    generalize (List.replicate k (0 : Int)).set n 0 = K1 at hok hD0
    generalize List.replicate k (-1 : Int) = out1 at hD0
    clear hheld
    refine W_block ?_
    refine W_sub (.cons (k := 1) rfl <| .cons (k := 3) rfl <| .cons (k := 5) rfl <| Sub.nil _) ?_
    refine W_loop (fun r s => ∃ out K P O q, Dij T D n dir out K (fun y => Held O (y : Int)) (fun _ => False) ∧ HOK k q K P O ∧ r = k + 1 - cnt out ∧ s = ⟨[(1, .pin (searchP T D n f1 f2 cap1 cap2) 0), (3, .own 0), (5, .ptr 1 0)], hsto false (some (.row 3 1 k (intsP out))) k q K P O⟩) (k + 1 - cnt out1) ⟨out1, K1, P1, O1, n1, hD0, hok, rfl, rfl⟩ ?_
    clear hD0 hok out1 K1 P1 O1 n1 b
    rintro r s ⟨out, K, P, O, q, hD, hok, rfl, rfl⟩
    refine W_block ?_
    refine W_rs ?_
    refine WR_val (y_move rfl rfl) rfl rfl rfl ?_
    refine WR_callS rfl en_96 rfl rfl rfl rfl rfl (CanS.mono (pop_one (some (.row 3 1 k (intsP out))) (pureRow _ _) K P O hok (by omega)) (fun _ σ' h => ?_))
    obtain ⟨b, ok, i, n1, key, K1, P1, O1, rfl, rfl, hpop⟩ := h
    refine WR_val (y_move rfl rfl) rfl rfl rfl ?_
    refine WR_val (y_extract rfl rfl rfl) rfl rfl rfl ?_
    refine WR_val (y_extract rfl rfl rfl) rfl rfl rfl ?_
    refine WR_val (y_extract rfl rfl rfl) rfl rfl rfl ?_
    refine WR_val (y_assign rfl rfl) rfl rfl rfl ?_
    refine WR_val (y_assign rfl rfl) rfl rfl rfl ?_
    refine WR_val (y_assign rfl rfl) rfl rfl rfl ?_
    refine WR_sub (.cons (k := 1) rfl <| .cons (k := 3) rfl <| .cons (k := 5) rfl <| .cons (k := 7) rfl <| .cons (k := 8) rfl <| .cons (k := 9) rfl <| Sub.nil _) (WR_nil ?_)
    refine W_norm (pureRow _ _) (.cons 1 rfl Ren.pure <| .cons 3 rfl (Ren.own (i := 0) rfl) <| .cons 5 rfl (Ren.ptr (i := 1) rfl) <| .cons 7 rfl Ren.pure <| .cons 8 rfl Ren.pure <| .cons 9 rfl Ren.pure <| .nil) ?_
    refine W_seq ?_
    refine W_cs (
      .val (y_move rfl rfl) rfl rfl rfl <|
      .val (y_not rfl rfl) rfl rfl rfl <|
      .nil (.cons (k := 1) rfl <| .cons (k := 3) rfl <| .cons (k := 5) rfl <| .cons (k := 7) rfl <| .cons (k := 8) rfl <| .cons (k := 47) rfl <| Sub.nil _)) ?_
    refine W_cond rfl (fun hc => ?_) (fun hc => ?_)
    · have hok0 : ok = false := by cases ok; rfl; cases hc
      have hq0 : q = 0 := by
        rcases hpop with ⟨_, h⟩ | ⟨h, _⟩
        · exact h
        · rw [hok0] at h; cases h
      have hdist : distL T D n dir = out := distL_eq hS (dij_end hD (fun y ⟨p, hp, _⟩ => by have := hok.2.1; omega))
      refine W_cs (
        .val (y_move rfl rfl) rfl rfl rfl <|
        .val (y_assign rfl rfl) rfl rfl rfl <|
        .nil (.cons (k := 2) rfl <| Sub.nil _)) ?_
      refine W_ret ?_
      exact ⟨_, _, .cons (.tmp rfl) <| .nil, Pur.ownL rfl PurL.pure, by rw [hdist]; unfold intsV; rw [show out.length = k by have := hD.len; omega]⟩
    · have hok1 : ok = true := by cases ok; cases hc; rfl
      rcases hpop with ⟨h, _⟩ | ⟨_, hiN, hHi, hmin, rfl, rfl, hok', hH'⟩
      · rw [hok1] at h; cases h
      obtain ⟨hD1, hcnt, htop, hati, hk0, hku⟩ := dij_pop hS hD hHi hmin (by rw [hok.2.2.1]; exact hiN) hH'
      have hol : out.length = k := by have := hD.len; omega
      have hcl := cnt_le (out.set i (K.getD i 0))
      have hiT : (i : Int) < T.nodes := by omega
      refine W_skip ?_
      refine W_rs ?_
      refine WR_val (y_move rfl rfl) rfl rfl rfl ?_
      refine WR_val (y_move rfl rfl) rfl rfl rfl ?_
      refine WR_val (y_move rfl rfl) rfl rfl rfl ?_
      refine WR_val ((by first | exact y_indexSlice (j := i) rfl el_29 rfl rfl (by omega) (by omega) (by omega) | exact y_indexOwn (j := i) rfl el_29 rfl rfl rfl (by omega) (by omega) (by omega))) rfl rfl rfl ?_
      refine WR_loud0 ((by first | exact l_store1 rfl tk_3 rfl rfl rfl (Nat.le_of_ble_eq_true rfl) | exact l_storeInts rfl tk_3 rfl rfl rfl (by first | omega | (simp; omega)) | exact l_storeBools rfl tk_3 rfl rfl rfl (by first | omega | (simp; omega)))) rfl rfl ?_
      refine WR_sub (.cons (k := 1) rfl <| .cons (k := 3) rfl <| .cons (k := 5) rfl <| .cons (k := 7) rfl <| .cons (k := 8) rfl <| Sub.nil _) (WR_nil ?_)
      refine W_sto (σ' := hsto false (some (.row 3 1 k (intsP (out.set i (K.getD i 0))))) k n1 (K.set i 0) P1 O1) rfl ?_
      have ho1 : (out.set i (K.getD i 0)).length = k := by simpa using hol
      have hmeas : k + 1 - cnt (out.set i (K.getD i 0)) < k + 1 - cnt out := by have := cnt_le (out.set i (K.getD i 0)); omega
      generalize K.getD i 0 = d at hD1 hcnt htop hati hk0 hku ho1 hcl hmeas
      generalize out.set i d = out1 at hD1 hcnt htop hati ho1 hcl hmeas
      generalize K.set i 0 = K1 at hD1 hok'
      refine W_seq ?_
      obtain ⟨q1, hq1⟩ : ∃ q, decide ((i : Int) ≠ (n : Int)) = q := ⟨_, rfl⟩
      obtain ⟨q2, hq2⟩ : ∃ q, overN T i = q := ⟨_, rfl⟩
      have hov : T.over.length = 0 ∨ i < T.over.length := by have := hbd.2.2.2; omega
      refine W_csB 62 (.raw (.bool (q1 && q2))) ?_ ?_
      · refine .val (y_move rfl rfl) rfl rfl rfl <| .val ((by first | exact y_fieldPin rfl fo_105_2 rfl | exact y_fieldPtr rfl fo_105_2 rfl)) rfl rfl rfl <| .val ((by first | exact y_loadPin rfl tk_3 rfl rfl | exact y_loadPtr rfl tk_3 rfl rfl rfl)) rfl rfl rfl <| .val (y_neq rfl rfl rfl (hq1)) rfl rfl rfl <| .val (y_move rfl rfl) rfl rfl rfl <| ?_
        cases q1
        · exact .skip rfl rfl rfl <| .skip rfl rfl rfl <| .skip rfl rfl rfl <| .skip rfl rfl rfl <| .val (y_pickF rfl rfl rfl) rfl rfl rfl <| .nil (.cons (k := 62) rfl (.skip rfl <| .skip rfl <| .skip rfl <| .skip rfl <| .skip rfl <| .skip rfl <| .skip rfl <| .skip rfl <| .skip rfl <| .skip rfl <| Sub.refl _))
        · exact .val ((by first | exact y_fieldPin rfl fo_105_0 rfl | exact y_fieldPtr rfl fo_105_0 rfl)) rfl rfl rfl <| .val ((by first | exact y_loadPinAll rfl tk_25 rfl rfl | exact y_loadPtrAll rfl tk_25 rfl rfl rfl | exact y_loadPinAgg rfl tk_25 rfl rfl rfl | exact y_loadPtrAgg rfl tk_25 rfl rfl rfl rfl)) rfl rfl rfl <| .val (y_move rfl rfl) rfl rfl rfl <| .val (y_call rfl en_76 rfl rfl (hq2 ▸ over_can T i hov)) rfl rfl rfl <| .val (y_pickT rfl rfl rfl) rfl rfl rfl <| .nil (.cons (k := 62) rfl (.skip rfl <| .skip rfl <| .skip rfl <| .skip rfl <| .skip rfl <| .skip rfl <| .skip rfl <| .skip rfl <| .skip rfl <| .skip rfl <| Sub.refl _))
      refine W_cond rfl (fun hc => ?_) (fun hc => ?_)
      · obtain ⟨c1, c2⟩ := Bool.and_eq_true_iff.1 hc
        rw [c1] at hq1
        rw [c2] at hq2
        have hDe := dij_over hD1 (by have := of_decide_eq_true hq1; omega) hq2
        refine W_sub (.cons (k := 1) rfl <| .cons (k := 3) rfl <| .cons (k := 5) rfl <| Sub.nil _) ?_
        refine W_exit ?_
        first
          | exact ⟨_, hmeas, out1, K2, P2, O2, q2, hDe, hok2, rfl, rfl⟩
          | exact ⟨_, hmeas, out1, K1, P1, O1, n1, hDe, hok', rfl, rfl⟩
      · have hfree : i = n ∨ overN T i = false := by
          by_cases e : i = n
          · exact .inl e
          · right
            have : q1 = true := by rw [← hq1]; simp; omega
            rw [this, Bool.true_and] at hc
            rw [hq2, hc]
        clear hq1 hq2 hc
        refine W_skip ?_
        refine W_cs (
          .val ((by first | exact y_fieldPin rfl fo_105_3 rfl | exact y_fieldPtr rfl fo_105_3 rfl)) rfl rfl rfl <|
          .val ((by first | exact y_loadPin rfl tk_102 rfl rfl | exact y_loadPtr rfl tk_102 rfl rfl rfl)) rfl rfl rfl <|
          .val (y_move rfl rfl) rfl rfl rfl <|
          .val (y_call rfl he1 rfl rfl (h1 i hiT)) rfl rfl rfl <|
          .val ((by first | exact y_lenSlice rfl el_29 rfl | exact y_lenOwn rfl el_29 rfl rfl | exact y_lenNil rfl el_29 rfl)) rfl rfl rfl <|
          .val (y_move rfl rfl) rfl rfl rfl <|
          .nil (.cons (k := 1) rfl <| .cons (k := 3) rfl <| .cons (k := 5) rfl <| .cons (k := 8) rfl <| .cons (k := 66) rfl <| .cons (k := 67) rfl <| .cons (k := 68) rfl <| Sub.nil _)) ?_
        have hll := arcsAt_len T dir i
        have hD2 : Dij T D n dir out1 K1 (fun y => Held O1 (y : Int)) (fun a => arcY T dir a = (i : Int) ∧ (a : Int) ∉ (arcsAt T dir i).take 0) := ⟨hD1.len, hD1.ge, hD1.root, hD1.hneg, hD1.mono, hD1.suppH, hD1.supp, fun a ha hs => hD1.closed a ha (fun e => hs ⟨e, by simp⟩), hD1.ub, hD1.ubH⟩
        refine W_block ?_
        refine W_sub (.cons (k := 1) rfl <| .cons (k := 3) rfl <| .cons (k := 5) rfl <| .cons (k := 8) rfl <| .cons (k := 66) rfl <| .cons (k := 67) rfl <| .cons (k := 68) rfl <| Sub.nil _) ?_
        refine W_loop (fun r s => ∃ j K P O q, j ≤ (arcsAt T dir i).length ∧ Dij T D n dir out1 K (fun y => Held O (y : Int)) (fun a => arcY T dir a = (i : Int) ∧ (a : Int) ∉ (arcsAt T dir i).take j) ∧ HOK k q K P O ∧ r = (arcsAt T dir i).length - j ∧ s = ⟨[(1, .pin (searchP T D n f1 f2 cap1 cap2) 0), (3, .own 0), (5, .ptr 1 0), (8, num d), (66, intsV (arcsAt T dir i)), (67, num (arcsAt T dir i).length), (68, num j)], hsto false (some (.row 3 1 k (intsP out1))) k q K P O⟩) (arcsAt T dir i).length ⟨0, K1, P1, O1, n1, by omega, hD2, hok', rfl, rfl⟩ ?_
        clear hD2 hok' hD1 K1 P1 O1 n1 hH' hmin hHi hD hok
        rintro r s ⟨j, K2, P2, O2, q2, hj, hD2, hok2, rfl, rfl⟩
        refine W_cs (
          .val (y_lss rfl rfl rfl rfl) rfl rfl rfl <|
          .nil (.cons (k := 1) rfl <| .cons (k := 3) rfl <| .cons (k := 5) rfl <| .cons (k := 8) rfl <| .cons (k := 66) rfl <| .cons (k := 67) rfl <| .cons (k := 68) rfl <| .cons (k := 69) rfl <| Sub.nil _)) ?_
        refine W_seq ?_
        refine W_cond rfl (fun hc => ?_) (fun hc => ?_)
        · have hlt : j < (arcsAt T dir i).length := by have := of_decide_eq_true hc; omega
          obtain ⟨a, ha, ham, hay⟩ := arcsAt_get T dir i j hlt
          obtain ⟨m, hm⟩ := Int.eq_ofNat_of_zero_le (hS.x dir a ham).1
          have hmN : m < k := by have := (hS.x dir a ham).2; omega
          have hcb := hS.cost a ham
          have hDl : D.length = 0 ∨ a < D.length := by simp only [fitsB, decide_eq_true_eq] at hf; omega
          have hSS : ∀ b, b < 2 * T.links.length → (arcY T dir b = (i : Int) ∧ (b : Int) ∉ (arcsAt T dir i).take j) → (arcY T dir b = (i : Int) ∧ (b : Int) ∉ (arcsAt T dir i).take (j + 1)) ∨ b = a := fun b _ ⟨e1, e2⟩ => by
            by_cases e : b = a
            · exact .inr e
            · left
              refine ⟨e1, fun hm' => ?_⟩
              rw [take_step _ j 0 hlt, ha] at hm'
              rcases List.mem_append.1 hm' with h | h
              · exact e2 h
              · simp at h; exact e (by omega)
          have hayi : at' out1 (arcY T dir a) = d := by rw [hay]; exact hati
          have hga : out1.getD m 0 = at' out1 (m : Int) := by simp [at', List.getD_eq_getElem?_getD, show m < out1.length by omega]
          refine W_skip ?_
          refine W_seq ?_
          refine W_block ?_
          refine W_cs (
            .val ((by first | exact y_indexSlice (j := j) rfl el_29 rfl rfl (by omega) (by omega) (by omega) | exact y_indexOwn (j := j) rfl el_29 rfl rfl rfl (by omega) (by omega) (by omega))) rfl rfl rfl <|
            .val ((by first | exact y_loadPin rfl tk_3 rfl ((ints_get _ j hlt).trans (by rw [ha])) | exact y_loadPtr rfl tk_3 rfl rfl ((ints_get _ j hlt).trans (by rw [ha])))) rfl rfl rfl <|
            .val (y_assign rfl rfl) rfl rfl rfl <|
            .nil (.cons (k := 1) rfl <| .cons (k := 3) rfl <| .cons (k := 5) rfl <| .cons (k := 8) rfl <| .cons (k := 11) rfl <| .cons (k := 66) rfl <| .cons (k := 67) rfl <| .cons (k := 68) rfl <| Sub.nil _)) ?_
          refine W_cs (
            .val ((by first | exact y_fieldPin rfl fo_105_4 rfl | exact y_fieldPtr rfl fo_105_4 rfl)) rfl rfl rfl <|
            .val ((by first | exact y_loadPin rfl tk_103 rfl rfl | exact y_loadPtr rfl tk_103 rfl rfl rfl)) rfl rfl rfl <|
            .val (y_move rfl rfl) rfl rfl rfl <|
            .val (y_call rfl he2 rfl rfl (hm ▸ h2 a ham)) rfl rfl rfl <|
            .val (y_assign rfl rfl) rfl rfl rfl <|
            .nil (.cons (k := 1) rfl <| .cons (k := 3) rfl <| .cons (k := 5) rfl <| .cons (k := 8) rfl <| .cons (k := 11) rfl <| .cons (k := 12) rfl <| .cons (k := 66) rfl <| .cons (k := 67) rfl <| .cons (k := 68) rfl <| Sub.nil _)) ?_
          refine W_seq ?_
          obtain ⟨p1, hp1⟩ : ∃ q, downN D a = q := ⟨_, rfl⟩
          obtain ⟨p2, hp2⟩ : ∃ q, decide (0 ≤ out1.getD m 0) = q := ⟨_, rfl⟩
          refine W_csB 86 (.raw (.bool (p1 || p2))) ?_ ?_
          · refine .val ((by first | exact y_fieldPin rfl fo_105_1 rfl | exact y_fieldPtr rfl fo_105_1 rfl)) rfl rfl rfl <| .val ((by first | exact y_loadPin rfl tk_22 rfl rfl | exact y_loadPtr rfl tk_22 rfl rfl rfl)) rfl rfl rfl <| .val (y_move rfl rfl) rfl rfl rfl <| .val (y_call rfl en_32 rfl rfl (hp1 ▸ down_can D a hDl)) rfl rfl rfl <| .val (y_move rfl rfl) rfl rfl rfl <| ?_
            cases p1
            · exact .val (y_move rfl rfl) rfl rfl rfl <| .val (y_move rfl rfl) rfl rfl rfl <| .val ((by first | exact y_indexSlice (j := m) rfl el_29 rfl rfl (by omega) (by omega) (by omega) | exact y_indexOwn (j := m) rfl el_29 rfl rfl rfl (by omega) (by omega) (by omega))) rfl rfl rfl <| .val ((by first | exact y_loadPin rfl tk_3 rfl (ints_get out1 m (by omega)) | exact y_loadPtr rfl tk_3 rfl rfl (ints_get out1 m (by omega)))) rfl rfl rfl <| .val (y_geq rfl rfl rfl (hp2)) rfl rfl rfl <| .val (y_pickF rfl rfl rfl) rfl rfl rfl <| .nil (.cons (k := 86) rfl (.skip rfl <| .skip rfl <| .skip rfl <| .skip rfl <| .skip rfl <| .skip rfl <| .skip rfl <| .skip rfl <| .skip rfl <| .skip rfl <| .skip rfl <| Sub.refl _))
            · exact .skip rfl rfl rfl <| .skip rfl rfl rfl <| .skip rfl rfl rfl <| .skip rfl rfl rfl <| .skip rfl rfl rfl <| .val (y_pickT rfl rfl rfl) rfl rfl rfl <| .nil (.cons (k := 86) rfl (.skip rfl <| .skip rfl <| .skip rfl <| .skip rfl <| .skip rfl <| .skip rfl <| .skip rfl <| .skip rfl <| .skip rfl <| .skip rfl <| .skip rfl <| Sub.refl _))
          refine W_cond rfl (fun hc => ?_) (fun hc => ?_)
          · have hD3 := dij_old (S' := fun b => arcY T dir b = (i : Int) ∧ (b : Int) ∉ (arcsAt T dir i).take (j + 1)) hD2 hSS (fun hw => .inl (by
              rcases Bool.or_eq_true_iff.1 hc with h | h
              · rw [hw.1] at hp1; rw [h] at hp1; cases hp1
              · rw [h] at hp2
                have h3 := of_decide_eq_true hp2
                rw [hga] at h3
                rw [hm, hayi]
                have := htop m (by omega)
                exact ⟨h3, by omega⟩))
            refine W_exit ?_
            refine W_chain (
              .val (y_add rfl rfl rfl rfl (by unfold In64; omega)) rfl rfl rfl <|
              .val (y_move rfl rfl) rfl rfl rfl <|
              .nil (.cons (k := 1) rfl <| .cons (k := 3) rfl <| .cons (k := 5) rfl <| .cons (k := 8) rfl <| .cons (k := 66) rfl <| .cons (k := 67) rfl <| .cons (k := 68) rfl <| Sub.nil _)) ?_
            first
              | exact ⟨(arcsAt T dir i).length - (j + 1), by omega, j + 1, _, P3, O3, n3, by omega, hD3, hok3, rfl, rfl⟩
              | exact ⟨(arcsAt T dir i).length - (j + 1), by omega, j + 1, K2, P2, O2, q2, by omega, hD3, hok2, rfl, rfl⟩
          · obtain ⟨c1, c2⟩ := Bool.or_eq_false_iff.1 hc
            rw [c1] at hp1
            rw [c2] at hp2
            have hmneg : at' out1 (m : Int) < 0 := by have := of_decide_eq_false hp2; rw [hga] at this; omega
            have hway : Net.Way T D n dir out1 a := ⟨hp1, by rw [hayi]; exact hk0, by rw [hay, Int.toNat_natCast]; rcases hfree with h | h; (exact .inl (by rw [h])); exact .inr h⟩
            refine W_skip ?_
            refine W_cs (
              .val (y_move rfl rfl) rfl rfl rfl <|
              .val ((by first | exact y_fieldPin rfl fo_105_0 rfl | exact y_fieldPtr rfl fo_105_0 rfl)) rfl rfl rfl <|
              .val ((by first | exact y_loadPinAll rfl tk_25 rfl rfl | exact y_loadPtrAll rfl tk_25 rfl rfl rfl | exact y_loadPinAgg rfl tk_25 rfl rfl rfl | exact y_loadPtrAgg rfl tk_25 rfl rfl rfl rfl)) rfl rfl rfl <|
              .val (y_move rfl rfl) rfl rfl rfl <|
              .val (y_call rfl en_77 rfl rfl (cost_can T a ham)) rfl rfl rfl <|
              .val (y_add rfl rfl rfl rfl (by unfold In64; omega)) rfl rfl rfl <|
              .val (y_assign rfl rfl) rfl rfl rfl <|
              .nil (.cons (k := 1) rfl <| .cons (k := 3) rfl <| .cons (k := 5) rfl <| .cons (k := 8) rfl <| .cons (k := 12) rfl <| .cons (k := 13) rfl <| .cons (k := 66) rfl <| .cons (k := 67) rfl <| .cons (k := 68) rfl <| Sub.nil _)) ?_
            obtain ⟨p3, hp3⟩ : ∃ q, (!decide (P2.getD m 0 = 0)) = q := ⟨_, rfl⟩
            obtain ⟨kv, hkv⟩ : ∃ z, (if P2.getD m 0 = 0 then 0 else K2.getD m 0) = z := ⟨_, rfl⟩
            have hkc := key_can K2 P2 O2 hok2.1.len hok2.2.2.1 (by omega) m hmN
            rw [hp3, hkv] at hkc
            refine W_cs (
              .val (y_move rfl rfl) rfl rfl rfl <|
              .val (y_move rfl rfl) rfl rfl rfl <|
              .val (y_callV rfl en_97 rfl rfl (purKey (pur_heap false _ hok2.2.2.1 hok2.1.len hok2.2.1) _) (hkc)) rfl rfl rfl <|
              .val (y_move rfl rfl) rfl rfl rfl <|
              .val (y_extract rfl rfl rfl) rfl rfl rfl <|
              .val (y_extract rfl rfl rfl) rfl rfl rfl <|
              .val (y_assign rfl rfl) rfl rfl rfl <|
              .val (y_assign rfl rfl) rfl rfl rfl <|
              .nil (.cons (k := 1) rfl <| .cons (k := 3) rfl <| .cons (k := 5) rfl <| .cons (k := 8) rfl <| .cons (k := 12) rfl <| .cons (k := 13) rfl <| .cons (k := 14) rfl <| .cons (k := 15) rfl <| .cons (k := 66) rfl <| .cons (k := 67) rfl <| .cons (k := 68) rfl <| Sub.nil _)) ?_
            obtain ⟨p4, hp4⟩ : ∃ q, decide (d + costN T a < kv) = q := ⟨_, rfl⟩
            refine W_csB 105 (.raw (.bool ((!p3) || p4))) ?_ ?_
            · refine .val (y_move rfl rfl) rfl rfl rfl <| .val (y_not rfl rfl) rfl rfl rfl <| .val (y_move rfl rfl) rfl rfl rfl <| ?_
              cases p3
              · exact .skip rfl rfl rfl <| .skip rfl rfl rfl <| .skip rfl rfl rfl <| .val (y_pickT rfl rfl rfl) rfl rfl rfl <| .nil (.cons (k := 105) rfl (.skip rfl <| .skip rfl <| .skip rfl <| .skip rfl <| .skip rfl <| .skip rfl <| .skip rfl <| Sub.refl _))
              · exact .val (y_move rfl rfl) rfl rfl rfl <| .val (y_move rfl rfl) rfl rfl rfl <| .val (y_lss rfl rfl rfl (hp4)) rfl rfl rfl <| .val (y_pickF rfl rfl rfl) rfl rfl rfl <| .nil (.cons (k := 105) rfl (.skip rfl <| .skip rfl <| .skip rfl <| .skip rfl <| .skip rfl <| .skip rfl <| .skip rfl <| Sub.refl _))
            refine W_cond rfl (fun hc => ?_) (fun hc => ?_)
            · have hnew : ¬ Held O2 (m : Int) ∨ at' out1 (arcY T dir a) + costN T a < K2.getD m 0 := by
                rw [hayi]
                by_cases e : P2.getD m 0 = 0
                · exact .inl ((hok2.1.zero hmN).1 e)
                · right
                  have h3 : p3 = true := by rw [← hp3]; simp only [e]; rfl
                  rw [h3] at hc
                  have h4 : p4 = true := by simpa using hc
                  rw [h4] at hp4
                  have := of_decide_eq_true hp4
                  rw [if_neg e] at hkv
                  omega
              refine W_region ?_
              refine WR_val (y_move rfl rfl) rfl rfl rfl ?_
              refine WR_val (y_move rfl rfl) rfl rfl rfl ?_
              refine WR_val (y_move rfl rfl) rfl rfl rfl ?_
              refine WR_callS rfl en_95 rfl rfl rfl rfl rfl (CanS.mono (set_can (some (.row 3 1 k (intsP out1))) (pureRow _ _) K2 P2 O2 hok2 (by omega) m hmN (d + costN T a)) (fun _ σ' h => ?_))
              obtain ⟨b3, n3, P3, O3, rfl, hok3, hH3⟩ := h
              refine WR_sub (.cons (k := 1) rfl <| .cons (k := 3) rfl <| .cons (k := 5) rfl <| .cons (k := 8) rfl <| .cons (k := 66) rfl <| .cons (k := 67) rfl <| .cons (k := 68) rfl <| Sub.nil _) (WR_nil ?_)
              refine W_norm (pureRow _ _) (.cons 1 rfl Ren.pure <| .cons 3 rfl (Ren.own (i := 0) rfl) <| .cons 5 rfl (Ren.ptr (i := 1) rfl) <| .cons 8 rfl Ren.pure <| .cons 66 rfl Ren.pure <| .cons 67 rfl Ren.pure <| .cons 68 rfl Ren.pure <| .nil) ?_
              have hD3 := dij_set (S' := fun b => arcY T dir b = (i : Int) ∧ (b : Int) ∉ (arcsAt T dir i).take (j + 1)) (H' := fun y => Held O3 (y : Int)) hS hD2 ham hSS hway hm hmneg (fun x hx => by rw [hayi]; exact htop x hx) (by rw [hayi]; omega) hnew (by rw [hok2.2.2.1]; exact hmN) (fun y => (hH3 y).trans ⟨fun h => h.imp id (fun e => by omega), fun h => h.imp id (fun e => by omega)⟩)
              rw [hayi] at hD3
              refine W_chain (
                .val (y_add rfl rfl rfl rfl (by unfold In64; omega)) rfl rfl rfl <|
                .val (y_move rfl rfl) rfl rfl rfl <|
                .nil (.cons (k := 1) rfl <| .cons (k := 3) rfl <| .cons (k := 5) rfl <| .cons (k := 8) rfl <| .cons (k := 66) rfl <| .cons (k := 67) rfl <| .cons (k := 68) rfl <| Sub.nil _)) ?_
              first
                | exact ⟨(arcsAt T dir i).length - (j + 1), by omega, j + 1, _, P3, O3, n3, by omega, hD3, hok3, rfl, rfl⟩
                | exact ⟨(arcsAt T dir i).length - (j + 1), by omega, j + 1, K2, P2, O2, q2, by omega, hD3, hok2, rfl, rfl⟩
            · obtain ⟨c3, c4⟩ := Bool.or_eq_false_iff.1 hc
              have h3 : p3 = true := by cases p3; cases c3; rfl
              rw [h3] at hp3
              rw [c4] at hp4
              have e : P2.getD m 0 ≠ 0 := fun e => by rw [e] at hp3; cases hp3
              have hD3 := dij_old (S' := fun b => arcY T dir b = (i : Int) ∧ (b : Int) ∉ (arcsAt T dir i).take (j + 1)) hD2 hSS (fun hw => .inr (by
                rw [hm, Int.toNat_natCast, hayi]
                refine ⟨Classical.byContradiction fun hh => e ((hok2.1.zero hmN).2 hh), ?_⟩
                rw [if_neg e] at hkv
                have := of_decide_eq_false hp4
                omega))
              refine W_skip ?_
              refine W_chain (
                .val (y_add rfl rfl rfl rfl (by unfold In64; omega)) rfl rfl rfl <|
                .val (y_move rfl rfl) rfl rfl rfl <|
                .nil (.cons (k := 1) rfl <| .cons (k := 3) rfl <| .cons (k := 5) rfl <| .cons (k := 8) rfl <| .cons (k := 66) rfl <| .cons (k := 67) rfl <| .cons (k := 68) rfl <| Sub.nil _)) ?_
              first
                | exact ⟨(arcsAt T dir i).length - (j + 1), by omega, j + 1, _, P3, O3, n3, by omega, hD3, hok3, rfl, rfl⟩
                | exact ⟨(arcsAt T dir i).length - (j + 1), by omega, j + 1, K2, P2, O2, q2, by omega, hD3, hok2, rfl, rfl⟩
        · have hje : j = (arcsAt T dir i).length := by have := of_decide_eq_false hc; omega
          have hDe : Dij T D n dir out1 K2 (fun y => Held O2 (y : Int)) (fun _ => False) := ⟨hD2.len, hD2.ge, hD2.root, hD2.hneg, hD2.mono, hD2.suppH, hD2.supp, fun a ha _ => hD2.closed a ha (fun ⟨e1, e2⟩ => e2 (by rw [hje, List.take_length]; exact (arcsAt_mem T dir i a).2 ⟨ha, e1⟩)), hD2.ub, hD2.ubH⟩
          refine W_sub (.cons (k := 1) rfl <| .cons (k := 3) rfl <| .cons (k := 5) rfl <| Sub.nil _) ?_
          refine W_exit ?_
          first
            | exact ⟨_, hmeas, out1, K2, P2, O2, q2, hDe, hok2, rfl, rfl⟩
            | exact ⟨_, hmeas, out1, K1, P1, O1, n1, hDe, hok', rfl, rfl⟩
end PW
end Go.Proofs.YtkaalpdfppbdeaaDoor
