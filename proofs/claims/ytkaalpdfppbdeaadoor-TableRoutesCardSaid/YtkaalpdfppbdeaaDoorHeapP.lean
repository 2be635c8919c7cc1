/- Contracts of package heap: before, swap, settle, take, Set, Key, Pop. -/
import Derived.Test.YtkaalpdfppbdeaaDoorPWd
import Derived.Test.YtkaalpdfppbdeaaDoorHeapLaw
namespace Go.Proofs.YtkaalpdfppbdeaaDoor
namespace PW
open Go.RowKit Reg Mem Net Heap

/-- The store of a caller with a heap: d: a block of its own; the heap; its three rows. true: the third row has been laid anew. -/
def hsto (b : Bool) (d : Option Blk) (N n : Nat) (K P O : List Int) : Sto :=
  match b with
  | false => [d, some (.cells 131 [.own 2, .own 3, .own 4]), some (.row 3 1 N (intsP K)), some (.row 3 1 N (intsP P)), some (.row 3 1 n (intsP O))]
  | true => [d, some (.cells 131 [.own 2, .own 3, .own 5]), some (.row 3 1 N (intsP K)), some (.row 3 1 N (intsP P)), none, some (.row 3 1 n (intsP O))]
/-- A block that leads to no other. -/
def PureD (d : Option Blk) : Prop := ∀ b, d = some b → IsPureL b.xs
theorem SRen.same {fs : List Nat} {σ σ' : Sto} {js : List Nat} {j : Nat} {d : Option Blk} (hd : PureD d) (h : σ[j]? = some d) (hs : SRen fs σ σ' js) : SRen fs σ (d :: σ') (j :: js) := by
  cases d with
  | none => exact .gone hs
  | some b =>
    haveI := hd b rfl
    cases b with
    | cells ty xs => haveI : IsPureL xs := hd _ rfl; exact .kept h (.cells RenL.pure) hs
    | row e s n xs => haveI : IsPureL xs := hd _ rfl; exact .kept h (.row RenL.pure) hs
def hpin (K P O : List Int) : PV := .pin [intsV K, intsV P, intsV O] 0
theorem pur_heap (b : Bool) (d : Option Blk) {N n : Nat} {K P O : List Int} (hK : K.length = N) (hP : P.length = N) (hO : O.length = n) : Pur (hsto b d N n K P O) (.ptr 1 0) (hpin K P O) := by
  subst hK; subst hO
  unfold hpin intsV
  rw [hP]
  cases b <;> exact Pur.ptrL rfl (PurL.cons (Pur.ownL rfl PurL.pure) (PurL.cons (Pur.ownL rfl PurL.pure) (PurL.cons (Pur.ownL rfl PurL.pure) PurL.nil)))
theorem placed_lt {N : Nat} {P O : List Int} (h : Placed N P O) {p : Nat} (hp : p < O.length) : ∃ i : Nat, O.getD p 0 = (i : Int) ∧ i < N := by
  obtain ⟨h1, h2, _⟩ := h.item p hp
  exact ⟨(O.getD p 0).toNat, by omega, by omega⟩

set_option maxRecDepth 10000 in
set_option maxHeartbeats 1000000 in
theorem before_can {N : Nat} (K P O : List Int) (hP : Placed N P O) (hK : K.length = N) (hN : N ≤ 65536) (p q : Nat) (hp : p < O.length) (hq : q < O.length) :
    Can Tryd.prog 108 [hpin K P O, num p, num q] (· = flag (decide (rk K O p < rk K O q))) := by
  obtain ⟨i, hi, hi'⟩ := placed_lt hP hp
  obtain ⟨j, hj, hj'⟩ := placed_lt hP hq
  have hr : decide (rk K O p < rk K O q) = if K.getD i 0 = K.getD j 0 then decide ((i : Int) < (j : Int)) else decide (K.getD i 0 < K.getD j 0) := by
    unfold rk
    rw [hi, hj, rank_lt (by omega) (by omega) (by omega) (by omega), Int.toNat_natCast, Int.toNat_natCast]
  refine can_of Tryd.func108 rfl Tryd.ntmps108 rfl ?_
  refine W_cs (
    .val (y_assign rfl rfl) rfl rfl rfl <|
    .nil (.cons (k := 0) rfl <| .cons (k := 1) rfl <| .cons (k := 2) rfl <| Sub.nil _)) ?_
  refine W_ds [9, 10, 11, 12, 13, 14, 15, 16, 17, 18, 19, 20, 21, 22, 7, 8] mixed (by kernel_rfl) (by kernel_rfl) (by kernel_rfl) (
    .val [0] rfl (y_move rfl rfl) rfl rfl rfl <|
    .val [9] rfl ((by first | exact y_nilPin rfl rfl | exact y_nilPtr rfl rfl | exact y_nilFunc rfl rfl)) rfl rfl rfl <|
    .val [10] rfl ((by first | exact y_fieldPin rfl fo_131_2 rfl | exact y_fieldPtr rfl fo_131_2 rfl)) rfl rfl rfl <|
    .val [11] rfl ((by first | exact y_loadPin rfl tk_29 rfl rfl | exact y_loadPtr rfl tk_29 rfl rfl rfl)) rfl rfl rfl <|
    .val [1] rfl (y_move rfl rfl) rfl rfl rfl <|
    .val [12, 13] rfl ((by first | exact y_indexSlice (j := p) rfl el_29 rfl rfl (by omega) (by omega) (by omega) | exact y_indexOwn (j := p) rfl el_29 rfl rfl rfl (by omega) (by omega) (by omega))) rfl rfl rfl <|
    .val [14] rfl ((by first | exact y_loadPin rfl tk_3 rfl ((ints_get O p hp).trans (by rw [hi])) | exact y_loadPtr rfl tk_3 rfl rfl ((ints_get O p hp).trans (by rw [hi])))) rfl rfl rfl <|
    .val [0] rfl (y_move rfl rfl) rfl rfl rfl <|
    .val [16] rfl ((by first | exact y_nilPin rfl rfl | exact y_nilPtr rfl rfl | exact y_nilFunc rfl rfl)) rfl rfl rfl <|
    .val [17] rfl ((by first | exact y_fieldPin rfl fo_131_2 rfl | exact y_fieldPtr rfl fo_131_2 rfl)) rfl rfl rfl <|
    .val [18] rfl ((by first | exact y_loadPin rfl tk_29 rfl rfl | exact y_loadPtr rfl tk_29 rfl rfl rfl)) rfl rfl rfl <|
    .val [2] rfl (y_move rfl rfl) rfl rfl rfl <|
    .val [19, 20] rfl ((by first | exact y_indexSlice (j := q) rfl el_29 rfl rfl (by omega) (by omega) (by omega) | exact y_indexOwn (j := q) rfl el_29 rfl rfl rfl (by omega) (by omega) (by omega))) rfl rfl rfl <|
    .val [21] rfl ((by first | exact y_loadPin rfl tk_3 rfl ((ints_get O q hq).trans (by rw [hj])) | exact y_loadPtr rfl tk_3 rfl rfl ((ints_get O q hq).trans (by rw [hj])))) rfl rfl rfl <|
    .val [15] rfl (y_assign rfl rfl) rfl rfl rfl <|
    .val [22] rfl (y_assign rfl rfl) rfl rfl rfl <|
    .nil (.cons (k := 0) rfl <| .cons (k := 7) rfl <| .cons (k := 8) rfl <| Sub.nil _)) ?_
  refine W_seq ?_
  refine W_ds [23, 24, 25, 26, 27, 28, 29, 30, 31, 32, 33, 34, 35, 36, 37] mixed (by kernel_rfl) (by kernel_rfl) (by kernel_rfl) (
    .val [0] rfl (y_move rfl rfl) rfl rfl rfl <|
    .val [23] rfl ((by first | exact y_nilPin rfl rfl | exact y_nilPtr rfl rfl | exact y_nilFunc rfl rfl)) rfl rfl rfl <|
    .val [24] rfl ((by first | exact y_fieldPin rfl fo_131_0 rfl | exact y_fieldPtr rfl fo_131_0 rfl)) rfl rfl rfl <|
    .val [25] rfl ((by first | exact y_loadPin rfl tk_29 rfl rfl | exact y_loadPtr rfl tk_29 rfl rfl rfl)) rfl rfl rfl <|
    .val [7] rfl (y_move rfl rfl) rfl rfl rfl <|
    .val [26, 27] rfl ((by first | exact y_indexSlice (j := i) rfl el_29 rfl rfl (by omega) (by omega) (by omega) | exact y_indexOwn (j := i) rfl el_29 rfl rfl rfl (by omega) (by omega) (by omega))) rfl rfl rfl <|
    .val [28] rfl ((by first | exact y_loadPin rfl tk_3 rfl (ints_get K i (by omega)) | exact y_loadPtr rfl tk_3 rfl rfl (ints_get K i (by omega)))) rfl rfl rfl <|
    .val [0] rfl (y_move rfl rfl) rfl rfl rfl <|
    .val [30] rfl ((by first | exact y_nilPin rfl rfl | exact y_nilPtr rfl rfl | exact y_nilFunc rfl rfl)) rfl rfl rfl <|
    .val [31] rfl ((by first | exact y_fieldPin rfl fo_131_0 rfl | exact y_fieldPtr rfl fo_131_0 rfl)) rfl rfl rfl <|
    .val [32] rfl ((by first | exact y_loadPin rfl tk_29 rfl rfl | exact y_loadPtr rfl tk_29 rfl rfl rfl)) rfl rfl rfl <|
    .val [8] rfl (y_move rfl rfl) rfl rfl rfl <|
    .val [33, 34] rfl ((by first | exact y_indexSlice (j := j) rfl el_29 rfl rfl (by omega) (by omega) (by omega) | exact y_indexOwn (j := j) rfl el_29 rfl rfl rfl (by omega) (by omega) (by omega))) rfl rfl rfl <|
    .val [35] rfl ((by first | exact y_loadPin rfl tk_3 rfl (ints_get K j (by omega)) | exact y_loadPtr rfl tk_3 rfl rfl (ints_get K j (by omega)))) rfl rfl rfl <|
    .val [29, 36] rfl (y_neq rfl rfl rfl rfl) rfl rfl rfl <|
    .nil (.cons (k := 0) rfl <| .cons (k := 7) rfl <| .cons (k := 8) rfl <| .cons (k := 37) rfl <| Sub.nil _)) ?_
  refine W_cond rfl (fun hc => ?_) (fun hc => ?_)
  · have := of_decide_eq_true hc
    rw [if_neg this] at hr
    refine W_ds [38, 39, 40, 41, 42, 43, 44, 45, 46, 47, 48, 49, 50, 51, 52, 6] mixed (by kernel_rfl) (by kernel_rfl) (by kernel_rfl) (
      .val [0] rfl (y_move rfl rfl) rfl rfl rfl <|
      .val [38] rfl ((by first | exact y_nilPin rfl rfl | exact y_nilPtr rfl rfl | exact y_nilFunc rfl rfl)) rfl rfl rfl <|
      .val [39] rfl ((by first | exact y_fieldPin rfl fo_131_0 rfl | exact y_fieldPtr rfl fo_131_0 rfl)) rfl rfl rfl <|
      .val [40] rfl ((by first | exact y_loadPin rfl tk_29 rfl rfl | exact y_loadPtr rfl tk_29 rfl rfl rfl)) rfl rfl rfl <|
      .val [7] rfl (y_move rfl rfl) rfl rfl rfl <|
      .val [41, 42] rfl ((by first | exact y_indexSlice (j := i) rfl el_29 rfl rfl (by omega) (by omega) (by omega) | exact y_indexOwn (j := i) rfl el_29 rfl rfl rfl (by omega) (by omega) (by omega))) rfl rfl rfl <|
      .val [43] rfl ((by first | exact y_loadPin rfl tk_3 rfl (ints_get K i (by omega)) | exact y_loadPtr rfl tk_3 rfl rfl (ints_get K i (by omega)))) rfl rfl rfl <|
      .val [0] rfl (y_move rfl rfl) rfl rfl rfl <|
      .val [45] rfl ((by first | exact y_nilPin rfl rfl | exact y_nilPtr rfl rfl | exact y_nilFunc rfl rfl)) rfl rfl rfl <|
      .val [46] rfl ((by first | exact y_fieldPin rfl fo_131_0 rfl | exact y_fieldPtr rfl fo_131_0 rfl)) rfl rfl rfl <|
      .val [47] rfl ((by first | exact y_loadPin rfl tk_29 rfl rfl | exact y_loadPtr rfl tk_29 rfl rfl rfl)) rfl rfl rfl <|
      .val [8] rfl (y_move rfl rfl) rfl rfl rfl <|
      .val [48, 49] rfl ((by first | exact y_indexSlice (j := j) rfl el_29 rfl rfl (by omega) (by omega) (by omega) | exact y_indexOwn (j := j) rfl el_29 rfl rfl rfl (by omega) (by omega) (by omega))) rfl rfl rfl <|
      .val [50] rfl ((by first | exact y_loadPin rfl tk_3 rfl (ints_get K j (by omega)) | exact y_loadPtr rfl tk_3 rfl rfl (ints_get K j (by omega)))) rfl rfl rfl <|
      .val [44, 51] rfl (y_lss rfl rfl rfl rfl) rfl rfl rfl <|
      .val [52] rfl (y_assign rfl rfl) rfl rfl rfl <|
      .nil (.cons (k := 6) rfl <| Sub.nil _)) ?_
    refine W_ret ?_
    exact ⟨_, _, .cons (.tmp rfl) <| .nil, Pur.pure, by rw [hr]; rfl⟩
  · have := of_decide_eq_false hc
    rw [if_pos (by simpa using this)] at hr
    refine W_skip ?_
    refine W_cs (
      .val (y_move rfl rfl) rfl rfl rfl <|
      .val (y_move rfl rfl) rfl rfl rfl <|
      .val (y_lss rfl rfl rfl rfl) rfl rfl rfl <|
      .val (y_assign rfl rfl) rfl rfl rfl <|
      .nil (.cons (k := 6) rfl <| Sub.nil _)) ?_
    refine W_ret ?_
    exact ⟨_, _, .cons (.tmp rfl) <| .nil, Pur.pure, by rw [hr]; rfl⟩

set_option maxRecDepth 10000 in
set_option maxHeartbeats 1000000 in
theorem swap_can {N n : Nat} (b : Bool) (d : Option Blk) (K P O : List Int) (hP : Placed N P O) (hO : O.length = n) (hN : N ≤ 65536) (p q : Nat) (hp : p < O.length) (hq : q < O.length) :
    CanS Tryd.prog 109 [.ptr 1 0, num p, num q] (hsto b d N n K P O) (fun _ σ' => σ' = hsto b d N n K (placeL P O p q) (swapL O p q)) := by
  obtain ⟨i, hi, hi'⟩ := placed_lt hP hp
  obtain ⟨j, hj, hj'⟩ := placed_lt hP hq
  have hlen := placed_len hP
  have hPl := hP.len
  have gp : (swapL O p q).getD p 0 = j := by
    rw [swapL_get O p q p hp hq]
    by_cases h : p = q
    · rw [if_pos h]; subst h; omega
    · rw [if_neg h, if_pos rfl, hj]
  have gq : (swapL O p q).getD q 0 = i := by rw [swapL_get O p q q hp hq, if_pos rfl, hi]
  have hsw : swapL O p q = (O.set p (j : Int)).set q (i : Int) := by unfold swapL; rw [hi, hj]
  rw [hsw] at gp gq
  refine canS_of Tryd.func109 rfl Tryd.ntmps109 rfl ?_
  cases b
  all_goals
    refine W_dfs 25 8 mixed (
      .val [0] rfl (y_move rfl rfl) rfl rfl <|
      .val [6] rfl ((by first | exact y_nilPin rfl rfl | exact y_nilPtr rfl rfl | exact y_nilFunc rfl rfl)) rfl rfl <|
      .val [7] rfl ((by first | exact y_fieldPin rfl fo_131_2 rfl | exact y_fieldPtr rfl fo_131_2 rfl)) rfl rfl <|
      .val [8] rfl ((by first | exact y_loadPin rfl tk_29 rfl rfl | exact y_loadPtr rfl tk_29 rfl rfl rfl)) rfl rfl <|
      .val [1] rfl (y_move rfl rfl) rfl rfl <|
      .val [0] rfl (y_move rfl rfl) rfl rfl <|
      .val [11] rfl ((by first | exact y_nilPin rfl rfl | exact y_nilPtr rfl rfl | exact y_nilFunc rfl rfl)) rfl rfl <|
      .val [12] rfl ((by first | exact y_fieldPin rfl fo_131_2 rfl | exact y_fieldPtr rfl fo_131_2 rfl)) rfl rfl <|
      .val [13] rfl ((by first | exact y_loadPin rfl tk_29 rfl rfl | exact y_loadPtr rfl tk_29 rfl rfl rfl)) rfl rfl <|
      .late [2] rfl (r_move rfl rfl) inferInstance rfl rfl <|
      .val [0] rfl (y_move rfl rfl) rfl rfl <|
      .val [16] rfl ((by first | exact y_nilPin rfl rfl | exact y_nilPtr rfl rfl | exact y_nilFunc rfl rfl)) rfl rfl <|
      .val [17] rfl ((by first | exact y_fieldPin rfl fo_131_2 rfl | exact y_fieldPtr rfl fo_131_2 rfl)) rfl rfl <|
      .val [18] rfl ((by first | exact y_loadPin rfl tk_29 rfl rfl | exact y_loadPtr rfl tk_29 rfl rfl rfl)) rfl rfl <|
      .val [2] rfl (y_move rfl rfl) rfl rfl <|
      .val [19, 20] rfl ((by first | exact y_indexSlice (j := q) rfl el_29 rfl rfl (by omega) (by omega) (by omega) | exact y_indexOwn (j := q) rfl el_29 rfl rfl rfl (by omega) (by omega) (by omega))) rfl rfl <|
      .val [21] rfl ((by first | exact y_loadPin rfl tk_3 rfl ((ints_get O q hq).trans (by rw [hj])) | exact y_loadPtr rfl tk_3 rfl rfl ((ints_get O q hq).trans (by rw [hj])))) rfl rfl <|
      .val [0] rfl (y_move rfl rfl) rfl rfl <|
      .val [23] rfl ((by first | exact y_nilPin rfl rfl | exact y_nilPtr rfl rfl | exact y_nilFunc rfl rfl)) rfl rfl <|
      .val [24] rfl ((by first | exact y_fieldPin rfl fo_131_2 rfl | exact y_fieldPtr rfl fo_131_2 rfl)) rfl rfl <|
      .val [25] rfl ((by first | exact y_loadPin rfl tk_29 rfl rfl | exact y_loadPtr rfl tk_29 rfl rfl rfl)) rfl rfl <|
      .val [1] rfl (y_move rfl rfl) rfl rfl <|
      .val [26, 27] rfl ((by first | exact y_indexSlice (j := p) rfl el_29 rfl rfl (by omega) (by omega) (by omega) | exact y_indexOwn (j := p) rfl el_29 rfl rfl rfl (by omega) (by omega) (by omega))) rfl rfl <|
      .val [28] rfl ((by first | exact y_loadPin rfl tk_3 rfl ((ints_get O p hp).trans (by rw [hi])) | exact y_loadPtr rfl tk_3 rfl rfl ((ints_get O p hp).trans (by rw [hi])))) rfl rfl <|
      .val [9, 10] rfl ((by first | exact y_indexSlice (j := p) rfl el_29 rfl rfl (by omega) (by omega) (by omega) | exact y_indexOwn (j := p) rfl el_29 rfl rfl rfl (by omega) (by omega) (by omega))) rfl rfl <|
      .nil) (by kernel_rfl) rfl rfl (.cons (k := 0) rfl <| .cons (k := 1) rfl <| .cons (k := 2) rfl <| .cons (k := 14) rfl <| .cons (k := 15) rfl <| .cons (k := 22) rfl <| .cons (k := 29) rfl <| .cons (k := 30) rfl <| Sub.nil _) ?_
    refine WR_loud0 ((by first | exact l_store1 rfl tk_3 rfl rfl rfl (Nat.le_of_ble_eq_true rfl) | exact l_storeInts rfl tk_3 rfl rfl rfl (by first | omega | (simp; omega)) | exact l_storeBools rfl tk_3 rfl rfl rfl (by first | omega | (simp; omega)))) rfl rfl ?_
    refine WR_val ((by first | exact y_indexSlice (j := q) rfl el_29 rfl rfl (by omega) (by omega) (by omega) | exact y_indexOwn (j := q) rfl el_29 rfl rfl rfl (by omega) (by omega) (by omega))) rfl rfl rfl ?_
    refine WR_loud0 ((by first | exact l_store1 rfl tk_3 rfl rfl rfl (Nat.le_of_ble_eq_true rfl) | exact l_storeInts rfl tk_3 rfl rfl rfl (by first | omega | (simp; omega)) | exact l_storeBools rfl tk_3 rfl rfl rfl (by first | omega | (simp; omega)))) rfl rfl ?_
    refine WR_sub (.cons (k := 0) rfl <| .cons (k := 1) rfl <| .cons (k := 2) rfl <| Sub.nil _) (WR_nil ?_)
    refine W_dfs 14 8 mixed (
      .val [0] rfl (y_move rfl rfl) rfl rfl <|
      .val [32] rfl ((by first | exact y_nilPin rfl rfl | exact y_nilPtr rfl rfl | exact y_nilFunc rfl rfl)) rfl rfl <|
      .val [33] rfl ((by first | exact y_fieldPin rfl fo_131_1 rfl | exact y_fieldPtr rfl fo_131_1 rfl)) rfl rfl <|
      .val [34] rfl ((by first | exact y_loadPin rfl tk_29 rfl rfl | exact y_loadPtr rfl tk_29 rfl rfl rfl)) rfl rfl <|
      .val [0] rfl (y_move rfl rfl) rfl rfl <|
      .val [36] rfl ((by first | exact y_nilPin rfl rfl | exact y_nilPtr rfl rfl | exact y_nilFunc rfl rfl)) rfl rfl <|
      .val [37] rfl ((by first | exact y_fieldPin rfl fo_131_2 rfl | exact y_fieldPtr rfl fo_131_2 rfl)) rfl rfl <|
      .val [38] rfl ((by first | exact y_loadPin rfl tk_29 rfl rfl | exact y_loadPtr rfl tk_29 rfl rfl rfl)) rfl rfl <|
      .val [1] rfl (y_move rfl rfl) rfl rfl <|
      .val [39, 40] rfl ((by first | exact y_indexSlice (j := p) rfl el_29 rfl rfl (by omega) (by omega) (by omega) | exact y_indexOwn (j := p) rfl el_29 rfl rfl rfl (by omega) (by omega) (by omega))) rfl rfl <|
      .val [41] rfl ((by first | exact y_loadPin rfl tk_3 rfl ((ints_get ((O.set p (j : Int)).set q (i : Int)) p (by simpa using hp)).trans (by rw [gp])) | exact y_loadPtr rfl tk_3 rfl rfl ((ints_get ((O.set p (j : Int)).set q (i : Int)) p (by simpa using hp)).trans (by rw [gp])))) rfl rfl <|
      .val [1] rfl (y_move rfl rfl) rfl rfl <|
      .val [43] rfl (y_add rfl rfl rfl rfl (by unfold In64; omega)) rfl rfl <|
      .val [35, 42] rfl ((by first | exact y_indexSlice (j := j) rfl el_29 rfl rfl (by omega) (by omega) (by omega) | exact y_indexOwn (j := j) rfl el_29 rfl rfl rfl (by omega) (by omega) (by omega))) rfl rfl <|
      .nil) (by kernel_rfl) rfl rfl (.cons (k := 0) rfl <| .cons (k := 2) rfl <| .cons (k := 44) rfl <| .cons (k := 45) rfl <| Sub.nil _) ?_
    refine WR_loud0 ((by first | exact l_store1 rfl tk_3 rfl rfl rfl (Nat.le_of_ble_eq_true rfl) | exact l_storeInts rfl tk_3 rfl rfl rfl (by first | omega | (simp; omega)) | exact l_storeBools rfl tk_3 rfl rfl rfl (by first | omega | (simp; omega)))) rfl rfl ?_
    refine WR_sub (.cons (k := 0) rfl <| .cons (k := 2) rfl <| Sub.nil _) (WR_nil ?_)
    refine W_drawFlt 14 8 mixed (
      .val [0] rfl (y_move rfl rfl) rfl rfl <|
      .val [46] rfl ((by first | exact y_nilPin rfl rfl | exact y_nilPtr rfl rfl | exact y_nilFunc rfl rfl)) rfl rfl <|
      .val [47] rfl ((by first | exact y_fieldPin rfl fo_131_1 rfl | exact y_fieldPtr rfl fo_131_1 rfl)) rfl rfl <|
      .val [48] rfl ((by first | exact y_loadPin rfl tk_29 rfl rfl | exact y_loadPtr rfl tk_29 rfl rfl rfl)) rfl rfl <|
      .val [0] rfl (y_move rfl rfl) rfl rfl <|
      .val [50] rfl ((by first | exact y_nilPin rfl rfl | exact y_nilPtr rfl rfl | exact y_nilFunc rfl rfl)) rfl rfl <|
      .val [51] rfl ((by first | exact y_fieldPin rfl fo_131_2 rfl | exact y_fieldPtr rfl fo_131_2 rfl)) rfl rfl <|
      .val [52] rfl ((by first | exact y_loadPin rfl tk_29 rfl rfl | exact y_loadPtr rfl tk_29 rfl rfl rfl)) rfl rfl <|
      .val [2] rfl (y_move rfl rfl) rfl rfl <|
      .val [53, 54] rfl ((by first | exact y_indexSlice (j := q) rfl el_29 rfl rfl (by omega) (by omega) (by omega) | exact y_indexOwn (j := q) rfl el_29 rfl rfl rfl (by omega) (by omega) (by omega))) rfl rfl <|
      .val [55] rfl ((by first | exact y_loadPin rfl tk_3 rfl ((ints_get ((O.set p (j : Int)).set q (i : Int)) q (by simpa using hq)).trans (by rw [gq])) | exact y_loadPtr rfl tk_3 rfl rfl ((ints_get ((O.set p (j : Int)).set q (i : Int)) q (by simpa using hq)).trans (by rw [gq])))) rfl rfl <|
      .val [2] rfl (y_move rfl rfl) rfl rfl <|
      .val [57] rfl (y_add rfl rfl rfl rfl (by unfold In64; omega)) rfl rfl <|
      .val [49, 56] rfl ((by first | exact y_indexSlice (j := i) rfl el_29 rfl rfl (by omega) (by omega) (by omega) | exact y_indexOwn (j := i) rfl el_29 rfl rfl rfl (by omega) (by omega) (by omega))) rfl rfl <|
      .nil) (by kernel_rfl) rfl rfl (.cons (k := 58) rfl <| .cons (k := 59) rfl <| Sub.nil _) ?_
    refine WR_loud0 ((by first | exact l_store1 rfl tk_3 rfl rfl rfl (Nat.le_of_ble_eq_true rfl) | exact l_storeInts rfl tk_3 rfl rfl rfl (by first | omega | (simp; omega)) | exact l_storeBools rfl tk_3 rfl rfl rfl (by first | omega | (simp; omega)))) rfl rfl ?_
    refine WR_sub (Sub.nil _) (WR_nil ?_)
    refine ⟨_, .nil, ?_⟩
    unfold placeL
    rw [hi, hj, hsw]
    rfl

theorem tdiv2 (p : Nat) (h : 0 < p) : ((p : Int) - 1).tdiv 2 = ((par p : Nat) : Int) := by
  rw [Int.tdiv_eq_ediv_of_nonneg (by omega)]; unfold par; omega
theorem purArgs {σ : Sto} {K P O : List Int} (h : Pur σ (.ptr 1 0) (hpin K P O)) (p q : Int) : PurL σ ([.ptr 1 0, num p, num q] ++ []) [hpin K P O, num p, num q] := PurL.cons h (PurL.cons Pur.pure (PurL.cons Pur.pure PurL.nil))

set_option maxRecDepth 10000 in
set_option maxHeartbeats 1000000 in
theorem settle_can {N n : Nat} (b : Bool) (d : Option Blk) (K P O : List Int) (hP : Placed N P O) (hO : O.length = n) (hK : K.length = N) (hN : N ≤ 65536) (p : Nat) (hp : p < n) (hL : Loose (rk K O) n p) :
    CanS Tryd.prog 104 [.ptr 1 0, num p] (hsto b d N n K P O) (fun _ σ' => ∃ P' O', σ' = hsto b d N n K P' O' ∧ Placed N P' O' ∧ O'.length = n ∧ Heapy (rk K O') n ∧ ∀ i, Held O' i ↔ Held O i) := by
  have hlen := placed_len hP
  refine canS_of Tryd.func104 rfl Tryd.ntmps104 rfl ?_
  cases b
  all_goals
    refine W_seq ?_
    refine W_block ?_
    refine W_sub (.cons (k := 0) rfl <| .cons (k := 1) rfl <| Sub.nil _) ?_
    refine W_loop (fun r s => ∃ P' O' p', Placed N P' O' ∧ O'.length = n ∧ Loose (rk K O') n p' ∧ p' < n ∧ (∀ i, Held O' i ↔ Held O i) ∧ r = p' ∧ s = ⟨[(0, .ptr 1 0), (1, num p')], hsto _ d N n K P' O'⟩) p ⟨P, O, p, hP, hO, hL, hp, fun _ => Iff.rfl, rfl, rfl⟩ ?_
    rintro r s ⟨P', O', p', hP', hO', hL', hp', hH', rfl, rfl⟩
    refine W_seq ?_
    obtain ⟨q1, hq1⟩ : ∃ q, decide ((0 : Int) < (r : Int)) = q := ⟨_, rfl⟩
    obtain ⟨q2, hq2⟩ : ∃ q, decide (rk K O' r < rk K O' (par r)) = q := ⟨_, rfl⟩
    refine W_csB 15 (.raw (.bool (q1 && q2))) ?_ ?_
    · refine .val (y_move rfl rfl) rfl rfl rfl <| .val (y_gtr rfl rfl rfl (hq1)) rfl rfl rfl <| .val (y_move rfl rfl) rfl rfl rfl <| ?_
      cases q1
      · exact .skip rfl rfl rfl <| .skip rfl rfl rfl <| .skip rfl rfl rfl <| .skip rfl rfl rfl <| .skip rfl rfl rfl <| .skip rfl rfl rfl <| .val (y_pickF rfl rfl rfl) rfl rfl rfl <| .nil (.cons (k := 15) rfl (.skip rfl <| .skip rfl <| .skip rfl <| .skip rfl <| .skip rfl <| .skip rfl <| .skip rfl <| .skip rfl <| .skip rfl <| .skip rfl <| Sub.refl _))
      · exact .val (y_move rfl rfl) rfl rfl rfl <| .val (y_move rfl rfl) rfl rfl rfl <| .val (y_move rfl rfl) rfl rfl rfl <| .val (y_sub rfl rfl rfl rfl (by unfold In64; omega)) rfl rfl rfl <| .val (y_quo rfl rfl rfl (by decide) (tdiv2 r (by have := of_decide_eq_true hq1; omega)) (by unfold In64 par; omega)) rfl rfl rfl <| .val (y_callV rfl en_108 rfl rfl (purArgs (pur_heap _ d hK hP'.len hO') _ _) (hq2 ▸ before_can K P' O' hP' hK hN r (par r) (by omega) (by have := of_decide_eq_true hq1; have := par_lt (q := r) (by omega); omega))) rfl rfl rfl <| .val (y_pickT rfl rfl rfl) rfl rfl rfl <| .nil (.cons (k := 15) rfl (.skip rfl <| .skip rfl <| .skip rfl <| .skip rfl <| .skip rfl <| .skip rfl <| .skip rfl <| .skip rfl <| .skip rfl <| .skip rfl <| Sub.refl _))
    refine W_cond rfl (fun hc => ?_) (fun hc => ?_)
    · obtain ⟨c1, c2⟩ := Bool.and_eq_true_iff.1 hc
      rw [c1] at hq1
      rw [c2] at hq2
      have hr0 : 0 < r := by have := of_decide_eq_true hq1; omega
      have hlt := of_decide_eq_true hq2
      have hpl := par_lt hr0
      refine W_skip ?_
      refine W_block ?_
      refine W_rs ?_
      refine WR_val (y_move rfl rfl) rfl rfl rfl ?_
      refine WR_val (y_move rfl rfl) rfl rfl rfl ?_
      refine WR_val (y_move rfl rfl) rfl rfl rfl ?_
      refine WR_val (y_sub rfl rfl rfl rfl (by unfold In64; omega)) rfl rfl rfl ?_
      refine WR_val (y_quo rfl rfl rfl (by decide) (tdiv2 r hr0) (by unfold In64; omega)) rfl rfl rfl ?_
      refine WR_callS rfl en_109 rfl rfl rfl rfl rfl (CanS.mono (swap_can _ d K P' O' hP' hO' hN r (par r) (by omega) (by omega)) (fun _ σ' h => ?_))
      subst h
      refine WR_sub (.cons (k := 0) rfl <| .cons (k := 1) rfl <| Sub.nil _) (WR_nil ?_)
      refine W_chain (
        .val (y_move rfl rfl) rfl rfl rfl <|
        .val (y_sub rfl rfl rfl rfl (by unfold In64; omega)) rfl rfl rfl <|
        .val (y_quo rfl rfl rfl (by decide) (tdiv2 r hr0) (by unfold In64; omega)) rfl rfl rfl <|
        .val (y_assign rfl rfl) rfl rfl rfl <|
        .nil (.cons (k := 0) rfl <| .cons (k := 1) rfl <| Sub.nil _)) ?_
      refine ⟨par r, hpl, placeL P' O' r (par r), swapL O' r (par r), par r, hP'.swap (by omega) (by omega), by rw [swapL_len]; exact hO', ?_, by omega, fun i => (held_swap O' r (par r) (by omega) (by omega) i).trans (hH' i), rfl, rfl⟩
      rw [rk_swap K O' r (par r) (by omega) (by omega)]
      exact loose_up hL' hr0 hp' hlt
    · have hdn : Downy (rk K O') n r := loose_down hL' (by
        by_cases h0 : r = 0
        · exact .inl h0
        · refine .inr ?_
          have h1 : q1 = true := by rw [← hq1]; simp; omega
          rw [h1] at hc
          simp only [Bool.true_and] at hc
          rw [hc] at hq2
          have := of_decide_eq_false hq2
          omega)
      clear hL' hq1 hq2 hc
      refine W_exit ?_
      refine W_block ?_
      refine W_sub (.cons (k := 0) rfl <| .cons (k := 1) rfl <| Sub.nil _) ?_
      refine W_loop (fun r s => ∃ P' O' p', Placed N P' O' ∧ O'.length = n ∧ Downy (rk K O') n p' ∧ p' < n ∧ (∀ i, Held O' i ↔ Held O i) ∧ r = n - p' ∧ s = ⟨[(0, .ptr 1 0), (1, num p')], hsto _ d N n K P' O'⟩) (n - r) ⟨P', O', r, hP', hO', hdn, hp', hH', rfl, rfl⟩ ?_
      clear hP' hO' hdn hH' P' O' hp' r
      rintro r s ⟨P', O', p', hP', hO', hdn, hp', hH', rfl, rfl⟩
      refine W_block ?_
      refine W_cs (
        .val (y_move rfl rfl) rfl rfl rfl <|
        .val (y_assign rfl rfl) rfl rfl rfl <|
        .nil (.cons (k := 0) rfl <| .cons (k := 1) rfl <| .cons (k := 4) rfl <| Sub.nil _)) ?_
      refine W_seq ?_
      refine W_cs (
        .val (y_move rfl rfl) rfl rfl rfl <|
        .val (y_mul rfl rfl rfl rfl (by unfold In64; omega)) rfl rfl rfl <|
        .val (y_add rfl rfl rfl rfl (by unfold In64; omega)) rfl rfl rfl <|
        .val (y_assign rfl rfl) rfl rfl rfl <|
        .nil (.cons (k := 0) rfl <| .cons (k := 1) rfl <| .cons (k := 4) rfl <| .cons (k := 5) rfl <| Sub.nil _)) ?_
      refine W_block ?_
      refine W_sub (.cons (k := 0) rfl <| .cons (k := 1) rfl <| .cons (k := 4) rfl <| .cons (k := 5) rfl <| Sub.nil _) ?_
      refine W_loop (fun r s => ∃ c l, 2 * p' + 1 ≤ c ∧ c ≤ 2 * p' + 3 ∧ r = 2 * p' + 3 - c ∧ l < n ∧ (l = p' ∨ (par l = p' ∧ 0 < l ∧ rk K O' l < rk K O' p')) ∧ (∀ x, 2 * p' + 1 ≤ x → x < c → x < n → rk K O' l ≤ rk K O' x) ∧ s = ⟨[(0, .ptr 1 0), (1, num p'), (4, num l), (5, num c)], hsto _ d N n K P' O'⟩) 2 ⟨2 * p' + 1, p', by omega, by omega, by omega, hp', .inl rfl, fun x h1 h2 => by omega, rfl⟩ ?_
      rintro r s ⟨c, l, hc1, hc2, rfl, hl, hl2, hl3, rfl⟩
      refine W_seq ?_
      obtain ⟨q1, hq1⟩ : ∃ q, decide ((c : Int) ≤ 2 * (p' : Int) + 2) = q := ⟨_, rfl⟩
      obtain ⟨q2, hq2⟩ : ∃ q, decide ((c : Int) < (n : Int)) = q := ⟨_, rfl⟩
      refine W_csB 42 (.raw (.bool (q1 && q2))) ?_ ?_
      · refine .val (y_move rfl rfl) rfl rfl rfl <| .val (y_move rfl rfl) rfl rfl rfl <| .val (y_mul rfl rfl rfl rfl (by unfold In64; omega)) rfl rfl rfl <| .val (y_add rfl rfl rfl rfl (by unfold In64; omega)) rfl rfl rfl <| .val (y_leq rfl rfl rfl (hq1)) rfl rfl rfl <| .val (y_move rfl rfl) rfl rfl rfl <| ?_
        cases q1
        · exact .skip rfl rfl rfl <| .skip rfl rfl rfl <| .skip rfl rfl rfl <| .skip rfl rfl rfl <| .skip rfl rfl rfl <| .skip rfl rfl rfl <| .skip rfl rfl rfl <| .val (y_pickF rfl rfl rfl) rfl rfl rfl <| .nil (.cons (k := 42) rfl (.skip rfl <| .skip rfl <| .skip rfl <| .skip rfl <| .skip rfl <| .skip rfl <| .skip rfl <| .skip rfl <| .skip rfl <| .skip rfl <| .skip rfl <| .skip rfl <| .skip rfl <| .skip rfl <| Sub.refl _))
        · exact .val (y_move rfl rfl) rfl rfl rfl <| .val (y_move rfl rfl) rfl rfl rfl <| .val ((by first | exact y_nilPin rfl rfl | exact y_nilPtr rfl rfl | exact y_nilFunc rfl rfl)) rfl rfl rfl <| .val ((by first | exact y_fieldPin rfl fo_131_2 rfl | exact y_fieldPtr rfl fo_131_2 rfl)) rfl rfl rfl <| .val ((by first | exact y_loadPin rfl tk_29 rfl rfl | exact y_loadPtr rfl tk_29 rfl rfl rfl)) rfl rfl rfl <| .val ((by first | exact y_lenSlice rfl el_29 rfl | exact y_lenOwn rfl el_29 rfl rfl | exact y_lenNil rfl el_29 rfl)) rfl rfl rfl <| .val (y_lss rfl rfl rfl (hq2)) rfl rfl rfl <| .val (y_pickT rfl rfl rfl) rfl rfl rfl <| .nil (.cons (k := 42) rfl (.skip rfl <| .skip rfl <| .skip rfl <| .skip rfl <| .skip rfl <| .skip rfl <| .skip rfl <| .skip rfl <| .skip rfl <| .skip rfl <| .skip rfl <| .skip rfl <| .skip rfl <| .skip rfl <| Sub.refl _))
      refine W_cond rfl (fun hc => ?_) (fun hc => ?_)
      · obtain ⟨c1, c2⟩ := Bool.and_eq_true_iff.1 hc
        rw [c1] at hq1
        rw [c2] at hq2
        have hcn : c < n := by have := of_decide_eq_true hq2; omega
        have hc4 : c ≤ 2 * p' + 2 := by have := of_decide_eq_true hq1; omega
        have hpc : par c = p' := by unfold par; omega
        refine W_skip ?_
        refine W_seq ?_
        refine W_block ?_
        refine W_cs (
          .val (y_move rfl rfl) rfl rfl rfl <|
          .val (y_move rfl rfl) rfl rfl rfl <|
          .val (y_move rfl rfl) rfl rfl rfl <|
          .val (y_callV rfl en_108 rfl rfl (purArgs (pur_heap _ d hK hP'.len hO') _ _) (before_can K P' O' hP' hK hN c l (by omega) (by omega))) rfl rfl rfl <|
          .nil (.cons (k := 0) rfl <| .cons (k := 1) rfl <| .cons (k := 4) rfl <| .cons (k := 5) rfl <| .cons (k := 48) rfl <| Sub.nil _)) ?_
        refine W_cond rfl (fun hb => ?_) (fun hb => ?_)
        · have hb' := of_decide_eq_true hb
          refine W_chain (
            .val (y_move rfl rfl) rfl rfl rfl <|
            .val (y_assign rfl rfl) rfl rfl rfl <|
            .nil (.cons (k := 0) rfl <| .cons (k := 1) rfl <| .cons (k := 4) rfl <| .cons (k := 5) rfl <| Sub.nil _)) ?_
          refine W_chain (
            .val (y_move rfl rfl) rfl rfl rfl <|
            .val (y_add rfl rfl rfl rfl (by unfold In64; omega)) rfl rfl rfl <|
            .val (y_assign rfl rfl) rfl rfl rfl <|
            .nil (.cons (k := 0) rfl <| .cons (k := 1) rfl <| .cons (k := 4) rfl <| .cons (k := 5) rfl <| Sub.nil _)) ?_
          first
            | exact ⟨2 * p' + 3 - (c + 1), by omega, c + 1, c, by omega, by omega, rfl, hcn, .inr ⟨hpc, by omega, by rcases hl2 with h | h; (rw [h] at hb'; exact hb'); omega⟩, fun x h1 h2 h3 => by by_cases e : x = c; (rw [e]; exact Int.le_refl _); (have := hl3 x h1 (by omega) h3; omega), rfl⟩
            | exact ⟨2 * p' + 3 - (c + 1), by omega, c + 1, l, by omega, by omega, rfl, hl, hl2, fun x h1 h2 h3 => by by_cases e : x = c; (rw [e]; omega); exact hl3 x h1 (by omega) h3, rfl⟩
        · have hb' := of_decide_eq_false hb
          refine W_skip ?_
          refine W_chain (
            .val (y_move rfl rfl) rfl rfl rfl <|
            .val (y_add rfl rfl rfl rfl (by unfold In64; omega)) rfl rfl rfl <|
            .val (y_assign rfl rfl) rfl rfl rfl <|
            .nil (.cons (k := 0) rfl <| .cons (k := 1) rfl <| .cons (k := 4) rfl <| .cons (k := 5) rfl <| Sub.nil _)) ?_
          first
            | exact ⟨2 * p' + 3 - (c + 1), by omega, c + 1, c, by omega, by omega, rfl, hcn, .inr ⟨hpc, by omega, by rcases hl2 with h | h; (rw [h] at hb'; exact hb'); omega⟩, fun x h1 h2 h3 => by by_cases e : x = c; (rw [e]; exact Int.le_refl _); (have := hl3 x h1 (by omega) h3; omega), rfl⟩
            | exact ⟨2 * p' + 3 - (c + 1), by omega, c + 1, l, by omega, by omega, rfl, hl, hl2, fun x h1 h2 h3 => by by_cases e : x = c; (rw [e]; omega); exact hl3 x h1 (by omega) h3, rfl⟩
      · have hmin : ∀ x, 0 < x → x < n → par x = p' → rk K O' l ≤ rk K O' x := fun x h0 hx hpx => by
          refine hl3 x (by unfold par at hpx; omega) ?_ hx
          rcases Nat.lt_or_ge x c with h | h
          · exact h
          · exfalso
            have hx2 := par_kid h0 hpx
            have h1 : q1 = true := by rw [← hq1]; simp; omega
            rw [h1] at hc
            simp only [Bool.true_and] at hc
            rw [hc] at hq2
            have := of_decide_eq_false hq2
            omega
        clear hc hq1 hq2 hl3
        refine W_exit ?_
        refine W_seq ?_
        refine W_cs (
          .val (y_move rfl rfl) rfl rfl rfl <|
          .val (y_move rfl rfl) rfl rfl rfl <|
          .val (y_eql rfl rfl rfl rfl) rfl rfl rfl <|
          .nil (.cons (k := 0) rfl <| .cons (k := 1) rfl <| .cons (k := 4) rfl <| .cons (k := 52) rfl <| Sub.nil _)) ?_
        refine W_cond rfl (fun hc => ?_) (fun hc => ?_)
        · have hlp : l = p' := by have := of_decide_eq_true hc; omega
          refine W_ret ?_
          refine ⟨_, .nil, P', O', rfl, hP', hO', ?_, hH'⟩
          refine downy_heap hdn fun x h0 hx hpx => ?_
          have := hmin x h0 hx hpx
          rw [hlp] at this
          exact this
        · have hlp : l ≠ p' := by have := of_decide_eq_false hc; omega
          obtain ⟨hlp1, hl0, hllt⟩ := hl2.resolve_left hlp
          refine W_skip ?_
          refine W_rs ?_
          refine WR_val (y_move rfl rfl) rfl rfl rfl ?_
          refine WR_val (y_move rfl rfl) rfl rfl rfl ?_
          refine WR_val (y_move rfl rfl) rfl rfl rfl ?_
          refine WR_callS rfl en_109 rfl rfl rfl rfl rfl (CanS.mono (swap_can _ d K P' O' hP' hO' hN p' l (by omega) (by omega)) (fun _ σ' h => ?_))
          subst h
          refine WR_sub (.cons (k := 0) rfl <| .cons (k := 4) rfl <| Sub.nil _) (WR_nil ?_)
          refine W_chain (
            .val (y_move rfl rfl) rfl rfl rfl <|
            .val (y_assign rfl rfl) rfl rfl rfl <|
            .nil (.cons (k := 0) rfl <| .cons (k := 1) rfl <| Sub.nil _)) ?_
          have hpl := par_lt hl0
          refine ⟨n - l, by omega, placeL P' O' p' l, swapL O' p' l, l, hP'.swap (by omega) (by omega), by rw [swapL_len]; exact hO', ?_, hl, fun i => (held_swap O' p' l (by omega) (by omega) i).trans (hH' i), rfl, rfl⟩
          rw [rk_swap K O' p' l (by omega) (by omega)]
          exact downy_step hdn hl0 hl hlp1 hllt hmin

/-- Both laws of a heap. -/
def HOK (N n : Nat) (K P O : List Int) : Prop := Placed N P O ∧ O.length = n ∧ K.length = N ∧ Heapy (rk K O) n
/-- The keys of the items that are held. -/
def keyAt (K O : List Int) (i : Nat) (k : Int) : Prop := Held O (i : Int) ∧ K.getD i 0 = k

set_option maxRecDepth 10000 in
set_option maxHeartbeats 1000000 in
/-- take(0): the first item goes; its key is 0 then. -/
theorem take_can {N n : Nat} (d : Option Blk) (hd : PureD d) (K P O : List Int) (h : HOK N (n + 1) K P O) (hN : N ≤ 65536) (i : Nat) (hi : O.getD 0 0 = (i : Int)) :
    CanS Tryd.prog 105 [.ptr 1 0, num 0] (hsto false d N (n + 1) K P O) (fun _ σ' => ∃ P' O', σ' = hsto true d N n (K.set i 0) P' O' ∧ HOK N n (K.set i 0) P' O' ∧ ∀ j, Held O' j ↔ Held O j ∧ j ≠ (i : Int)) := by
  obtain ⟨hP, hO, hK, hH⟩ := h
  have hlen := placed_len hP
  have hiN : i < N := by have := (hP.item 0 (by omega)).2.1; rw [hi] at this; omega
  have hPs := hP.swap (p := 0) (q := n) (by omega) (by omega)
  have hg : (swapL O 0 n).getD n 0 = (i : Int) := by rw [swapL_get O 0 n n (by omega) (by omega), if_pos rfl, hi]
  have hPp := hPs.pop (m := n) (by rw [swapL_len]; exact hO)
  rw [hg, Int.toNat_natCast] at hPp
  have hheld : ∀ j, Held ((swapL O 0 n).take n) j ↔ Held O j ∧ j ≠ (i : Int) := fun j => by
    rw [held_pop hPs (by rw [swapL_len]; exact hO) j, hg, held_swap O 0 n (by omega) (by omega)]
  have hOt : ((swapL O 0 n).take n).length = n := by rw [List.length_take, swapL_len]; omega
  have hPll : (placeL P O 0 n).length = N := hPs.len
  -- the ranks of what stays
  have hrk : ∀ x, x < n → x ≠ 0 → rk (K.set i 0) ((swapL O 0 n).take n) x = rk K O x := fun x hx hx0 => by
    unfold rk
    rw [take_get _ _ _ hx, swapL_get O 0 n x (by omega) (by omega), if_neg (by omega), if_neg hx0]
    unfold rank
    have hne : (O.getD x 0).toNat ≠ i := fun e => by
      have h1 := hP.item x (by omega)
      have := hP.inj (p := x) (q := 0) (by omega) (by omega) (by rw [hi]; omega)
      omega
    rw [getD_set _ _ _ _ (by omega), if_neg hne]
  have hloose : Loose (rk (K.set i 0) ((swapL O 0 n).take n)) n 0 := heapy_less hH hrk
  refine canS_of Tryd.func105 rfl Tryd.ntmps105 rfl ?_
  refine W_cs (
    .val (y_move rfl rfl) rfl rfl rfl <|
    .val ((by first | exact y_nilPin rfl rfl | exact y_nilPtr rfl rfl | exact y_nilFunc rfl rfl)) rfl rfl rfl <|
    .val ((by first | exact y_fieldPin rfl fo_131_2 rfl | exact y_fieldPtr rfl fo_131_2 rfl)) rfl rfl rfl <|
    .val ((by first | exact y_loadPin rfl tk_29 rfl rfl | exact y_loadPtr rfl tk_29 rfl rfl rfl)) rfl rfl rfl <|
    .val ((by first | exact y_lenSlice rfl el_29 rfl | exact y_lenOwn rfl el_29 rfl rfl | exact y_lenNil rfl el_29 rfl)) rfl rfl rfl <|
    .val (y_sub rfl rfl rfl ((show (((n + 1 : Nat) : Int)) - 1 = (n : Int) by omega)) (by unfold In64; omega)) rfl rfl rfl <|
    .val (y_assign rfl rfl) rfl rfl rfl <|
    .nil (.cons (k := 0) rfl <| .cons (k := 1) rfl <| .cons (k := 4) rfl <| Sub.nil _)) ?_
  refine W_cs (
    .val (y_move rfl rfl) rfl rfl rfl <|
    .val ((by first | exact y_nilPin rfl rfl | exact y_nilPtr rfl rfl | exact y_nilFunc rfl rfl)) rfl rfl rfl <|
    .val ((by first | exact y_fieldPin rfl fo_131_2 rfl | exact y_fieldPtr rfl fo_131_2 rfl)) rfl rfl rfl <|
    .val ((by first | exact y_loadPin rfl tk_29 rfl rfl | exact y_loadPtr rfl tk_29 rfl rfl rfl)) rfl rfl rfl <|
    .val (y_move rfl rfl) rfl rfl rfl <|
    .val ((by first | exact y_indexSlice (j := 0) rfl el_29 rfl rfl (by omega) (by omega) (by omega) | exact y_indexOwn (j := 0) rfl el_29 rfl rfl rfl (by omega) (by omega) (by omega))) rfl rfl rfl <|
    .val ((by first | exact y_loadPin rfl tk_3 rfl ((ints_get O 0 (by omega)).trans (by rw [hi])) | exact y_loadPtr rfl tk_3 rfl rfl ((ints_get O 0 (by omega)).trans (by rw [hi])))) rfl rfl rfl <|
    .val (y_assign rfl rfl) rfl rfl rfl <|
    .nil (.cons (k := 0) rfl <| .cons (k := 1) rfl <| .cons (k := 4) rfl <| .cons (k := 5) rfl <| Sub.nil _)) ?_
  refine W_rs ?_
  refine WR_val (y_move rfl rfl) rfl rfl rfl ?_
  refine WR_val (y_move rfl rfl) rfl rfl rfl ?_
  refine WR_val (y_move rfl rfl) rfl rfl rfl ?_
  refine WR_callS rfl en_109 rfl rfl rfl rfl rfl (CanS.mono (swap_can false d K P O hP hO hN 0 n (by omega) (by omega)) (fun _ σ' h => ?_))
  subst h
  refine WR_sub (.cons (k := 0) rfl <| .cons (k := 1) rfl <| .cons (k := 4) rfl <| .cons (k := 5) rfl <| Sub.nil _) (WR_nil ?_)
  refine W_rs ?_
  refine WR_val (y_move rfl rfl) rfl rfl rfl ?_
  refine WR_val (y_move rfl rfl) rfl rfl rfl ?_
  refine WR_val ((by first | exact y_nilPin rfl rfl | exact y_nilPtr rfl rfl | exact y_nilFunc rfl rfl)) rfl rfl rfl ?_
  refine WR_val ((by first | exact y_fieldPin rfl fo_131_2 rfl | exact y_fieldPtr rfl fo_131_2 rfl)) rfl rfl rfl ?_
  refine WR_val ((by first | exact y_loadPin rfl tk_29 rfl rfl | exact y_loadPtr rfl tk_29 rfl rfl rfl)) rfl rfl rfl ?_
  refine WR_val (y_move rfl rfl) rfl rfl rfl ?_
  refine WR_loud (l_sliceHiOwn rfl el_29 rfl rfl rfl rfl (by omega)) rfl rfl rfl ?_
  refine WR_val ((by first | exact y_nilPin rfl rfl | exact y_nilPtr rfl rfl | exact y_nilFunc rfl rfl)) rfl rfl rfl ?_
  refine WR_val ((by first | exact y_fieldPin rfl fo_131_2 rfl | exact y_fieldPtr rfl fo_131_2 rfl)) rfl rfl rfl ?_
  refine WR_loud0 ((by first | exact l_store1 rfl tk_29 rfl rfl rfl (Nat.le_of_ble_eq_true rfl) | exact l_storeInts rfl tk_29 rfl rfl rfl (by first | omega | (simp; omega)) | exact l_storeBools rfl tk_29 rfl rfl rfl (by first | omega | (simp; omega)))) rfl rfl ?_
  refine WR_ren [0, 1, 2, 3, 4, 5] (.cons 0 rfl (by first | exact Ren.pure | exact Ren.own (i := 0) rfl | exact Ren.ptr (i := 0) rfl | exact Ren.own (i := 1) rfl | exact Ren.ptr (i := 1) rfl | exact Ren.own (i := 2) rfl | exact Ren.ptr (i := 2) rfl | exact Ren.own (i := 3) rfl | exact Ren.ptr (i := 3) rfl | exact Ren.own (i := 4) rfl | exact Ren.ptr (i := 4) rfl | exact Ren.own (i := 5) rfl | exact Ren.ptr (i := 5) rfl) <| .cons 1 rfl (by first | exact Ren.pure | exact Ren.own (i := 0) rfl | exact Ren.ptr (i := 0) rfl | exact Ren.own (i := 1) rfl | exact Ren.ptr (i := 1) rfl | exact Ren.own (i := 2) rfl | exact Ren.ptr (i := 2) rfl | exact Ren.own (i := 3) rfl | exact Ren.ptr (i := 3) rfl | exact Ren.own (i := 4) rfl | exact Ren.ptr (i := 4) rfl | exact Ren.own (i := 5) rfl | exact Ren.ptr (i := 5) rfl) <| .cons 4 rfl (by first | exact Ren.pure | exact Ren.own (i := 0) rfl | exact Ren.ptr (i := 0) rfl | exact Ren.own (i := 1) rfl | exact Ren.ptr (i := 1) rfl | exact Ren.own (i := 2) rfl | exact Ren.ptr (i := 2) rfl | exact Ren.own (i := 3) rfl | exact Ren.ptr (i := 3) rfl | exact Ren.own (i := 4) rfl | exact Ren.ptr (i := 4) rfl | exact Ren.own (i := 5) rfl | exact Ren.ptr (i := 5) rfl) <| .cons 5 rfl (by first | exact Ren.pure | exact Ren.own (i := 0) rfl | exact Ren.ptr (i := 0) rfl | exact Ren.own (i := 1) rfl | exact Ren.ptr (i := 1) rfl | exact Ren.own (i := 2) rfl | exact Ren.ptr (i := 2) rfl | exact Ren.own (i := 3) rfl | exact Ren.ptr (i := 3) rfl | exact Ren.own (i := 4) rfl | exact Ren.ptr (i := 4) rfl | exact Ren.own (i := 5) rfl | exact Ren.ptr (i := 5) rfl) <| .nil) (.same hd rfl <| .kept rfl (.cells (RenL.cons (by first | exact Ren.pure | exact Ren.own (i := 0) rfl | exact Ren.ptr (i := 0) rfl | exact Ren.own (i := 1) rfl | exact Ren.ptr (i := 1) rfl | exact Ren.own (i := 2) rfl | exact Ren.ptr (i := 2) rfl | exact Ren.own (i := 3) rfl | exact Ren.ptr (i := 3) rfl | exact Ren.own (i := 4) rfl | exact Ren.ptr (i := 4) rfl | exact Ren.own (i := 5) rfl | exact Ren.ptr (i := 5) rfl) <| RenL.cons (by first | exact Ren.pure | exact Ren.own (i := 0) rfl | exact Ren.ptr (i := 0) rfl | exact Ren.own (i := 1) rfl | exact Ren.ptr (i := 1) rfl | exact Ren.own (i := 2) rfl | exact Ren.ptr (i := 2) rfl | exact Ren.own (i := 3) rfl | exact Ren.ptr (i := 3) rfl | exact Ren.own (i := 4) rfl | exact Ren.ptr (i := 4) rfl | exact Ren.own (i := 5) rfl | exact Ren.ptr (i := 5) rfl) <| RenL.cons (by first | exact Ren.pure | exact Ren.own (i := 0) rfl | exact Ren.ptr (i := 0) rfl | exact Ren.own (i := 1) rfl | exact Ren.ptr (i := 1) rfl | exact Ren.own (i := 2) rfl | exact Ren.ptr (i := 2) rfl | exact Ren.own (i := 3) rfl | exact Ren.ptr (i := 3) rfl | exact Ren.own (i := 4) rfl | exact Ren.ptr (i := 4) rfl | exact Ren.own (i := 5) rfl | exact Ren.ptr (i := 5) rfl) <| RenL.nil)) <| .kept rfl (.row RenL.pure) <| .kept rfl (.row RenL.pure) <| .gone <| .kept rfl (.rowP rfl (show (intsP (swapL O 0 n)).take (n * 1) = intsP ((swapL O 0 n).take n) by rw [Nat.mul_one]; unfold intsP; rw [List.map_take])) <| .nil) rfl rfl (WR_nil ?_)
  refine W_dfs 11 8 mixed (
    .val [0] rfl (y_move rfl rfl) rfl rfl <|
    .val [32] rfl ((by first | exact y_nilPin rfl rfl | exact y_nilPtr rfl rfl | exact y_nilFunc rfl rfl)) rfl rfl <|
    .val [33] rfl ((by first | exact y_fieldPin rfl fo_131_1 rfl | exact y_fieldPtr rfl fo_131_1 rfl)) rfl rfl <|
    .val [34] rfl ((by first | exact y_loadPin rfl tk_29 rfl rfl | exact y_loadPtr rfl tk_29 rfl rfl rfl)) rfl rfl <|
    .val [5] rfl (y_move rfl rfl) rfl rfl <|
    .val [0] rfl (y_move rfl rfl) rfl rfl <|
    .val [37] rfl ((by first | exact y_nilPin rfl rfl | exact y_nilPtr rfl rfl | exact y_nilFunc rfl rfl)) rfl rfl <|
    .val [38] rfl ((by first | exact y_fieldPin rfl fo_131_0 rfl | exact y_fieldPtr rfl fo_131_0 rfl)) rfl rfl <|
    .val [39] rfl ((by first | exact y_loadPin rfl tk_29 rfl rfl | exact y_loadPtr rfl tk_29 rfl rfl rfl)) rfl rfl <|
    .late [5] rfl (r_move rfl rfl) inferInstance rfl rfl <|
    .val [35, 36] rfl ((by first | exact y_indexSlice (j := i) rfl el_29 rfl rfl (by omega) (by omega) (by omega) | exact y_indexOwn (j := i) rfl el_29 rfl rfl rfl (by omega) (by omega) (by omega))) rfl rfl <|
    .nil) (by kernel_rfl) rfl rfl (.cons (k := 0) rfl <| .cons (k := 1) rfl <| .cons (k := 4) rfl <| .cons (k := 40) rfl <| .cons (k := 41) rfl <| .cons (k := 42) rfl <| Sub.nil _) ?_
  refine WR_loud0 ((by first | exact l_store1 rfl tk_3 rfl rfl rfl (Nat.le_of_ble_eq_true rfl) | exact l_storeInts rfl tk_3 rfl rfl rfl (by first | omega | (simp; omega)) | exact l_storeBools rfl tk_3 rfl rfl rfl (by first | omega | (simp; omega)))) rfl rfl ?_
  refine WR_val ((by first | exact y_indexSlice (j := i) rfl el_29 rfl rfl (by omega) (by omega) (by omega) | exact y_indexOwn (j := i) rfl el_29 rfl rfl rfl (by omega) (by omega) (by omega))) rfl rfl rfl ?_
  refine WR_loud0 ((by first | exact l_store1 rfl tk_3 rfl rfl rfl (Nat.le_of_ble_eq_true rfl) | exact l_storeInts rfl tk_3 rfl rfl rfl (by first | omega | (simp; omega)) | exact l_storeBools rfl tk_3 rfl rfl rfl (by first | omega | (simp; omega)))) rfl rfl ?_
  refine WR_sub (.cons (k := 0) rfl <| .cons (k := 1) rfl <| .cons (k := 4) rfl <| Sub.nil _) (WR_nil ?_)
  refine W_cs (
    .val (y_move rfl rfl) rfl rfl rfl <|
    .val (y_move rfl rfl) rfl rfl rfl <|
    .val (y_lss rfl rfl rfl rfl) rfl rfl rfl <|
    .nil (.cons (k := 0) rfl <| .cons (k := 1) rfl <| .cons (k := 46) rfl <| Sub.nil _)) ?_
  refine W_cond rfl (fun hc => ?_) (fun hc => ?_)
  · have hn0 : 0 < n := by have := of_decide_eq_true hc; omega
    refine W_region ?_
    refine WR_val (y_move rfl rfl) rfl rfl rfl ?_
    refine WR_val (y_move rfl rfl) rfl rfl rfl ?_
    refine WR_callS rfl en_104 rfl rfl rfl rfl rfl (CanS.mono (settle_can true d (K.set i 0) ((placeL P O 0 n).set i 0) ((swapL O 0 n).take n) hPp hOt (by simpa using hK) hN 0 hn0 hloose) (fun _ σ' h => ?_))
    obtain ⟨P', O', rfl, h1, h2, h3, h4⟩ := h
    refine WR_sub (Sub.nil _) (WR_nil ?_)
    first
      | exact ⟨_, .nil, P', O', rfl, ⟨h1, h2, by simpa using hK, h3⟩, fun j => (h4 j).trans (hheld j)⟩
      | exact ⟨_, .nil, (placeL P O 0 n).set i 0, (swapL O 0 n).take n, rfl, ⟨hPp, hOt, by simpa using hK, fun q h0 hq => by omega⟩, hheld⟩
  · have hn0 : n = 0 := by have := of_decide_eq_false hc; omega
    refine W_skip ?_
    first
      | exact ⟨_, .nil, P', O', rfl, ⟨h1, h2, by simpa using hK, h3⟩, fun j => (h4 j).trans (hheld j)⟩
      | exact ⟨_, .nil, (placeL P O 0 n).set i 0, (swapL O 0 n).take n, rfl, ⟨hPp, hOt, by simpa using hK, fun q h0 hq => by omega⟩, hheld⟩

set_option maxRecDepth 10000 in
set_option maxHeartbeats 1000000 in
theorem key_can {N : Nat} (K P O : List Int) (hP : P.length = N) (hK : K.length = N) (hN : N ≤ 65536) (i : Nat) (hi : i < N) :
    Can Tryd.prog 97 [hpin K P O, num i] (· = .tuple [num (if P.getD i 0 = 0 then 0 else K.getD i 0), flag (!decide (P.getD i 0 = 0))]) := by
  refine can_of Tryd.func97 rfl Tryd.ntmps97 rfl ?_
  refine W_cs (
    .val (y_assign rfl rfl) rfl rfl rfl <|
    .val (y_assign rfl rfl) rfl rfl rfl <|
    .nil (.cons (k := 0) rfl <| .cons (k := 1) rfl <| Sub.nil _)) ?_
  refine W_seq ?_
  obtain ⟨q1, hq1⟩ : ∃ q, decide ((i : Int) < 0) = q := ⟨_, rfl⟩
  obtain ⟨q2, hq2⟩ : ∃ q, decide ((K.length : Int) ≤ (i : Int)) = q := ⟨_, rfl⟩
  obtain ⟨q3, hq3⟩ : ∃ q, decide (P.getD i 0 = 0) = q := ⟨_, rfl⟩
  refine W_csB 30 (.raw (.bool (q1 || q2 || q3))) ?_ ?_
  · refine .val (y_move rfl rfl) rfl rfl rfl <| .val ((by first | exact y_ptrEql rfl pk_114 rfl rfl | exact y_pinEql rfl pk_114 rfl rfl)) rfl rfl rfl <| .val (y_move rfl rfl) rfl rfl rfl <| .val (y_move rfl rfl) rfl rfl rfl <| .val (y_lss rfl rfl rfl (hq1)) rfl rfl rfl <| .val (y_pickF rfl rfl rfl) rfl rfl rfl <| .val (y_move rfl rfl) rfl rfl rfl <| ?_
    cases q1
    · refine .val (y_move rfl rfl) rfl rfl rfl <| .val (y_move rfl rfl) rfl rfl rfl <| .val ((by first | exact y_nilPin rfl rfl | exact y_nilPtr rfl rfl | exact y_nilFunc rfl rfl)) rfl rfl rfl <| .val ((by first | exact y_fieldPin rfl fo_131_0 rfl | exact y_fieldPtr rfl fo_131_0 rfl)) rfl rfl rfl <| .val ((by first | exact y_loadPin rfl tk_29 rfl rfl | exact y_loadPtr rfl tk_29 rfl rfl rfl)) rfl rfl rfl <| .val ((by first | exact y_lenSlice rfl el_29 rfl | exact y_lenOwn rfl el_29 rfl rfl | exact y_lenNil rfl el_29 rfl)) rfl rfl rfl <| .val (y_geq rfl rfl rfl (hq2)) rfl rfl rfl <| .val (y_pickF rfl rfl rfl) rfl rfl rfl <| .val (y_move rfl rfl) rfl rfl rfl <| ?_
      cases q2
      · exact .val (y_move rfl rfl) rfl rfl rfl <| .val ((by first | exact y_nilPin rfl rfl | exact y_nilPtr rfl rfl | exact y_nilFunc rfl rfl)) rfl rfl rfl <| .val ((by first | exact y_fieldPin rfl fo_131_1 rfl | exact y_fieldPtr rfl fo_131_1 rfl)) rfl rfl rfl <| .val ((by first | exact y_loadPin rfl tk_29 rfl rfl | exact y_loadPtr rfl tk_29 rfl rfl rfl)) rfl rfl rfl <| .val (y_move rfl rfl) rfl rfl rfl <| .val ((by first | exact y_indexSlice (j := i) rfl el_29 rfl rfl (by omega) (by omega) (by omega) | exact y_indexOwn (j := i) rfl el_29 rfl rfl rfl (by omega) (by omega) (by omega))) rfl rfl rfl <| .val ((by first | exact y_loadPin rfl tk_3 rfl (ints_get P i (by omega)) | exact y_loadPtr rfl tk_3 rfl rfl (ints_get P i (by omega)))) rfl rfl rfl <| .val (y_eql rfl rfl rfl (hq3)) rfl rfl rfl <| .val (y_pickF rfl rfl rfl) rfl rfl rfl <| .nil (.cons (k := 30) rfl (.skip rfl <| .skip rfl <| .skip rfl <| .skip rfl <| .skip rfl <| .skip rfl <| .skip rfl <| .skip rfl <| .skip rfl <| .skip rfl <| .skip rfl <| .skip rfl <| .skip rfl <| .skip rfl <| .skip rfl <| .skip rfl <| .skip rfl <| .skip rfl <| .skip rfl <| .skip rfl <| .skip rfl <| .skip rfl <| .skip rfl <| .skip rfl <| .skip rfl <| Sub.refl _))
      · exact .skip rfl rfl rfl <| .skip rfl rfl rfl <| .skip rfl rfl rfl <| .skip rfl rfl rfl <| .skip rfl rfl rfl <| .skip rfl rfl rfl <| .skip rfl rfl rfl <| .skip rfl rfl rfl <| .val (y_pickT rfl rfl rfl) rfl rfl rfl <| .nil (.cons (k := 30) rfl (.skip rfl <| .skip rfl <| .skip rfl <| .skip rfl <| .skip rfl <| .skip rfl <| .skip rfl <| .skip rfl <| .skip rfl <| .skip rfl <| .skip rfl <| .skip rfl <| .skip rfl <| .skip rfl <| .skip rfl <| .skip rfl <| .skip rfl <| .skip rfl <| .skip rfl <| .skip rfl <| .skip rfl <| .skip rfl <| .skip rfl <| .skip rfl <| .skip rfl <| Sub.refl _))
    · exact .skip rfl rfl rfl <| .skip rfl rfl rfl <| .skip rfl rfl rfl <| .skip rfl rfl rfl <| .skip rfl rfl rfl <| .skip rfl rfl rfl <| .skip rfl rfl rfl <| .val (y_pickT rfl rfl rfl) rfl rfl rfl <| .val (y_move rfl rfl) rfl rfl rfl <| .skip rfl rfl rfl <| .skip rfl rfl rfl <| .skip rfl rfl rfl <| .skip rfl rfl rfl <| .skip rfl rfl rfl <| .skip rfl rfl rfl <| .skip rfl rfl rfl <| .skip rfl rfl rfl <| .val (y_pickT rfl rfl rfl) rfl rfl rfl <| .nil (.cons (k := 30) rfl (.skip rfl <| .skip rfl <| .skip rfl <| .skip rfl <| .skip rfl <| .skip rfl <| .skip rfl <| .skip rfl <| .skip rfl <| .skip rfl <| .skip rfl <| .skip rfl <| .skip rfl <| .skip rfl <| .skip rfl <| .skip rfl <| .skip rfl <| .skip rfl <| .skip rfl <| .skip rfl <| .skip rfl <| .skip rfl <| .skip rfl <| .skip rfl <| .skip rfl <| Sub.refl _))
  refine W_cond rfl (fun hc => ?_) (fun hc => ?_)
  · have h1 : q1 = false := by rw [← hq1]; simp
    have h2 : q2 = false := by rw [← hq2]; simp; omega
    rw [h1, h2] at hc
    simp only [Bool.false_or] at hc
    rw [hc] at hq3
    refine W_cs (
      .val (y_assign rfl rfl) rfl rfl rfl <|
      .val (y_assign rfl rfl) rfl rfl rfl <|
      .nil (.cons (k := 4) rfl <| .cons (k := 5) rfl <| Sub.nil _)) ?_
    refine W_ret ?_
    refine ⟨_, _, .cons (.tmp rfl) <| .cons (.tmp rfl) <| .nil, Pur.pure, ?_⟩
    rw [hq3]
    first
      | (rw [if_pos (of_decide_eq_true hq3)]; rfl)
      | (rw [if_neg (of_decide_eq_false hq3)]; rfl)
  · have hc3 : q3 = false := by revert hc; cases q3 <;> simp
    rw [hc3] at hq3
    refine W_skip ?_
    refine W_cs (
      .val (y_move rfl rfl) rfl rfl rfl <|
      .val ((by first | exact y_nilPin rfl rfl | exact y_nilPtr rfl rfl | exact y_nilFunc rfl rfl)) rfl rfl rfl <|
      .val ((by first | exact y_fieldPin rfl fo_131_0 rfl | exact y_fieldPtr rfl fo_131_0 rfl)) rfl rfl rfl <|
      .val ((by first | exact y_loadPin rfl tk_29 rfl rfl | exact y_loadPtr rfl tk_29 rfl rfl rfl)) rfl rfl rfl <|
      .val (y_move rfl rfl) rfl rfl rfl <|
      .val ((by first | exact y_indexSlice (j := i) rfl el_29 rfl rfl (by omega) (by omega) (by omega) | exact y_indexOwn (j := i) rfl el_29 rfl rfl rfl (by omega) (by omega) (by omega))) rfl rfl rfl <|
      .val ((by first | exact y_loadPin rfl tk_3 rfl (ints_get K i (by omega)) | exact y_loadPtr rfl tk_3 rfl rfl (ints_get K i (by omega)))) rfl rfl rfl <|
      .val (y_assign rfl rfl) rfl rfl rfl <|
      .val (y_assign rfl rfl) rfl rfl rfl <|
      .nil (.cons (k := 4) rfl <| .cons (k := 5) rfl <| Sub.nil _)) ?_
    refine W_ret ?_
    refine ⟨_, _, .cons (.tmp rfl) <| .cons (.tmp rfl) <| .nil, Pur.pure, ?_⟩
    rw [hq3]
    first
      | (rw [if_pos (of_decide_eq_true hq3)]; rfl)
      | (rw [if_neg (of_decide_eq_false hq3)]; rfl)

set_option maxRecDepth 10000 in
set_option maxHeartbeats 1000000 in
theorem pop_can {N n : Nat} (d : Option Blk) (hd : PureD d) (K P O : List Int) (h : HOK N n K P O) (hN : N ≤ 65536) :
    CanS Tryd.prog 96 [.ptr 1 0] (hsto false d N n K P O) (fun r σ' => (n = 0 ∧ r = .tuple [num 0, num 0, flag false] ∧ σ' = hsto false d N n K P O) ∨
      ∃ (n' i : Nat) (P' O' : List Int), n = n' + 1 ∧ i < N ∧ O.getD 0 0 = (i : Int) ∧ r = .tuple [num i, num (K.getD i 0), flag true] ∧ σ' = hsto true d N n' (K.set i 0) P' O' ∧ HOK N n' (K.set i 0) P' O' ∧ ∀ j, Held O' j ↔ Held O j ∧ j ≠ (i : Int)) := by
  have h' := h
  obtain ⟨hP, hO, hK, hH⟩ := h'
  refine canS_of Tryd.func96 rfl Tryd.ntmps96 rfl ?_
  refine W_cs (
    .val (y_assign rfl rfl) rfl rfl rfl <|
    .val (y_assign rfl rfl) rfl rfl rfl <|
    .val (y_assign rfl rfl) rfl rfl rfl <|
    .nil (.cons (k := 0) rfl <| Sub.nil _)) ?_
  refine W_seq ?_
  obtain ⟨q1, hq1⟩ : ∃ q, decide ((n : Int) = 0) = q := ⟨_, rfl⟩
  refine W_csB 14 (.raw (.bool (q1))) ?_ ?_
  · exact .val (y_move rfl rfl) rfl rfl rfl <| .val ((by first | exact y_ptrEql rfl pk_114 rfl rfl | exact y_pinEql rfl pk_114 rfl rfl)) rfl rfl rfl <| .val (y_move rfl rfl) rfl rfl rfl <| .val (y_move rfl rfl) rfl rfl rfl <| .val ((by first | exact y_nilPin rfl rfl | exact y_nilPtr rfl rfl | exact y_nilFunc rfl rfl)) rfl rfl rfl <| .val ((by first | exact y_fieldPin rfl fo_131_2 rfl | exact y_fieldPtr rfl fo_131_2 rfl)) rfl rfl rfl <| .val ((by first | exact y_loadPin rfl tk_29 rfl rfl | exact y_loadPtr rfl tk_29 rfl rfl rfl)) rfl rfl rfl <| .val ((by first | exact y_lenSlice rfl el_29 rfl | exact y_lenOwn rfl el_29 rfl rfl | exact y_lenNil rfl el_29 rfl)) rfl rfl rfl <| .val (y_eql rfl rfl rfl (hq1)) rfl rfl rfl <| .val (y_pickF rfl rfl rfl) rfl rfl rfl <| .nil (.cons (k := 14) rfl (.skip rfl <| .skip rfl <| .skip rfl <| .skip rfl <| .skip rfl <| .skip rfl <| .skip rfl <| .skip rfl <| .skip rfl <| .skip rfl <| Sub.refl _))
  refine W_cond rfl (fun hc => ?_) (fun hc => ?_)
  · have hn0 : n = 0 := by rw [hc] at hq1; have := of_decide_eq_true hq1; omega
    refine W_cs (
      .val (y_assign rfl rfl) rfl rfl rfl <|
      .val (y_assign rfl rfl) rfl rfl rfl <|
      .val (y_assign rfl rfl) rfl rfl rfl <|
      .nil (.cons (k := 2) rfl <| .cons (k := 3) rfl <| .cons (k := 4) rfl <| Sub.nil _)) ?_
    refine W_ret ?_
    first
      | exact ⟨_, .cons (.tmp rfl) <| .cons (.tmp rfl) <| .cons (.tmp rfl) <| .nil, .inl ⟨hn0, rfl, rfl⟩⟩
      | exact ⟨_, .cons (.tmp rfl) <| .cons (.tmp rfl) <| .cons (.tmp rfl) <| .nil, .inr ⟨n', i, P', O', rfl, hiN, hi, rfl, rfl, h1, h2⟩⟩
  · have hn0 : n ≠ 0 := by rw [hc] at hq1; have := of_decide_eq_false hq1; omega
    obtain ⟨n', rfl⟩ : ∃ n', n = n' + 1 := ⟨n - 1, by omega⟩
    obtain ⟨i, hi, hiN⟩ := placed_lt hP (p := 0) (by omega)
    refine W_skip ?_
    refine W_cs (
      .val (y_move rfl rfl) rfl rfl rfl <|
      .val ((by first | exact y_nilPin rfl rfl | exact y_nilPtr rfl rfl | exact y_nilFunc rfl rfl)) rfl rfl rfl <|
      .val ((by first | exact y_fieldPin rfl fo_131_2 rfl | exact y_fieldPtr rfl fo_131_2 rfl)) rfl rfl rfl <|
      .val ((by first | exact y_loadPin rfl tk_29 rfl rfl | exact y_loadPtr rfl tk_29 rfl rfl rfl)) rfl rfl rfl <|
      .val ((by first | exact y_indexSlice (j := 0) rfl el_29 rfl rfl (by omega) (by omega) (by omega) | exact y_indexOwn (j := 0) rfl el_29 rfl rfl rfl (by omega) (by omega) (by omega))) rfl rfl rfl <|
      .val ((by first | exact y_loadPin rfl tk_3 rfl ((ints_get O 0 (by omega)).trans (by rw [hi])) | exact y_loadPtr rfl tk_3 rfl rfl ((ints_get O 0 (by omega)).trans (by rw [hi])))) rfl rfl rfl <|
      .val (y_assign rfl rfl) rfl rfl rfl <|
      .nil (.cons (k := 0) rfl <| .cons (k := 2) rfl <| Sub.nil _)) ?_
    refine W_cs (
      .val (y_move rfl rfl) rfl rfl rfl <|
      .val ((by first | exact y_nilPin rfl rfl | exact y_nilPtr rfl rfl | exact y_nilFunc rfl rfl)) rfl rfl rfl <|
      .val ((by first | exact y_fieldPin rfl fo_131_0 rfl | exact y_fieldPtr rfl fo_131_0 rfl)) rfl rfl rfl <|
      .val ((by first | exact y_loadPin rfl tk_29 rfl rfl | exact y_loadPtr rfl tk_29 rfl rfl rfl)) rfl rfl rfl <|
      .val (y_move rfl rfl) rfl rfl rfl <|
      .val ((by first | exact y_indexSlice (j := i) rfl el_29 rfl rfl (by omega) (by omega) (by omega) | exact y_indexOwn (j := i) rfl el_29 rfl rfl rfl (by omega) (by omega) (by omega))) rfl rfl rfl <|
      .val ((by first | exact y_loadPin rfl tk_3 rfl (ints_get K i (by omega)) | exact y_loadPtr rfl tk_3 rfl rfl (ints_get K i (by omega)))) rfl rfl rfl <|
      .val (y_assign rfl rfl) rfl rfl rfl <|
      .nil (.cons (k := 0) rfl <| .cons (k := 2) rfl <| .cons (k := 3) rfl <| Sub.nil _)) ?_
    refine W_rs ?_
    refine WR_val (y_move rfl rfl) rfl rfl rfl ?_
    refine WR_callS rfl en_105 rfl rfl rfl rfl rfl (CanS.mono (take_can d hd K P O h hN i hi) (fun _ σ' h => ?_))
    obtain ⟨P', O', rfl, h1, h2⟩ := h
    refine WR_sub (.cons (k := 2) rfl <| .cons (k := 3) rfl <| Sub.nil _) (WR_nil ?_)
    refine W_cs (
      .val (y_move rfl rfl) rfl rfl rfl <|
      .val (y_move rfl rfl) rfl rfl rfl <|
      .val (y_assign rfl rfl) rfl rfl rfl <|
      .val (y_assign rfl rfl) rfl rfl rfl <|
      .val (y_assign rfl rfl) rfl rfl rfl <|
      .nil (.cons (k := 2) rfl <| .cons (k := 3) rfl <| .cons (k := 4) rfl <| Sub.nil _)) ?_
    refine W_ret ?_
    first
      | exact ⟨_, .cons (.tmp rfl) <| .cons (.tmp rfl) <| .cons (.tmp rfl) <| .nil, .inl ⟨hn0, rfl, rfl⟩⟩
      | exact ⟨_, .cons (.tmp rfl) <| .cons (.tmp rfl) <| .cons (.tmp rfl) <| .nil, .inr ⟨n', i, P', O', rfl, hiN, hi, rfl, rfl, h1, h2⟩⟩

theorem place_of {N : Nat} {P O : List Int} (hP : Placed N P O) {i : Nat} (hi : i < N) (h : P.getD i 0 ≠ 0) : ∃ p, p < O.length ∧ O.getD p 0 = (i : Int) ∧ P.getD i 0 = (p : Int) + 1 := by
  rcases hP.place i hi with h0 | ⟨p, hp, he⟩
  · exact absurd h0 h
  · have := (hP.item p hp).2.2
    rw [he, Int.toNat_natCast] at this
    exact ⟨p, hp, he, this⟩
theorem rk_set {N : Nat} {K P O : List Int} (hP : Placed N P O) (hK : K.length = N) {i : Nat} (hi : i < N) (c : Int) {x : Nat} (hx : x < O.length) (hne : O.getD x 0 ≠ (i : Int)) : rk (K.set i c) O x = rk K O x := by
  unfold rk rank
  have h1 := hP.item x hx
  rw [getD_set _ _ _ _ (by omega), if_neg (by omega)]

set_option maxRecDepth 10000 in
set_option maxHeartbeats 1000000 in
theorem set_can {N n : Nat} (d : Option Blk) (hd : PureD d) (K P O : List Int) (h : HOK N n K P O) (hN : N ≤ 65536) (i : Nat) (hi : i < N) (key : Int) :
    CanS Tryd.prog 95 [.ptr 1 0, num i, num key] (hsto false d N n K P O) (fun r σ' => ∃ (b : Bool) (n' : Nat) (P' O' : List Int), σ' = hsto b d N n' (K.set i key) P' O' ∧ HOK N n' (K.set i key) P' O' ∧ ∀ j, Held O' j ↔ Held O j ∨ j = (i : Int)) := by
  obtain ⟨hP, hO, hK, hH⟩ := h
  have hlen := placed_len hP
  have hPl := hP.len
  refine canS_of Tryd.func95 rfl Tryd.ntmps95 rfl ?_
  refine W_cs (
    .val (y_assign rfl rfl) rfl rfl rfl <|
    .nil (.cons (k := 0) rfl <| .cons (k := 1) rfl <| .cons (k := 2) rfl <| Sub.nil _)) ?_
  refine W_seq ?_
  refine W_cs (
    .val (y_move rfl rfl) rfl rfl rfl <|
    .val ((by first | exact y_ptrEql rfl pk_114 rfl rfl | exact y_pinEql rfl pk_114 rfl rfl)) rfl rfl rfl <|
    .nil (.cons (k := 0) rfl <| .cons (k := 1) rfl <| .cons (k := 2) rfl <| .cons (k := 8) rfl <| Sub.nil _)) ?_
  refine W_cond rfl (fun hc => ?_) (fun hc => ?_)
  · cases hc
  · refine W_skip ?_
    refine W_seq ?_
    obtain ⟨q1, hq1⟩ : ∃ q, decide ((i : Int) < 0) = q := ⟨_, rfl⟩
    obtain ⟨q2, hq2⟩ : ∃ q, decide ((N : Int) ≤ (i : Int)) = q := ⟨_, rfl⟩
    refine W_csB 19 (.raw (.bool (q1 || q2))) ?_ ?_
    · refine .val (y_move rfl rfl) rfl rfl rfl <| .val (y_lss rfl rfl rfl (hq1)) rfl rfl rfl <| .val (y_move rfl rfl) rfl rfl rfl <| ?_
      cases q1
      · exact .val (y_move rfl rfl) rfl rfl rfl <| .val (y_move rfl rfl) rfl rfl rfl <| .val ((by first | exact y_nilPin rfl rfl | exact y_nilPtr rfl rfl | exact y_nilFunc rfl rfl)) rfl rfl rfl <| .val ((by first | exact y_fieldPin rfl fo_131_0 rfl | exact y_fieldPtr rfl fo_131_0 rfl)) rfl rfl rfl <| .val ((by first | exact y_loadPin rfl tk_29 rfl rfl | exact y_loadPtr rfl tk_29 rfl rfl rfl)) rfl rfl rfl <| .val ((by first | exact y_lenSlice rfl el_29 rfl | exact y_lenOwn rfl el_29 rfl rfl | exact y_lenNil rfl el_29 rfl)) rfl rfl rfl <| .val (y_geq rfl rfl rfl (hq2)) rfl rfl rfl <| .val (y_pickF rfl rfl rfl) rfl rfl rfl <| .nil (.cons (k := 19) rfl (.skip rfl <| .skip rfl <| .skip rfl <| .skip rfl <| .skip rfl <| .skip rfl <| .skip rfl <| .skip rfl <| .skip rfl <| .skip rfl <| .skip rfl <| Sub.refl _))
      · exact .skip rfl rfl rfl <| .skip rfl rfl rfl <| .skip rfl rfl rfl <| .skip rfl rfl rfl <| .skip rfl rfl rfl <| .skip rfl rfl rfl <| .skip rfl rfl rfl <| .val (y_pickT rfl rfl rfl) rfl rfl rfl <| .nil (.cons (k := 19) rfl (.skip rfl <| .skip rfl <| .skip rfl <| .skip rfl <| .skip rfl <| .skip rfl <| .skip rfl <| .skip rfl <| .skip rfl <| .skip rfl <| .skip rfl <| Sub.refl _))
    refine W_cond rfl (fun hc => ?_) (fun hc => ?_)
    · have h1 : q1 = false := by rw [← hq1]; simp
      have h2 : q2 = false := by rw [← hq2]; simp; omega
      rw [h1, h2] at hc
      cases hc
    · refine W_skip ?_
      refine W_rs ?_
      refine WR_val (y_move rfl rfl) rfl rfl rfl ?_
      refine WR_val ((by first | exact y_nilPin rfl rfl | exact y_nilPtr rfl rfl | exact y_nilFunc rfl rfl)) rfl rfl rfl ?_
      refine WR_val ((by first | exact y_fieldPin rfl fo_131_0 rfl | exact y_fieldPtr rfl fo_131_0 rfl)) rfl rfl rfl ?_
      refine WR_val ((by first | exact y_loadPin rfl tk_29 rfl rfl | exact y_loadPtr rfl tk_29 rfl rfl rfl)) rfl rfl rfl ?_
      refine WR_val (y_move rfl rfl) rfl rfl rfl ?_
      refine WR_val (y_move rfl rfl) rfl rfl rfl ?_
      refine WR_val ((by first | exact y_indexSlice (j := i) rfl el_29 rfl rfl (by omega) (by omega) (by omega) | exact y_indexOwn (j := i) rfl el_29 rfl rfl rfl (by omega) (by omega) (by omega))) rfl rfl rfl ?_
      refine WR_loud0 ((by first | exact l_store1 rfl tk_3 rfl rfl rfl (Nat.le_of_ble_eq_true rfl) | exact l_storeInts rfl tk_3 rfl rfl rfl (by first | omega | (simp; omega)) | exact l_storeBools rfl tk_3 rfl rfl rfl (by first | omega | (simp; omega)))) rfl rfl ?_
      refine WR_sub (.cons (k := 0) rfl <| .cons (k := 1) rfl <| Sub.nil _) (WR_nil ?_)
      refine W_seq ?_
      refine W_cs (
        .val (y_move rfl rfl) rfl rfl rfl <|
        .val ((by first | exact y_nilPin rfl rfl | exact y_nilPtr rfl rfl | exact y_nilFunc rfl rfl)) rfl rfl rfl <|
        .val ((by first | exact y_fieldPin rfl fo_131_1 rfl | exact y_fieldPtr rfl fo_131_1 rfl)) rfl rfl rfl <|
        .val ((by first | exact y_loadPin rfl tk_29 rfl rfl | exact y_loadPtr rfl tk_29 rfl rfl rfl)) rfl rfl rfl <|
        .val (y_move rfl rfl) rfl rfl rfl <|
        .val ((by first | exact y_indexSlice (j := i) rfl el_29 rfl rfl (by omega) (by omega) (by omega) | exact y_indexOwn (j := i) rfl el_29 rfl rfl rfl (by omega) (by omega) (by omega))) rfl rfl rfl <|
        .val ((by first | exact y_loadPin rfl tk_3 rfl (ints_get P i (by omega)) | exact y_loadPtr rfl tk_3 rfl rfl (ints_get P i (by omega)))) rfl rfl rfl <|
        .val (y_eql rfl rfl rfl rfl) rfl rfl rfl <|
        .nil (.cons (k := 0) rfl <| .cons (k := 1) rfl <| .cons (k := 34) rfl <| Sub.nil _)) ?_
      refine W_cond rfl (fun hc => ?_) (fun hc => ?_)
      · have hp0 : P.getD i 0 = 0 := of_decide_eq_true hc
        have hnh := (hP.zero hi).1 hp0
        have hPp := hP.push hi hnh
        have hOl : (O ++ [(i : Int)]).length = n + 1 := by simp [hO]
        rw [hO] at hPp
        have hPi2 : (P.set i ((n : Int) + 1)).getD i 0 = (n : Int) + 1 := by rw [getD_set _ _ _ _ (by omega), if_pos rfl]
        have hlt2 : i < (P.set i ((n : Int) + 1)).length := by simp; omega
        have hsb : ((n : Int) + 1) - 1 = (n : Int) := by omega
        have hnb : n < N := by have := placed_len hPp; simp at this; omega
        have hset := settle_can true d (K.set i key) (P.set i ((n : Int) + 1)) (O ++ [(i : Int)]) hPp hOl (by simpa using hK) hN n (by omega) (heapy_more hH fun q hq => by
          have e : (O ++ [(i : Int)]).getD q 0 = O.getD q 0 := by simp [List.getD_eq_getElem?_getD, List.getElem?_append_left (show q < O.length by omega)]
          have := rk_set hP hK hi key (x := q) (by omega) (fun e => hnh ⟨q, by omega, e⟩)
          unfold rk at this ⊢
          rw [e]; exact this)
        have hfin : ∀ j, Held (O ++ [(i : Int)]) j ↔ Held O j ∨ j = (i : Int) := fun j => (held_push O i j).trans Or.comm
        refine W_rs ?_
        refine WR_val (y_move rfl rfl) rfl rfl rfl ?_
        refine WR_val (y_move rfl rfl) rfl rfl rfl ?_
        refine WR_val ((by first | exact y_nilPin rfl rfl | exact y_nilPtr rfl rfl | exact y_nilFunc rfl rfl)) rfl rfl rfl ?_
        refine WR_val ((by first | exact y_fieldPin rfl fo_131_2 rfl | exact y_fieldPtr rfl fo_131_2 rfl)) rfl rfl rfl ?_
        refine WR_val ((by first | exact y_loadPin rfl tk_29 rfl rfl | exact y_loadPtr rfl tk_29 rfl rfl rfl)) rfl rfl rfl ?_
        refine WR_val (y_move rfl rfl) rfl rfl rfl ?_
        refine WR_val (y_buildSlice (xs := [_]) rfl sl_29 ⟨Nat.le_of_ble_eq_true rfl, Nat.le_of_ble_eq_true rfl⟩ rfl rfl) rfl rfl rfl ?_
        refine WR_loud (l_append rfl rk_29 rfl rfl rfl rfl (by unfold maxLen; omega)) rfl rfl rfl ?_
        refine WR_val ((by first | exact y_nilPin rfl rfl | exact y_nilPtr rfl rfl | exact y_nilFunc rfl rfl)) rfl rfl rfl ?_
        refine WR_val ((by first | exact y_fieldPin rfl fo_131_2 rfl | exact y_fieldPtr rfl fo_131_2 rfl)) rfl rfl rfl ?_
        refine WR_loud0 ((by first | exact l_store1 rfl tk_29 rfl rfl rfl (Nat.le_of_ble_eq_true rfl) | exact l_storeInts rfl tk_29 rfl rfl rfl (by first | omega | (simp; omega)) | exact l_storeBools rfl tk_29 rfl rfl rfl (by first | omega | (simp; omega)))) rfl rfl ?_
        refine WR_ren [0, 1, 2, 3, 4, 5] (.cons 0 rfl (by first | exact Ren.pure | exact Ren.own (i := 0) rfl | exact Ren.ptr (i := 0) rfl | exact Ren.own (i := 1) rfl | exact Ren.ptr (i := 1) rfl | exact Ren.own (i := 2) rfl | exact Ren.ptr (i := 2) rfl | exact Ren.own (i := 3) rfl | exact Ren.ptr (i := 3) rfl | exact Ren.own (i := 4) rfl | exact Ren.ptr (i := 4) rfl | exact Ren.own (i := 5) rfl | exact Ren.ptr (i := 5) rfl) <| .cons 1 rfl (by first | exact Ren.pure | exact Ren.own (i := 0) rfl | exact Ren.ptr (i := 0) rfl | exact Ren.own (i := 1) rfl | exact Ren.ptr (i := 1) rfl | exact Ren.own (i := 2) rfl | exact Ren.ptr (i := 2) rfl | exact Ren.own (i := 3) rfl | exact Ren.ptr (i := 3) rfl | exact Ren.own (i := 4) rfl | exact Ren.ptr (i := 4) rfl | exact Ren.own (i := 5) rfl | exact Ren.ptr (i := 5) rfl) <| .nil) (.same hd rfl <| .kept rfl (.cells (RenL.cons (by first | exact Ren.pure | exact Ren.own (i := 0) rfl | exact Ren.ptr (i := 0) rfl | exact Ren.own (i := 1) rfl | exact Ren.ptr (i := 1) rfl | exact Ren.own (i := 2) rfl | exact Ren.ptr (i := 2) rfl | exact Ren.own (i := 3) rfl | exact Ren.ptr (i := 3) rfl | exact Ren.own (i := 4) rfl | exact Ren.ptr (i := 4) rfl | exact Ren.own (i := 5) rfl | exact Ren.ptr (i := 5) rfl) <| RenL.cons (by first | exact Ren.pure | exact Ren.own (i := 0) rfl | exact Ren.ptr (i := 0) rfl | exact Ren.own (i := 1) rfl | exact Ren.ptr (i := 1) rfl | exact Ren.own (i := 2) rfl | exact Ren.ptr (i := 2) rfl | exact Ren.own (i := 3) rfl | exact Ren.ptr (i := 3) rfl | exact Ren.own (i := 4) rfl | exact Ren.ptr (i := 4) rfl | exact Ren.own (i := 5) rfl | exact Ren.ptr (i := 5) rfl) <| RenL.cons (by first | exact Ren.pure | exact Ren.own (i := 0) rfl | exact Ren.ptr (i := 0) rfl | exact Ren.own (i := 1) rfl | exact Ren.ptr (i := 1) rfl | exact Ren.own (i := 2) rfl | exact Ren.ptr (i := 2) rfl | exact Ren.own (i := 3) rfl | exact Ren.ptr (i := 3) rfl | exact Ren.own (i := 4) rfl | exact Ren.ptr (i := 4) rfl | exact Ren.own (i := 5) rfl | exact Ren.ptr (i := 5) rfl) <| RenL.nil)) <| .kept rfl (.row RenL.pure) <| .kept rfl (.row RenL.pure) <| .gone <| .kept rfl (.rowP rfl (intsP_snoc _ _)) <| .nil) rfl rfl (WR_nil ?_)
        refine W_drawFlt 11 8 mixed (
          .val [0] rfl (y_move rfl rfl) rfl rfl <|
          .val [45] rfl ((by first | exact y_nilPin rfl rfl | exact y_nilPtr rfl rfl | exact y_nilFunc rfl rfl)) rfl rfl <|
          .val [46] rfl ((by first | exact y_fieldPin rfl fo_131_1 rfl | exact y_fieldPtr rfl fo_131_1 rfl)) rfl rfl <|
          .val [47] rfl ((by first | exact y_loadPin rfl tk_29 rfl rfl | exact y_loadPtr rfl tk_29 rfl rfl rfl)) rfl rfl <|
          .val [1] rfl (y_move rfl rfl) rfl rfl <|
          .val [0] rfl (y_move rfl rfl) rfl rfl <|
          .val [50] rfl ((by first | exact y_nilPin rfl rfl | exact y_nilPtr rfl rfl | exact y_nilFunc rfl rfl)) rfl rfl <|
          .val [51] rfl ((by first | exact y_fieldPin rfl fo_131_2 rfl | exact y_fieldPtr rfl fo_131_2 rfl)) rfl rfl <|
          .val [52] rfl ((by first | exact y_loadPin rfl tk_29 rfl rfl | exact y_loadPtr rfl tk_29 rfl rfl rfl)) rfl rfl <|
          .val [53] rfl ((by first | exact y_lenSlice rfl el_29 rfl | exact y_lenOwn rfl el_29 rfl rfl | exact y_lenNil rfl el_29 rfl)) rfl rfl <|
          .val [48, 49] rfl ((by first | exact y_indexSlice (j := i) rfl el_29 rfl rfl (by omega) (by omega) (by omega) | exact y_indexOwn (j := i) rfl el_29 rfl rfl rfl (by omega) (by omega) (by omega))) rfl rfl <|
          .nil) (by kernel_rfl) rfl rfl (.cons (k := 0) rfl <| .cons (k := 1) rfl <| .cons (k := 54) rfl <| .cons (k := 55) rfl <| Sub.nil _) ?_
        refine WR_loud0 ((by first | exact l_store1 rfl tk_3 rfl rfl rfl (Nat.le_of_ble_eq_true rfl) | exact l_storeInts rfl tk_3 rfl rfl rfl (by first | omega | (simp; omega)) | exact l_storeBools rfl tk_3 rfl rfl rfl (by first | omega | (simp; omega)))) rfl rfl ?_
        refine WR_sub (.cons (k := 0) rfl <| .cons (k := 1) rfl <| Sub.nil _) (WR_nil ?_)
        refine W_rs ?_
        refine WR_val (y_move rfl rfl) rfl rfl rfl ?_
        refine WR_val (y_move rfl rfl) rfl rfl rfl ?_
        refine WR_val ((by first | exact y_nilPin rfl rfl | exact y_nilPtr rfl rfl | exact y_nilFunc rfl rfl)) rfl rfl rfl ?_
        refine WR_val ((by first | exact y_fieldPin rfl fo_131_1 rfl | exact y_fieldPtr rfl fo_131_1 rfl)) rfl rfl rfl ?_
        refine WR_val ((by first | exact y_loadPin rfl tk_29 rfl rfl | exact y_loadPtr rfl tk_29 rfl rfl rfl)) rfl rfl rfl ?_
        refine WR_val (y_move rfl rfl) rfl rfl rfl ?_
        refine WR_val ((by first | exact y_indexSlice (j := i) rfl el_29 rfl rfl (by omega) (by omega) (by omega) | exact y_indexOwn (j := i) rfl el_29 rfl rfl rfl (by omega) (by omega) (by omega))) rfl rfl rfl ?_
        refine WR_val ((by first | exact y_loadPin rfl tk_3 rfl ((ints_get _ i hlt2).trans (congrArg (fun z => some (PV.raw (.int .i64 z))) hPi2)) | exact y_loadPtr rfl tk_3 rfl rfl ((ints_get _ i hlt2).trans (congrArg (fun z => some (PV.raw (.int .i64 z))) hPi2)))) rfl rfl rfl ?_
        refine WR_val (y_sub rfl rfl rfl (hsb) (by unfold In64; omega)) rfl rfl rfl ?_
        refine WR_callS rfl en_104 rfl rfl rfl rfl rfl (CanS.mono hset (fun _ σ' h => ?_))
        obtain ⟨P', O', rfl, h1, h2, h3, h4⟩ := h
        refine WR_sub (Sub.nil _) (WR_nil ?_)
        refine W_cs (
          .val (y_assign rfl rfl) rfl rfl rfl <|
          .nil (.cons (k := 6) rfl <| Sub.nil _)) ?_
        refine W_ret ?_
        first
          | exact ⟨_, .cons (.tmp rfl) <| .nil, true, _, P', O', rfl, ⟨h1, h2, by simpa using hK, h3⟩, fun j => (h4 j).trans (hfin j)⟩
          | exact ⟨_, .cons (.tmp rfl) <| .nil, false, _, P', O', rfl, ⟨h1, h2, by simpa using hK, h3⟩, fun j => (h4 j).trans (hfin j)⟩
      · have hp0 : P.getD i 0 ≠ 0 := of_decide_eq_false hc
        obtain ⟨p, hp, hpi, hPi2⟩ := place_of hP hi hp0
        have hlt2 : i < P.length := by omega
        have hsb : ((p : Int) + 1) - 1 = (p : Int) := by omega
        have hset := settle_can false d (K.set i key) P O hP hO (by simpa using hK) hN p (by omega) (heapy_loose hH (fun q hq hqp => rk_set hP hK hi key (x := q) (by omega) (fun e => hqp (hP.inj (by omega) hp (by rw [e, hpi])))) (by omega))
        have hfin : ∀ j, Held O j ↔ Held O j ∨ j = (i : Int) := fun j => ⟨.inl, fun h => h.elim id fun e => ⟨p, hp, by rw [hpi, e]⟩⟩
        refine W_skip ?_
        refine W_rs ?_
        refine WR_val (y_move rfl rfl) rfl rfl rfl ?_
        refine WR_val (y_move rfl rfl) rfl rfl rfl ?_
        refine WR_val ((by first | exact y_nilPin rfl rfl | exact y_nilPtr rfl rfl | exact y_nilFunc rfl rfl)) rfl rfl rfl ?_
        refine WR_val ((by first | exact y_fieldPin rfl fo_131_1 rfl | exact y_fieldPtr rfl fo_131_1 rfl)) rfl rfl rfl ?_
        refine WR_val ((by first | exact y_loadPin rfl tk_29 rfl rfl | exact y_loadPtr rfl tk_29 rfl rfl rfl)) rfl rfl rfl ?_
        refine WR_val (y_move rfl rfl) rfl rfl rfl ?_
        refine WR_val ((by first | exact y_indexSlice (j := i) rfl el_29 rfl rfl (by omega) (by omega) (by omega) | exact y_indexOwn (j := i) rfl el_29 rfl rfl rfl (by omega) (by omega) (by omega))) rfl rfl rfl ?_
        refine WR_val ((by first | exact y_loadPin rfl tk_3 rfl ((ints_get _ i hlt2).trans (congrArg (fun z => some (PV.raw (.int .i64 z))) hPi2)) | exact y_loadPtr rfl tk_3 rfl rfl ((ints_get _ i hlt2).trans (congrArg (fun z => some (PV.raw (.int .i64 z))) hPi2)))) rfl rfl rfl ?_
        refine WR_val (y_sub rfl rfl rfl (hsb) (by unfold In64; omega)) rfl rfl rfl ?_
        refine WR_callS rfl en_104 rfl rfl rfl rfl rfl (CanS.mono hset (fun _ σ' h => ?_))
        obtain ⟨P', O', rfl, h1, h2, h3, h4⟩ := h
        refine WR_sub (Sub.nil _) (WR_nil ?_)
        refine W_cs (
          .val (y_assign rfl rfl) rfl rfl rfl <|
          .nil (.cons (k := 6) rfl <| Sub.nil _)) ?_
        refine W_ret ?_
        first
          | exact ⟨_, .cons (.tmp rfl) <| .nil, true, _, P', O', rfl, ⟨h1, h2, by simpa using hK, h3⟩, fun j => (h4 j).trans (hfin j)⟩
          | exact ⟨_, .cons (.tmp rfl) <| .nil, false, _, P', O', rfl, ⟨h1, h2, by simpa using hK, h3⟩, fun j => (h4 j).trans (hfin j)⟩
end PW
end Go.Proofs.YtkaalpdfppbdeaaDoor
