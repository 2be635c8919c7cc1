/- strings.Builder in its caller's own store, by pure walks; strconv.Itoa of small numbers, strings.Join by the shelf. -/
import Derived.Test.YtkaalpdfppbdeaaDoorPWb
import Derived.Test.YtkaalpdfppbdeaaDoorPWd
import Derived.Test.YtkaalpdfppbdeaaDoorShelf
namespace Go.Proofs.YtkaalpdfppbdeaaDoor
namespace PW
open Go.RowKit Reg Mem

/-- The store of a caller with a builder: its cells, j - 1 blocks that are gone, its bytes. -/
def bst (j : Nat) (u : Bool) (l : List UInt8) : Sto := some (.cells 68 [if u then .ptr 0 0 else .raw (.pointer none), .own j]) :: (List.replicate (j - 1) none ++ [some (.row 5 1 l.length (bytesP l))])
theorem info_bld : ∃ i, Tryd.prog.info? 68 = some i ∧ i.size = 2 := by
  have h : (Tryd.prog.info? 68).map (·.size) = some 2 := by kernel_rfl
  obtain ⟨i, h1, h2⟩ := Option.map_eq_some_iff.1 h
  exact ⟨i, h1, h2⟩
theorem noEscape_run (v : Value) (w : World) : (callFunc 88 #[v]).run Tryd.prog w = .ok (.value v) w := by
  rw [run_callFunc_extern Tryd.func88 (by kernel_rfl) (by kernel_rfl) (by kernel_rfl) (e := Extern.AbiNoEscape.same) (by kernel_rfl), Lib.run_noEscape]
  rfl
theorem byteK_here : byteK Tryd.prog 66 9 = some 5 := by kernel_rfl

set_option maxRecDepth 10000 in
set_option maxHeartbeats 1000000 in
theorem ccheck1 (u : Bool) (l : List UInt8) : CanS Tryd.prog 79 [.ptr 0 0] (bst 1 u l) (fun _ σ' => σ' = bst 1 true l) := by
  obtain ⟨ji, hji, hjs⟩ := info_bld
  refine canS_of Tryd.func79 rfl Tryd.ntmps79 rfl ?_
  cases u
  · refine W_rs ?_
    refine WR_val (y_move rfl rfl) rfl rfl rfl ?_
    refine WR_val (y_nilPtr rfl rfl) rfl rfl rfl ?_
    refine WR_val (y_fieldPtr rfl fo_68_0 rfl) rfl rfl rfl ?_
    refine WR_val (y_loadPtr rfl tk_65 rfl rfl rfl) rfl rfl rfl ?_
    refine WR_val (y_nilEql rfl pk_65 rfl rfl) rfl rfl rfl (WR_nil ?_)
    refine W_condT rfl ?_
    refine W_region ?_
    refine WR_val (y_move rfl rfl) rfl rfl rfl ?_
    refine WR_val (y_move rfl rfl) rfl rfl rfl ?_
    refine WR_val (y_toUnsafe rfl Tryd.underlying65 Tryd.underlying107 hji (by rw [hjs]; decide) rfl rfl (by decide)) rfl rfl rfl ?_
    refine WR_val (y_callSame rfl rfl rfl noEscape_run) rfl rfl rfl ?_
    refine WR_val (y_fromUnsafe rfl Tryd.underlying107 Tryd.underlying65 hji rfl rfl (by kernel_rfl)) rfl rfl rfl ?_
    refine WR_val (y_nilPtr rfl rfl) rfl rfl rfl ?_
    refine WR_val (y_fieldPtr rfl fo_68_0 rfl) rfl rfl rfl ?_
    refine WR_loud0 (l_store1 rfl tk_65 rfl rfl rfl (Nat.le_of_ble_eq_true rfl)) rfl rfl (WR_nil ?_)
    exact ⟨_, .nil, rfl⟩
  · refine W_rs ?_
    refine WR_val (y_move rfl rfl) rfl rfl rfl ?_
    refine WR_val (y_nilPtr rfl rfl) rfl rfl rfl ?_
    refine WR_val (y_fieldPtr rfl fo_68_0 rfl) rfl rfl rfl ?_
    refine WR_val (y_loadPtr rfl tk_65 rfl rfl rfl) rfl rfl rfl ?_
    refine WR_val (y_ptrEql rfl pk_65 rfl rfl) rfl rfl rfl (WR_nil ?_)
    refine W_condF rfl ?_
    refine W_rs ?_
    refine WR_val (y_move rfl rfl) rfl rfl rfl ?_
    refine WR_val (y_nilPtr rfl rfl) rfl rfl rfl ?_
    refine WR_val (y_fieldPtr rfl fo_68_0 rfl) rfl rfl rfl ?_
    refine WR_val (y_loadPtr rfl tk_65 rfl rfl rfl) rfl rfl rfl ?_
    refine WR_val (y_move rfl rfl) rfl rfl rfl ?_
    refine WR_val (y_ptrSame rfl Tryd.underlying65 hji rfl rfl) rfl rfl rfl (WR_nil ?_)
    refine W_condF rfl ?_
    exact W_skip ⟨_, .nil, rfl⟩

set_option maxRecDepth 10000 in
set_option maxHeartbeats 1000000 in
theorem wstr1 (u : Bool) (l : List UInt8) (s : ByteArray) (hn : l.length + s.size ≤ 1000000000) : CanS Tryd.prog 65 [.ptr 0 0, .raw (.string s)] (bst 1 u l) (fun _ σ' => σ' = bst 2 true (l ++ s.data.toList)) := by
  refine canS_of Tryd.func65 rfl Tryd.ntmps65 rfl ?_
  refine W_cs (
    .val (y_assign rfl rfl) rfl rfl rfl <|
    .val (y_assign rfl rfl) rfl rfl rfl <|
    .nil (.cons (k := 0) rfl <| .cons (k := 1) rfl <| Sub.nil _)) ?_
  refine W_rs ?_
  refine WR_val (y_move rfl rfl) rfl rfl rfl ?_
  refine WR_callS rfl en_79 rfl rfl rfl rfl rfl (CanS.mono (ccheck1 u l) (fun _ σ' h => ?_))
  subst h
  refine WR_sub (.cons (k := 0) rfl <| .cons (k := 1) rfl <| Sub.nil _) (WR_nil ?_)
  refine W_rs ?_
  refine WR_val (y_move rfl rfl) rfl rfl rfl ?_
  refine WR_val (y_move rfl rfl) rfl rfl rfl ?_
  refine WR_val ((by first | exact y_nilPin rfl rfl | exact y_nilPtr rfl rfl | exact y_nilFunc rfl rfl)) rfl rfl rfl ?_
  refine WR_val ((by first | exact y_fieldPin rfl fo_68_1 rfl | exact y_fieldPtr rfl fo_68_1 rfl)) rfl rfl rfl ?_
  refine WR_val ((by first | exact y_loadPin rfl tk_66 rfl rfl | exact y_loadPtr rfl tk_66 rfl rfl rfl)) rfl rfl rfl ?_
  refine WR_val (y_move rfl rfl) rfl rfl rfl ?_
  refine WR_loud (l_appendStr rfl byteK_here rfl rfl rfl (by omega)) rfl rfl rfl ?_
  refine WR_val ((by first | exact y_nilPin rfl rfl | exact y_nilPtr rfl rfl | exact y_nilFunc rfl rfl)) rfl rfl rfl ?_
  refine WR_val ((by first | exact y_fieldPin rfl fo_68_1 rfl | exact y_fieldPtr rfl fo_68_1 rfl)) rfl rfl rfl ?_
  refine WR_loud0 ((by first | exact l_store1 rfl tk_66 rfl rfl rfl (Nat.le_of_ble_eq_true rfl) | exact l_storeInts rfl tk_66 rfl rfl rfl (by first | omega | (simp; omega)) | exact l_storeBools rfl tk_66 rfl rfl rfl (by first | omega | (simp; omega)))) rfl rfl ?_
  refine WR_sub (.cons (k := 1) rfl <| Sub.nil _) (WR_nil ?_)
  refine W_cs (
    .val (y_move rfl rfl) rfl rfl rfl <|
    .val (y_lenStr rfl Tryd.underlying9 rfl) rfl rfl rfl <|
    .val (y_assign rfl rfl) rfl rfl rfl <|
    .val (y_assign rfl rfl) rfl rfl rfl <|
    .nil (.cons (k := 4) rfl <| .cons (k := 5) rfl <| Sub.nil _)) ?_
  refine W_ret ?_
  refine ⟨_, .cons (.tmp rfl) <| .cons (.tmp rfl) <| .nil, ?_⟩
  have hl : (l ++ s.data.toList).length = l.length + s.size := by simp
  unfold bst
  rw [hl, ← bytesP_append]
  rfl

set_option maxRecDepth 10000 in
set_option maxHeartbeats 1000000 in
theorem wbyte1 (u : Bool) (l : List UInt8) (c : UInt8) (hn : l.length ≤ 1000000000) : CanS Tryd.prog 67 [.ptr 0 0, .raw (.int .u8 c.toNat)] (bst 1 u l) (fun _ σ' => σ' = bst 2 true (l ++ [c])) := by
  refine canS_of Tryd.func67 rfl Tryd.ntmps67 rfl ?_
  refine W_cs (
    .val (y_assign rfl rfl) rfl rfl rfl <|
    .nil (.cons (k := 0) rfl <| .cons (k := 1) rfl <| Sub.nil _)) ?_
  refine W_rs ?_
  refine WR_val (y_move rfl rfl) rfl rfl rfl ?_
  refine WR_callS rfl en_79 rfl rfl rfl rfl rfl (CanS.mono (ccheck1 u l) (fun _ σ' h => ?_))
  subst h
  refine WR_sub (.cons (k := 0) rfl <| .cons (k := 1) rfl <| Sub.nil _) (WR_nil ?_)
  refine W_rs ?_
  refine WR_val (y_move rfl rfl) rfl rfl rfl ?_
  refine WR_val (y_move rfl rfl) rfl rfl rfl ?_
  refine WR_val ((by first | exact y_nilPin rfl rfl | exact y_nilPtr rfl rfl | exact y_nilFunc rfl rfl)) rfl rfl rfl ?_
  refine WR_val ((by first | exact y_fieldPin rfl fo_68_1 rfl | exact y_fieldPtr rfl fo_68_1 rfl)) rfl rfl rfl ?_
  refine WR_val ((by first | exact y_loadPin rfl tk_66 rfl rfl | exact y_loadPtr rfl tk_66 rfl rfl rfl)) rfl rfl rfl ?_
  refine WR_val (y_move rfl rfl) rfl rfl rfl ?_
  refine WR_val (y_buildSlice (xs := [_]) rfl sl_66 ⟨Nat.le_of_ble_eq_true rfl, Nat.le_of_ble_eq_true rfl⟩ rfl rfl) rfl rfl rfl ?_
  refine WR_loud (l_append rfl rk_66 rfl rfl rfl rfl (by unfold maxLen; omega)) rfl rfl rfl ?_
  refine WR_val ((by first | exact y_nilPin rfl rfl | exact y_nilPtr rfl rfl | exact y_nilFunc rfl rfl)) rfl rfl rfl ?_
  refine WR_val ((by first | exact y_fieldPin rfl fo_68_1 rfl | exact y_fieldPtr rfl fo_68_1 rfl)) rfl rfl rfl ?_
  refine WR_loud0 ((by first | exact l_store1 rfl tk_66 rfl rfl rfl (Nat.le_of_ble_eq_true rfl) | exact l_storeInts rfl tk_66 rfl rfl rfl (by first | omega | (simp; omega)) | exact l_storeBools rfl tk_66 rfl rfl rfl (by first | omega | (simp; omega)))) rfl rfl ?_
  refine WR_sub (Sub.nil _) (WR_nil ?_)
  refine W_cs (
    .val (y_assign rfl rfl) rfl rfl rfl <|
    .nil (.cons (k := 4) rfl <| Sub.nil _)) ?_
  refine W_ret ?_
  refine ⟨_, .cons (.tmp rfl) <| .nil, ?_⟩
  unfold bst
  rw [← bytesP_append]
  simp only [List.length_append, List.length_singleton]
  rfl

set_option maxRecDepth 10000 in
set_option maxHeartbeats 1000000 in
theorem ccheck2 (u : Bool) (l : List UInt8) : CanS Tryd.prog 79 [.ptr 0 0] (bst 2 u l) (fun _ σ' => σ' = bst 2 true l) := by
  obtain ⟨ji, hji, hjs⟩ := info_bld
  refine canS_of Tryd.func79 rfl Tryd.ntmps79 rfl ?_
  cases u
  · refine W_rs ?_
    refine WR_val (y_move rfl rfl) rfl rfl rfl ?_
    refine WR_val (y_nilPtr rfl rfl) rfl rfl rfl ?_
    refine WR_val (y_fieldPtr rfl fo_68_0 rfl) rfl rfl rfl ?_
    refine WR_val (y_loadPtr rfl tk_65 rfl rfl rfl) rfl rfl rfl ?_
    refine WR_val (y_nilEql rfl pk_65 rfl rfl) rfl rfl rfl (WR_nil ?_)
    refine W_condT rfl ?_
    refine W_region ?_
    refine WR_val (y_move rfl rfl) rfl rfl rfl ?_
    refine WR_val (y_move rfl rfl) rfl rfl rfl ?_
    refine WR_val (y_toUnsafe rfl Tryd.underlying65 Tryd.underlying107 hji (by rw [hjs]; decide) rfl rfl (by decide)) rfl rfl rfl ?_
    refine WR_val (y_callSame rfl rfl rfl noEscape_run) rfl rfl rfl ?_
    refine WR_val (y_fromUnsafe rfl Tryd.underlying107 Tryd.underlying65 hji rfl rfl (by kernel_rfl)) rfl rfl rfl ?_
    refine WR_val (y_nilPtr rfl rfl) rfl rfl rfl ?_
    refine WR_val (y_fieldPtr rfl fo_68_0 rfl) rfl rfl rfl ?_
    refine WR_loud0 (l_store1 rfl tk_65 rfl rfl rfl (Nat.le_of_ble_eq_true rfl)) rfl rfl (WR_nil ?_)
    exact ⟨_, .nil, rfl⟩
  · refine W_rs ?_
    refine WR_val (y_move rfl rfl) rfl rfl rfl ?_
    refine WR_val (y_nilPtr rfl rfl) rfl rfl rfl ?_
    refine WR_val (y_fieldPtr rfl fo_68_0 rfl) rfl rfl rfl ?_
    refine WR_val (y_loadPtr rfl tk_65 rfl rfl rfl) rfl rfl rfl ?_
    refine WR_val (y_ptrEql rfl pk_65 rfl rfl) rfl rfl rfl (WR_nil ?_)
    refine W_condF rfl ?_
    refine W_rs ?_
    refine WR_val (y_move rfl rfl) rfl rfl rfl ?_
    refine WR_val (y_nilPtr rfl rfl) rfl rfl rfl ?_
    refine WR_val (y_fieldPtr rfl fo_68_0 rfl) rfl rfl rfl ?_
    refine WR_val (y_loadPtr rfl tk_65 rfl rfl rfl) rfl rfl rfl ?_
    refine WR_val (y_move rfl rfl) rfl rfl rfl ?_
    refine WR_val (y_ptrSame rfl Tryd.underlying65 hji rfl rfl) rfl rfl rfl (WR_nil ?_)
    refine W_condF rfl ?_
    exact W_skip ⟨_, .nil, rfl⟩

set_option maxRecDepth 10000 in
set_option maxHeartbeats 1000000 in
theorem wstr2 (u : Bool) (l : List UInt8) (s : ByteArray) (hn : l.length + s.size ≤ 1000000000) : CanS Tryd.prog 65 [.ptr 0 0, .raw (.string s)] (bst 2 u l) (fun _ σ' => σ' = bst 3 true (l ++ s.data.toList)) := by
  refine canS_of Tryd.func65 rfl Tryd.ntmps65 rfl ?_
  refine W_cs (
    .val (y_assign rfl rfl) rfl rfl rfl <|
    .val (y_assign rfl rfl) rfl rfl rfl <|
    .nil (.cons (k := 0) rfl <| .cons (k := 1) rfl <| Sub.nil _)) ?_
  refine W_rs ?_
  refine WR_val (y_move rfl rfl) rfl rfl rfl ?_
  refine WR_callS rfl en_79 rfl rfl rfl rfl rfl (CanS.mono (ccheck2 u l) (fun _ σ' h => ?_))
  subst h
  refine WR_sub (.cons (k := 0) rfl <| .cons (k := 1) rfl <| Sub.nil _) (WR_nil ?_)
  refine W_rs ?_
  refine WR_val (y_move rfl rfl) rfl rfl rfl ?_
  refine WR_val (y_move rfl rfl) rfl rfl rfl ?_
  refine WR_val ((by first | exact y_nilPin rfl rfl | exact y_nilPtr rfl rfl | exact y_nilFunc rfl rfl)) rfl rfl rfl ?_
  refine WR_val ((by first | exact y_fieldPin rfl fo_68_1 rfl | exact y_fieldPtr rfl fo_68_1 rfl)) rfl rfl rfl ?_
  refine WR_val ((by first | exact y_loadPin rfl tk_66 rfl rfl | exact y_loadPtr rfl tk_66 rfl rfl rfl)) rfl rfl rfl ?_
  refine WR_val (y_move rfl rfl) rfl rfl rfl ?_
  refine WR_loud (l_appendStr rfl byteK_here rfl rfl rfl (by omega)) rfl rfl rfl ?_
  refine WR_val ((by first | exact y_nilPin rfl rfl | exact y_nilPtr rfl rfl | exact y_nilFunc rfl rfl)) rfl rfl rfl ?_
  refine WR_val ((by first | exact y_fieldPin rfl fo_68_1 rfl | exact y_fieldPtr rfl fo_68_1 rfl)) rfl rfl rfl ?_
  refine WR_loud0 ((by first | exact l_store1 rfl tk_66 rfl rfl rfl (Nat.le_of_ble_eq_true rfl) | exact l_storeInts rfl tk_66 rfl rfl rfl (by first | omega | (simp; omega)) | exact l_storeBools rfl tk_66 rfl rfl rfl (by first | omega | (simp; omega)))) rfl rfl ?_
  refine WR_sub (.cons (k := 1) rfl <| Sub.nil _) (WR_nil ?_)
  refine W_cs (
    .val (y_move rfl rfl) rfl rfl rfl <|
    .val (y_lenStr rfl Tryd.underlying9 rfl) rfl rfl rfl <|
    .val (y_assign rfl rfl) rfl rfl rfl <|
    .val (y_assign rfl rfl) rfl rfl rfl <|
    .nil (.cons (k := 4) rfl <| .cons (k := 5) rfl <| Sub.nil _)) ?_
  refine W_ret ?_
  refine ⟨_, .cons (.tmp rfl) <| .cons (.tmp rfl) <| .nil, ?_⟩
  have hl : (l ++ s.data.toList).length = l.length + s.size := by simp
  unfold bst
  rw [hl, ← bytesP_append]
  rfl

set_option maxRecDepth 10000 in
set_option maxHeartbeats 1000000 in
theorem wbyte2 (u : Bool) (l : List UInt8) (c : UInt8) (hn : l.length ≤ 1000000000) : CanS Tryd.prog 67 [.ptr 0 0, .raw (.int .u8 c.toNat)] (bst 2 u l) (fun _ σ' => σ' = bst 3 true (l ++ [c])) := by
  refine canS_of Tryd.func67 rfl Tryd.ntmps67 rfl ?_
  refine W_cs (
    .val (y_assign rfl rfl) rfl rfl rfl <|
    .nil (.cons (k := 0) rfl <| .cons (k := 1) rfl <| Sub.nil _)) ?_
  refine W_rs ?_
  refine WR_val (y_move rfl rfl) rfl rfl rfl ?_
  refine WR_callS rfl en_79 rfl rfl rfl rfl rfl (CanS.mono (ccheck2 u l) (fun _ σ' h => ?_))
  subst h
  refine WR_sub (.cons (k := 0) rfl <| .cons (k := 1) rfl <| Sub.nil _) (WR_nil ?_)
  refine W_rs ?_
  refine WR_val (y_move rfl rfl) rfl rfl rfl ?_
  refine WR_val (y_move rfl rfl) rfl rfl rfl ?_
  refine WR_val ((by first | exact y_nilPin rfl rfl | exact y_nilPtr rfl rfl | exact y_nilFunc rfl rfl)) rfl rfl rfl ?_
  refine WR_val ((by first | exact y_fieldPin rfl fo_68_1 rfl | exact y_fieldPtr rfl fo_68_1 rfl)) rfl rfl rfl ?_
  refine WR_val ((by first | exact y_loadPin rfl tk_66 rfl rfl | exact y_loadPtr rfl tk_66 rfl rfl rfl)) rfl rfl rfl ?_
  refine WR_val (y_move rfl rfl) rfl rfl rfl ?_
  refine WR_val (y_buildSlice (xs := [_]) rfl sl_66 ⟨Nat.le_of_ble_eq_true rfl, Nat.le_of_ble_eq_true rfl⟩ rfl rfl) rfl rfl rfl ?_
  refine WR_loud (l_append rfl rk_66 rfl rfl rfl rfl (by unfold maxLen; omega)) rfl rfl rfl ?_
  refine WR_val ((by first | exact y_nilPin rfl rfl | exact y_nilPtr rfl rfl | exact y_nilFunc rfl rfl)) rfl rfl rfl ?_
  refine WR_val ((by first | exact y_fieldPin rfl fo_68_1 rfl | exact y_fieldPtr rfl fo_68_1 rfl)) rfl rfl rfl ?_
  refine WR_loud0 ((by first | exact l_store1 rfl tk_66 rfl rfl rfl (Nat.le_of_ble_eq_true rfl) | exact l_storeInts rfl tk_66 rfl rfl rfl (by first | omega | (simp; omega)) | exact l_storeBools rfl tk_66 rfl rfl rfl (by first | omega | (simp; omega)))) rfl rfl ?_
  refine WR_sub (Sub.nil _) (WR_nil ?_)
  refine W_cs (
    .val (y_assign rfl rfl) rfl rfl rfl <|
    .nil (.cons (k := 4) rfl <| Sub.nil _)) ?_
  refine W_ret ?_
  refine ⟨_, .cons (.tmp rfl) <| .nil, ?_⟩
  unfold bst
  rw [← bytesP_append]
  simp only [List.length_append, List.length_singleton]
  rfl

set_option maxRecDepth 10000 in
set_option maxHeartbeats 1000000 in
theorem bstring (u : Bool) (l : List UInt8) (hl : 0 < l.length) : CanS Tryd.prog 43 [.ptr 0 0] (bst 1 u l) (fun r _ => r = .raw (.string ⟨l.toArray⟩)) := by
  refine canS_of Tryd.func43 rfl Tryd.ntmps43 rfl ?_
  cases u
  all_goals
    refine W_cs (
      .val (y_assign rfl rfl) rfl rfl rfl <|
      .nil (.cons (k := 0) rfl <| Sub.nil _)) ?_
    refine W_dfs 10 8 mixed (
      .val [0] rfl (y_move rfl rfl) rfl rfl <|
      .val [3] rfl ((by first | exact y_nilPin rfl rfl | exact y_nilPtr rfl rfl | exact y_nilFunc rfl rfl)) rfl rfl <|
      .val [4] rfl ((by first | exact y_fieldPin rfl fo_68_1 rfl | exact y_fieldPtr rfl fo_68_1 rfl)) rfl rfl <|
      .val [5] rfl ((by first | exact y_loadPin rfl tk_66 rfl rfl | exact y_loadPtr rfl tk_66 rfl rfl rfl)) rfl rfl <|
      .val [6] rfl (y_sliceData rfl rfl rfl hl) rfl rfl <|
      .val [0] rfl (y_move rfl rfl) rfl rfl <|
      .val [8] rfl ((by first | exact y_nilPin rfl rfl | exact y_nilPtr rfl rfl | exact y_nilFunc rfl rfl)) rfl rfl <|
      .val [9] rfl ((by first | exact y_fieldPin rfl fo_68_1 rfl | exact y_fieldPtr rfl fo_68_1 rfl)) rfl rfl <|
      .val [10] rfl ((by first | exact y_loadPin rfl tk_66 rfl rfl | exact y_loadPtr rfl tk_66 rfl rfl rfl)) rfl rfl <|
      .val [11] rfl ((by first | exact y_lenSlice rfl el_66 rfl | exact y_lenOwn rfl el_66 rfl rfl | exact y_lenNil rfl el_66 rfl)) rfl rfl <|
      .nil) (by kernel_rfl) rfl rfl (.cons (k := 7) rfl <| .cons (k := 12) rfl <| Sub.nil _) ?_
    refine WR_loud (l_unsafeStr rfl Tryd.underlying94 (by kernel_rfl) rfl rfl rfl hl) rfl rfl rfl ?_
    refine WR_val (y_assign rfl rfl) rfl rfl rfl ?_
    refine WR_sub (.cons (k := 2) rfl <| Sub.nil _) (WR_nil ?_)
    refine W_ret ?_
    exact ⟨_, .cons (.tmp rfl) <| .nil, rfl⟩

/-- The texts of the digits. -/
def strV (l : List UInt8) : PV := .raw (.string ⟨l.toArray⟩)
theorem itoa_small (i : Nat) (hi : i < 100) : Can Tryd.prog 40 [num i] (· = strV (Lib.decDigits i)) := fun F w vs _ hR => by
  obtain ⟨v, rfl, h1⟩ := args1 hR
  cases rep_raw h1
  refine (Tryd.strconv_Itoa_small i hi w).mono ?_
  rintro e w' ⟨rfl, rfl⟩
  exact ⟨_, rfl, Ext.refl _, _, rfl, .raw _⟩
def strsP (L : List (List UInt8)) : List PV := L.map strV
def strsV (L : List (List UInt8)) : PV := .slice L.length (strsP L)
instance (l : List UInt8) : IsPure (strV l) := by unfold strV; infer_instance
instance (l : List UInt8) : IsOne (strV l) := by unfold strV; infer_instance
instance (L : List (List UInt8)) : IsPureL (strsP L) := IsPureL.map _ _ fun _ => inferInstance
instance (L : List (List UInt8)) : IsOneL (strsP L) := IsOneL.map _ _ fun _ => inferInstance
instance (L : List (List UInt8)) : IsPure (strsV L) := by unfold strsV; infer_instance
theorem join_can (L : List (List UInt8)) (sep : List UInt8) (hLl : L.length ≤ 1000000) (hlen : (Lib.join L sep).length ≤ 140737488355328) : Can Tryd.prog 66 [strsV L, strV sep] (· = strV (Lib.join L sep)) := fun F w vs _ hR => by
  obtain ⟨v, u, rfl, h1, h2⟩ := args2 hR
  cases rep_raw h2
  have hmap : (L.map fun l => (⟨l.toArray⟩ : ByteArray)).map (·.data.toList) = L := by simp [Function.comp_def]
  unfold strsV at h1
  generalize hn : L.length = n at h1
  generalize hys : strsP L = ys at h1
  have none_case : ∀ (a : Option Addr) (c : Nat), L = [] → Calls Tryd.prog 66 #[.slice a 0 c, .string ⟨sep.toArray⟩] w (Ret (fun x w' => ∃ r, r = strV (Lib.join L sep) ∧ Rep (EF F) w' x r) w) := fun a c hL => by
    subst hL
    refine (Tryd.strings_Join_none a c ⟨sep.toArray⟩ w).mono ?_
    rintro e w' ⟨rfl, rfl⟩
    exact ⟨_, rfl, Ext.refl _, _, rfl, .raw _⟩
  cases h1 with
  | nils => exact none_case none 0 (List.eq_nil_of_length_eq_zero hn)
  | empty a c hc => exact none_case (some a) c (List.eq_nil_of_length_eq_zero hn)
  | slice b off _ c cs _ h0 h1 h2 hb hM hc hl hr =>
    have hcell : ∀ (j : Nat) x, (L.map fun l => (⟨l.toArray⟩ : ByteArray))[j]? = some x → w.cell? ⟨b, off + j, none⟩ = some (.string x) := fun j x hx => by
      simp only [List.getElem?_map, Option.map_eq_some_iff] at hx
      obtain ⟨l, hl1, rfl⟩ := hx
      have hj : j < cs.length := by rw [hl, ← hys]; simp [strsP]; exact (List.getElem?_eq_some_iff.1 hl1).1
      have h3 := hr j cs[j] (strV l) (by simp [hj]) (by simp [← hys, strsP, hl1])
      have h4 : cs[j] = .string ⟨l.toArray⟩ := rep_raw h3
      exact hc j _ (by simp [hj, h4])
    have h5 := Tryd.strings_Join b off c (L.map fun l => (⟨l.toArray⟩ : ByteArray)) ⟨sep.toArray⟩ w hcell hb (by simp only [List.length_map]; omega) (by simpa [hn] using h1) (by rw [hmap]; exact hlen)
    rw [hmap, List.length_map, hn] at h5
    refine h5.mono ?_
    rintro e w' ⟨rfl, hB⟩
    exact ⟨_, rfl, ⟨hB.os, hB.tape, hB.output, hB.size, hB.block⟩, _, rfl, .raw _⟩
end PW
end Go.Proofs.YtkaalpdfppbdeaaDoor
