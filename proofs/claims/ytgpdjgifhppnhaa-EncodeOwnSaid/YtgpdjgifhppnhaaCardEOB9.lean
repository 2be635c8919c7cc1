/- Texts of the proof, part 9. -/
import Derived.MapKept
import Derived.Scope
import Derived.Lib.SliceRun
import Derived.ChangeKeysEq
import Derived.Test.YtgpdjgifhppnhaaCardEOB8
/- Texts of segments with small numbers: the reference of layers 9 and 18. -/
namespace Go.Proofs.Ytgpdjgifhppnhaa
set_option linter.unusedVariables false
set_option linter.unusedSimpArgs false
namespace PW
open Go.RowKit Reg Mem Net

abbrev strB (l : List UInt8) : PV := .raw (.string ⟨l.toArray⟩)
theorem bytes_no (a b : UInt8) : ((⟨#[a, b]⟩ : ByteArray).toList == (⟨#[]⟩ : ByteArray).toList) = false := by
  have h : ∀ (ba : ByteArray) i r, ByteArray.toList.loop ba i r = if i < ba.size then ByteArray.toList.loop ba (i + 1) (ba.get! i :: r) else r.reverse := fun ba i r => by rw [ByteArray.toList.loop]
  have h2 : (⟨#[]⟩ : ByteArray).toList = [] := by
    unfold ByteArray.toList
    rw [h, if_neg (by show ¬ 0 < 0; omega)]
    rfl
  have h3 : (⟨#[a, b]⟩ : ByteArray).toList = [a, b] := by
    unfold ByteArray.toList
    rw [h, if_pos (by show 0 < 2; omega), h, if_pos (by show 1 < 2; omega), h, if_neg (by show ¬ 2 < 2; omega)]
    rfl
  rw [h2, h3]
  rfl
theorem cat_bytes (a b : List UInt8) : (⟨a.toArray⟩ : ByteArray) ++ ⟨b.toArray⟩ = ⟨(a ++ b).toArray⟩ := by
  apply ByteArray.ext
  simp
theorem y_catB {P : Program} {σ : Sto} {t : Tms} {o : Oper} {x y : Operand} {ty tz : TypeId} {a b : List UInt8} (ho : o.op = .binOp .add ty x y tz) (hx : evalO t x = some (strB a)) (hy : evalO t y = some (strB b)) (hn : a.length + b.length ≤ 1000000) : Yield P σ t o (strB (a ++ b)) :=
  y_cat ho hx hy (cat_bytes a b) (by show a.toArray.size + b.toArray.size ≤ _; simp; omega)
theorem y_oneByte {P : Program} {σ : Sto} {t : Tms} {o : Oper} {src dst e : TypeId} {x : Operand} {c : UInt8} (ho : o.op = .convert src dst x) (hs : P.underlying src = some (.slice e)) (hd : P.underlying dst = some .string) (he : P.underlying e = some (.int .u8)) (hx : evalO t x = some (.slice 1 [.raw (.int .u8 c.toNat)])) : Yield P σ t o (strB [c]) := by
  intro F base E ρ w hρ _ hT
  have h1 := evalO_rep hρ hT hx
  generalize hz : ρ x = z at h1
  cases h1 with
  | slice b off _ cap cs _ h0 h1 h2 hb hM hc hl hr =>
    match cs, hl, hc, hr with
    | [v], _, hc, hr =>
      have hv := rep_raw (hr 0 v _ rfl rfl)
      subst hv
      have hlc := run_loadCellsFrom (P := P) ⟨b, off, none⟩ rfl [.int .u8 c.toNat] 0 #[] w (fun j x hx => by rw [Nat.zero_add]; exact hc j x hx)
      have hrun : (convert src dst (.slice (some ⟨b, off, none⟩) 1 cap)).run P w = .ok (.string ⟨[c].toArray⟩) w := by
        simp only [convert, Sem.run_bind, run_underlying hs, run_underlying hd, run_underlying he, Result.andThen_ok, Conv.bytesToString, loadCells]
        rw [show (1 : Nat) = [Value.int .u8 c.toNat].length from rfl, hlc]
        simp
        rfl
      simp only [execOp, ho, hz, Sem.run_bind, hrun]
      exact upon_val (.raw _)
theorem y_addU {P : Program} {σ : Sto} {t : Tms} {o : Oper} {x y : Operand} {ty tz : TypeId} {a b c : Int} (ho : o.op = .binOp .add ty x y tz) (hx : evalO t x = some (.raw (.int .u64 a))) (hy : evalO t y = some (.raw (.int .u64 b))) (hc : IntKind.u64.wrap (a + b) = c) : Yield P σ t o (.raw (.int .u64 c)) :=
  y_int ho hx hy fun w => by simp [binOp, Op.intArith, hc]
def dig (n : Nat) : UInt8 := UInt8.ofNat (48 + n)
theorem dig_nat {n : Nat} (h : n < 10) : (dig n).toNat = 48 + n := by unfold dig; rw [UInt8.toNat_ofNat']; omega
set_option maxRecDepth 10000 in
set_option maxHeartbeats 1000000 in
theorem digits_can (n : Nat) (hn : n < 10) : Can Try.prog 82 [.raw (.int .u64 n)] (· = strB [dig n]) := by
  refine can_of Try.func82 rfl Try.ntmps82 rfl ?_
  refine W_cs (.a 1 rfl <| .k [0] rfl) ?_
  refine W_seq ?_
  refine W_cs (.a 1 rfl <| .v (y_lss rfl rfl rfl rfl) rfl <| .k [0, 4] rfl) ?_
  refine W_cond rfl (fun hc => ?_) (fun hc => ?_)
  · refine W_cs (.a 1 rfl <| .v (y_addU (c := ((dig n).toNat : Int)) rfl rfl rfl (by rw [IntKind.wrap_u64, dig_nat hn]; omega)) rfl <| .v (y_conv rfl Try.underlying97 Try.underlying5 rfl (u8_wrap _ (by rw [dig_nat hn]; omega))) rfl <| .a 1 rfl <| .v (y_oneByte rfl Try.underlying109 Try.underlying9 Try.underlying5 rfl) rfl <| .a 1 rfl <| .k [2] rfl) ?_
    refine W_ret ?_
    exact ⟨_, _, ResL.of rfl, Pur.pure, rfl⟩
  · exact absurd (ff hc) (by omega)
set_option maxRecDepth 10000 in
set_option maxHeartbeats 1000000 in
theorem number_can (n : Nat) (hn : n < 10) : Can Try.prog 70 [num n] (· = strB [dig n]) := by
  refine can_of Try.func70 rfl Try.ntmps70 rfl ?_
  refine W_cs (.a 1 rfl <| .k [0] rfl) ?_
  refine W_seq ?_
  refine W_cs (.a 2 rfl <| .k [0, 4] rfl) ?_
  refine W_cond rfl (fun hc => ?_) (fun hc => ?_)
  · exact absurd (tt hc) (by omega)
  · refine W_skip ?_
    refine W_cs (.a 1 rfl <| .v (y_conv (c := (n : Int)) rfl Try.underlying3 Try.underlying97 rfl (by rw [IntKind.wrap_u64]; omega)) rfl <| .c rfl (digits_can n hn) rfl <| .a 1 rfl <| .k [2] rfl) ?_
    refine W_ret ?_
    exact ⟨_, _, ResL.of rfl, Pur.pure, rfl⟩
theorem y_build5 {P : Program} {σ : Sto} {t : Tms} {o : Oper} {ty : TypeId} {v0 v1 v2 v3 v4 : Value} (ho : o.op = .build ty #[(0, .const v0), (1, .const v1), (2, .const v2), (3, .const v3), (4, .const v4)]) (hb : P.built ty [(0, v0), (1, v1), (2, v2), (3, v3), (4, v4)] = some #[v0, v1, v2, v3, v4]) : Yield P σ t o (.agg [.raw v0, .raw v1, .raw v2, .raw v3, .raw v4]) := by
  intro F base E ρ w hρ hS hT
  have hrun := run_build (P := P) w ty #[(0, v0), (1, v1), (2, v2), (3, v3), (4, v4)] #[v0, v1, v2, v3, v4] hb
  have hr : (execOp ρ o).run P w = .ok (.value (.agg #[v0, v1, v2, v3, v4])) w := by
    simp only [execOp, ho, Sem.run_bind, List.map_toArray, List.map_cons, List.map_nil, hρ.const, hrun, Result.andThen_ok, Sem.run_pure]
  rw [hr]
  refine upon_val (.agg #[v0, v1, v2, v3, v4] _ rfl (fun i x u k1 k2 => ?_))
  match i, k1, k2 with
  | 0, k1, k2 => simp at k1 k2; subst k1; subst k2; exact .raw _
  | 1, k1, k2 => simp at k1 k2; subst k1; subst k2; exact .raw _
  | 2, k1, k2 => simp at k1 k2; subst k1; subst k2; exact .raw _
  | 3, k1, k2 => simp at k1 k2; subst k1; subst k2; exact .raw _
  | 4, k1, k2 => simp at k1 k2; subst k1; subst k2; exact .raw _
  | _ + 5, k1, k2 => simp at k2
abbrev kindP : List PV := [strB [], strB [110], strB [97], strB [103], strB [98]]
set_option maxRecDepth 10000 in
set_option maxHeartbeats 1000000 in
theorem stext_can (n : Nat) (hn : n < 10) : Can Try.prog 50 [segV ⟨1, n⟩] (· = strB [110, dig n]) := by
  obtain ⟨q1, hq1⟩ : ∃ q, decide ((n : Int) < 0) = q := ⟨_, rfl⟩
  obtain ⟨q2, hq2⟩ : ∃ q, decide ((999999999 : Int) < (n : Int)) = q := ⟨_, rfl⟩
  refine can_of Try.func50 rfl Try.ntmps50 rfl ?_
  refine W_cs (.a 2 rfl <| .k [1] rfl) ?_
  refine W_seq ?_
  refine W_csK 21 (.raw (.bool (q1 || q2))) [1] rfl ?_ ?_
  · refine .a 11 rfl <| .v (y_q rfl (hq1)) rfl <| .a 2 rfl <| ?_
    cases q1
    · exact .a 2 rfl <| .v (y_q rfl (hq2)) rfl <| .a 1 rfl <| .k [21, 1] rfl
    · exact .a 4 rfl <| .k [21, 1] rfl
  refine W_cond rfl (fun hc => ?_) (fun hc => ?_)
  · have e1 : q1 = false := by rw [← hq1]; exact decide_eq_false (by omega)
    have e2 : q2 = false := by rw [← hq2]; exact decide_eq_false (by omega)
    rw [e1, e2] at hc
    cases hc
  · refine W_skip ?_
    refine W_rs ?_
    refine WR_v (y_build5 rfl (by kernel_rfl)) rfl <| WR_a 2 rfl <| WR_k [1, 3] rfl ?_
    refine W_sto (σ' := [some (.cells 84 kindP)]) rfl ?_
    refine W_sealPtr 3 0 0 rfl rfl ?_
    refine W_ren [] (.cons 1 rfl Ren.pure <| .cons 3 rfl (Ren.pure (p := .pin kindP 0)) .nil) .nil rfl rfl ?_
    refine W_drs mixed (by kernel_rfl) (.a 2 rfl <| .v [3, 24] (y_ix (1) rfl (show (0 : Int) ≤ 1 by decide) (show (1 : Int) < 5 by decide) rfl) rfl rfl <| .v [25] (y_ld rfl ((show kindP[1]? = some (strB [110]) from rfl))) rfl rfl <| .a 2 rfl <| .v [28] (y_c rfl (number_can n hn)) rfl rfl <| .v [26, 29] (y_catB rfl rfl rfl (by simp)) rfl rfl <| .a 1 rfl <| .k [2] rfl) ?_
    refine W_ret ?_
    exact ⟨_, _, ResL.of rfl, Pur.pure, rfl⟩
/-- The text of a list of node segments. -/
def txtL : List Nat → List UInt8
  | [] => []
  | n :: l => [110, dig n] ++ (if l = [] then [] else 32 :: txtL l)
def txtK (l : List Nat) (k : Nat) : List UInt8 := ((List.range k).flatMap fun i => (if 0 < i then [32] else []) ++ [110, dig (l.getD i 0)])
theorem txtK_step (l : List Nat) (k : Nat) : txtK l (k + 1) = txtK l k ++ ((if 0 < k then [32] else []) ++ [110, dig (l.getD k 0)]) := by
  unfold txtK
  rw [List.range_succ, List.flatMap_append]
  simp
theorem txtK_len (l : List Nat) (k : Nat) : (txtK l k).length ≤ 3 * k := by
  induction k with
  | zero => simp [txtK]
  | succ k ih => rw [txtK_step]; simp only [List.length_append]; split <;> simp <;> omega
def nodeS (l : List Nat) : List Seg := l.map fun (n : Nat) => (⟨1, (n : Int)⟩ : Seg)
set_option maxRecDepth 10000 in
set_option maxHeartbeats 1000000 in
theorem tlist_can (l : List Nat) (hl : ∀ n ∈ l, n < 10) (hll : l.length ≤ 1000) : Can Try.prog 26 [segsV (nodeS l)] (· = strB (txtK l l.length)) := by
  have hsl : (nodeS l).length = l.length := by simp [nodeS]
  refine can_of Try.func26 rfl Try.ntmps26 rfl ?_
  refine W_cs (.a 1 rfl <| .k [0] rfl) ?_
  refine W_cs (.a 1 rfl <| .k [0, 3] rfl) ?_
  refine W_seq ?_
  refine W_cs (.a 1 rfl <| .k [0, 3, 4] rfl) ?_
  refine W_block ?_
  refine W_k [0, 3, 4] rfl ?_
  refine W_loop (fun r st => ∃ k : Nat, k ≤ l.length ∧ r = l.length - k ∧ st = ⟨[(0, segsV (nodeS l)), (3, strB (txtK l k)), (4, num k)], []⟩) l.length ⟨0, by omega, by omega, rfl⟩ ?_
  rintro r st ⟨k, hk, rfl, rfl⟩
  have htl := txtK_len l k
  refine W_seq ?_
  refine W_cs (.a 4 rfl <| .k [0, 3, 4, 8] rfl) ?_
  refine W_cond rfl (fun h1 => ?_) (fun h1 => ?_)
  · have hlt : k < l.length := by have := tt h1; omega
    have hg : (nodeS l)[k]? = some ⟨1, ((l.getD k 0 : Nat) : Int)⟩ := by simp [nodeS, hlt]
    have h10 := hl _ (getD_mem (d := 0) hlt)
    have hst := txtK_step l k
    refine W_skip ?_
    refine W_seq ?_
    refine W_block ?_
    refine W_seq ?_
    refine W_cs (.a 2 rfl <| .v (y_ix ((k * 2)) rfl) rfl <| .v (y_la rfl (segs_drop _ k _ hg) rfl) rfl <| .c rfl (stext_can _ h10) rfl <| .v (y_strEql (q := false) rfl rfl rfl (bytes_no _ _)) rfl <| .k [0, 3, 4, 16] rfl) ?_
    refine W_cond rfl (fun hc => ?_) (fun hc => ?_)
    · cases hc
    · refine W_skip ?_
      refine W_seq ?_
      refine W_cs (.a 2 rfl <| .k [0, 3, 4, 18] rfl) ?_
      refine W_cond rfl (fun h2 => ?_) (fun h2 => ?_)
      · have h3 : 0 < k := by have := tt h2; omega
        rw [if_pos h3] at hst
        refine W_chain (.a 1 rfl <| .v (y_catB (b := [32]) rfl rfl rfl (by simp; omega)) rfl <| .a 1 rfl <| .k [0, 3, 4] rfl) ?_
        refine W_chain (.a 3 rfl <| .v (y_ix ((k * 2)) rfl) rfl <| .v (y_la rfl (segs_drop _ k _ hg) rfl) rfl <| .c rfl (stext_can _ h10) rfl <| .v (y_catB rfl rfl rfl (by simp; omega)) rfl <| .a 1 rfl <| .k [0, 3, 4] rfl) ?_
        refine W_chain (.a 1 rfl <| .v (y_ar rfl) rfl <| .a 1 rfl <| .k [0, 3, 4] rfl) ?_
        refine ⟨l.length - (k + 1), by omega, k + 1, by omega, rfl, ?_⟩
        rw [hst]
        first
          | rfl
          | (rw [← List.append_assoc]; rfl)
          | (rw [List.nil_append]; rfl)
      · have h3 : ¬ 0 < k := by have := ff h2; omega
        rw [if_neg h3] at hst
        refine W_skip ?_
        refine W_chain (.a 3 rfl <| .v (y_ix ((k * 2)) rfl) rfl <| .v (y_la rfl (segs_drop _ k _ hg) rfl) rfl <| .c rfl (stext_can _ h10) rfl <| .v (y_catB rfl rfl rfl (by simp; omega)) rfl <| .a 1 rfl <| .k [0, 3, 4] rfl) ?_
        refine W_chain (.a 1 rfl <| .v (y_ar rfl) rfl <| .a 1 rfl <| .k [0, 3, 4] rfl) ?_
        refine ⟨l.length - (k + 1), by omega, k + 1, by omega, rfl, ?_⟩
        rw [hst]
        first
          | rfl
          | (rw [← List.append_assoc]; rfl)
          | (rw [List.nil_append]; rfl)
  · have hke : k = l.length := by have := ff h1; omega
    subst hke
    refine W_exit ?_
    refine W_cs (.a 2 rfl <| .k [2] rfl) ?_
    refine W_ret ?_
    exact ⟨_, _, ResL.of rfl, Pur.pure, rfl⟩
end PW
end Go.Proofs.Ytgpdjgifhppnhaa

/- Pure walks: maps of the call's own. No program in sight. -/
namespace Go.Proofs.Ytgpdjgifhppnhaa
set_option linter.unusedVariables false
set_option linter.unusedSimpArgs false
namespace PW
open Go.RowKit Reg Mem

/-- Keys: by what the machine compares them. -/
structure MapKey (P : Program) (kt : TypeId) {κ : Type} [DecidableEq κ] (enc : κ → Value) : Prop where
  chk : ∀ e a w, (Instr.checkKey e 10000 kt (enc a)).run P w = .ok () w
  eql : ∀ a b w, (Op.equal kt (enc a) (enc b)).run P w = .ok (decide (a = b)) w
  now : ∃ d, P.underlying kt = some d ∧ ((∀ a b, Instr.sameNow d (enc a) (enc b) = some (decide (a = b))) ∨ ∀ a b, Instr.sameNow d (enc a) (enc b) = none)
  bits : ∀ a, Instr.sameBits 10000 (enc a) (enc a) = true
section
variable {P : Program} {kt : TypeId} {κ : Type} [DecidableEq κ] {enc : κ → Value}
/-- Where a key stands. -/
def findI (k : κ) : List κ → Nat → Option Nat
  | [], _ => none
  | a :: l, i => if k = a then some i else findI k l (i + 1)
def atI (es : List MapEntry) (i : Nat) : Option (Nat × Value) := (es[i]?).map fun e => (i, e.val)
theorem findI_ge {k : κ} : ∀ {l : List κ} {i j : Nat}, findI k l i = some j → i ≤ j ∧ l[j - i]? = some k
  | [], i, j, h => by cases h
  | a :: l, i, j, h => by
    simp only [findI] at h
    split at h
    · rename_i he; cases h; subst he; simp
    · obtain ⟨h1, h2⟩ := findI_ge h
      refine ⟨by omega, ?_⟩
      rw [show j - i = (j - (i + 1)) + 1 by omega]
      simpa using h2
theorem now_find {d : TypeDesc} (hn : ∀ a b, Instr.sameNow d (enc a) (enc b) = some (decide (a = b))) (k : κ) : ∀ (ks : List κ) (es : List MapEntry) (i : Nat), es.map (·.key) = ks.map enc →
    Instr.findNow d (enc k) es i = some ((findI k ks i).bind fun j => (es[j - i]?).map fun e => (j, e.val))
  | [], [], i, _ => rfl
  | [], _ :: _, i, h => by simp at h
  | _ :: _, [], i, h => by simp at h
  | a :: ks, e :: es, i, h => by
    simp only [List.map_cons, List.cons.injEq] at h
    simp only [Instr.findNow, h.1, hn, findI]
    by_cases hk : k = a
    · rw [decide_eq_true hk, if_pos hk]; simp
    · rw [decide_eq_false hk, if_neg hk]
      simp only [now_find hn k ks es (i + 1) h.2]
      congr 1
      cases hf : findI k ks (i + 1) with
      | none => rfl
      | some j =>
        obtain ⟨h1, _⟩ := findI_ge hf
        simp only [Option.bind_some]
        rw [show j - i = (j - (i + 1)) + 1 by omega]
        simp
theorem ask_find (hk : MapKey P kt enc) (k : κ) (w : World) : ∀ (ks : List κ) (es : List MapEntry) (i : Nat), es.map (·.key) = ks.map enc →
    (Instr.findAsking kt (enc k) es i).run P w = .ok ((findI k ks i).bind fun j => (es[j - i]?).map fun e => (j, e.val)) w
  | [], [], i, _ => rfl
  | [], _ :: _, i, h => by simp at h
  | _ :: _, [], i, h => by simp at h
  | a :: ks, e :: es, i, h => by
    simp only [List.map_cons, List.cons.injEq] at h
    simp only [Instr.findAsking, Sem.run_bind, h.1, hk.eql, Result.andThen_ok, findI]
    by_cases hka : k = a
    · rw [if_pos (by simpa using hka), if_pos hka]; simp
    · rw [if_neg (by simpa using hka), if_neg hka, ask_find hk k w ks es (i + 1) h.2]
      congr 1
      cases hf : findI k ks (i + 1) with
      | none => rfl
      | some j =>
        obtain ⟨h1, _⟩ := findI_ge hf
        simp only [Option.bind_some]
        rw [show j - i = (j - (i + 1)) + 1 by omega]
        simp
theorem run_find (hk : MapKey P kt enc) (k : κ) (w : World) (ks : List κ) (es : List MapEntry) (h : es.map (·.key) = ks.map enc) : (Instr.findKey kt (enc k) es).run P w = .ok ((findI k ks 0).bind fun j => (es[j]?).map fun e => (j, e.val)) w := by
  obtain ⟨d, hd, hn | hn⟩ := hk.now
  · have := now_find hn k ks es 0 h
    simp only [Instr.findKey, Sem.run_bind, run_underlying hd, Result.andThen_ok, this]
    simp
  · have ha := ask_find hk k w ks es 0 h
    simp only [Instr.findKey, Sem.run_bind, run_underlying hd, Result.andThen_ok]
    cases es with
    | nil =>
      have : ks = [] := by cases ks with | nil => rfl | cons => simp at h
      subst this
      rfl
    | cons e es =>
      cases ks with
      | nil => simp at h
      | cons a ks =>
        simp only [List.map_cons, List.cons.injEq] at h
        have h0 : Instr.findNow d (enc k) (e :: es) 0 = none := by simp only [Instr.findNow, h.1, hn]
        rw [h0]
        simpa using ha
/-- A map's content: keys and plain values. -/
def encM (enc : κ → Value) (l : List (κ × PV)) : List (Value × PV) := l.map fun x => (enc x.1, x.2)
def lookM (k : κ) : List (κ × PV) → Option PV
  | [] => none
  | (a, p) :: l => if k = a then some p else lookM k l
def setM (k : κ) (p : PV) : List (κ × PV) → List (κ × PV)
  | [] => [(k, p)]
  | (a, q) :: l => if k = a then (a, p) :: l else (a, q) :: setM k p l
theorem lookM_find {k : κ} {l : List (κ × PV)} : lookM k l = (findI k (l.map (·.1)) 0).bind fun j => (l[j]?).map (·.2) := by
  suffices h : ∀ (i : Nat), lookM k l = (findI k (l.map (·.1)) i).bind fun j => (l[j - i]?).map (·.2) by simpa using h 0
  induction l with
  | nil => intro i; rfl
  | cons x l ih =>
    intro i
    obtain ⟨a, p⟩ := x
    simp only [lookM, List.map_cons, findI]
    split
    · simp
    · rw [ih (i + 1)]
      cases hf : findI k (l.map (·.1)) (i + 1) with
      | none => rfl
      | some j =>
        obtain ⟨h1, _⟩ := findI_ge hf
        simp only [Option.bind_some]
        rw [show j - i = (j - (i + 1)) + 1 by omega]
        simp
theorem setM_find {k : κ} {p : PV} {l : List (κ × PV)} : setM k p l = match findI k (l.map (·.1)) 0 with | some j => l.set j (k, p) | none => l ++ [(k, p)] := by
  suffices h : ∀ (i : Nat), setM k p l = match findI k (l.map (·.1)) i with | some j => l.set (j - i) (k, p) | none => l ++ [(k, p)] by simpa using h 0
  induction l with
  | nil => intro i; rfl
  | cons x l ih =>
    intro i
    obtain ⟨a, q⟩ := x
    simp only [setM, List.map_cons, findI]
    split
    · rename_i he; subst he; simp
    · rw [ih (i + 1)]
      cases hf : findI k (l.map (·.1)) (i + 1) with
      | none => rfl
      | some j =>
        obtain ⟨h1, _⟩ := findI_ge hf
        simp only
        rw [show j - i = (j - (i + 1)) + 1 by omega]
        simp
theorem mem_setM {k : κ} {p : PV} {l : List (κ × PV)} {x : κ × PV} (h : x ∈ setM k p l) : x = (k, p) ∨ x ∈ l := by
  induction l with
  | nil => simpa [setM] using h
  | cons y l ih =>
    obtain ⟨a, q⟩ := y
    simp only [setM] at h
    split at h
    · rename_i he
      subst he
      cases h with
      | head => exact .inl rfl
      | tail _ h => exact .inr (List.mem_cons_of_mem _ h)
    · cases h with
      | head => exact .inr (List.mem_cons_self ..)
      | tail _ h =>
        rcases ih h with h | h
        · exact .inl h
        · exact .inr (List.mem_cons_of_mem _ h)
theorem lookM_mem {k : κ} {p : PV} {l : List (κ × PV)} (h : lookM k l = some p) : (k, p) ∈ l := by
  induction l with
  | nil => cases h
  | cons y l ih =>
    obtain ⟨a, q⟩ := y
    simp only [lookM] at h
    split at h
    · rename_i he; subst he; cases h; exact List.mem_cons_self ..
    · exact List.mem_cons_of_mem _ (ih h)
/-- What stands for a key. -/
def KeyIs (p : PV) (v : Value) : Prop := ∀ E w u, Rep E w u p → u = v
theorem keyRaw (v : Value) : KeyIs (.raw v) v := fun _ _ _ h => by cases h; rfl
theorem keyAgg2 (a b : Value) : KeyIs (.agg [.raw a, .raw b]) (.agg #[a, b]) := fun E w u h => by
  cases h with
  | agg cs _ hl hr =>
    obtain ⟨l⟩ := cs
    match l, hl, hr with
    | [x, y], _, hr =>
      have h0 := hr 0 x _ rfl rfl
      have h1 := hr 1 y _ rfl rfl
      cases h0; cases h1; rfl
    | [], hl, _ => simp at hl
    | [_], hl, _ => simp at hl
    | _ :: _ :: _ :: _, hl, _ => simp at hl
def mapK (P : Program) (mt : TypeId) : Option (TypeId × TypeId) := match P.underlying mt with | some (.map k e) => some (k, e) | _ => none
theorem mapK_spec {mt kt et : TypeId} (h : mapK P mt = some (kt, et)) : P.underlying mt = some (.map kt et) := by
  unfold mapK at h
  split at h
  · rename_i hu; cases h; exact hu
  · cases h
def zvK (P : Program) (t : TypeId) : Option Value := match P.info? t with | some i => i.zero | none => none
theorem run_zero {et : TypeId} {z : Value} (h : zvK P et = some z) (w : World) : (zeroValue et).run P w = .ok z w := by
  unfold zvK at h
  split at h
  · rename_i i hi; simp [zeroValue, typeInfo, hi, h]
  · cases h
variable {σ : Sto} {t : Tms} {o : Oper}
theorem look_core (hK : MapKey P kt enc) {F : Nat → Prop} {base : Nat} {E : Env} {w : World} {i mt et : Nat} {l : List (κ × PV)} {v z : Value} (hS : Sat F base σ E w) (hm : mapK P mt = some (kt, et)) (hz : zvK P et = some z) (hv : Rep E w v (.own i)) (hi : σ[i]? = some (some (.mp (encM enc l)))) (k : κ) (ok : Bool) :
    ∃ u, (Instr.lookup mt v (enc k) ok).run P w = .ok (if ok then .tuple #[u, .bool (lookM k l).isSome] else u) w ∧ Rep E w u ((lookM k l).getD (.raw z)) := by
  cases hv with
  | own _ hiL _ hat _ =>
    obtain ⟨r, es, ck, hr, hb, hheap, hkey, hval⟩ := hS.blk i _ hi
    rw [hat] at hr
    subst hr
    have hkey' : es.toList.map (·.key) = (l.map (·.1)).map enc := by rw [hkey]; simp [encM]
    have hf := run_find hK k w (l.map (·.1)) es.toList hkey'
    have hvl : (encM enc l).map (·.2) = l.map (·.2) := by simp [encM]
    rw [hvl] at hval
    have hlk := lookM_find (k := k) (l := l)
    cases hfi : findI k (l.map (·.1)) 0 with
    | none =>
      rw [hfi] at hf hlk
      simp only [Option.bind_none] at hf hlk
      refine ⟨z, ?_, by rw [hlk]; exact .raw z⟩
      simp only [Instr.lookup, Sem.run_bind, run_underlying (mapK_spec hm), Result.andThen_ok, MapKept.run_getObj_map hheap, Sem.run_pure, hK.chk, hf, run_zero hz, hlk]
      rfl
    | some j =>
      obtain ⟨_, hj⟩ := findI_ge hfi
      simp only [Nat.sub_zero] at hj
      have hjl : j < l.length := by have := (List.getElem?_eq_some_iff.1 hj).1; simpa using this
      have hje : j < es.toList.length := by have := congrArg List.length hkey'; simp at this; rw [Array.length_toList]; omega
      rw [hfi] at hf hlk
      simp only [Option.bind_some, List.getElem?_eq_getElem hje, List.getElem?_eq_getElem hjl, Option.map_some] at hf hlk
      refine ⟨es.toList[j].val, ?_, ?_⟩
      · simp only [Instr.lookup, Sem.run_bind, run_underlying (mapK_spec hm), Result.andThen_ok, MapKept.run_getObj_map hheap, Sem.run_pure, hK.chk, hf, hlk]
        rfl
      · rw [hlk]
        exact hval.2 j _ _ (by rw [List.getElem?_map, List.getElem?_eq_getElem hje]; rfl) (by simp [hjl])
theorem y_look (hK : MapKey P kt enc) {i mt et : Nat} {x ix : Operand} {l : List (κ × PV)} {z : Value} {k : κ} {pk r : PV} (ho : o.op = .lookup mt x ix false) (hm : mapK P mt = some (kt, et)) (hz : zvK P et = some z) (hx : evalO t x = some (.own i)) (hi : σ[i]? = some (some (.mp (encM enc l)))) (hp : evalO t ix = some pk) (hk : KeyIs pk (enc k)) (hr : (lookM k l).getD (.raw z) = r) : Yield P σ t o r := by
  intro F base E ρ w hρ hS hT
  have h1 := evalO_rep hρ hT hx
  have h2 := hk _ _ _ (evalO_rep hρ hT hp)
  obtain ⟨u, hu, hR⟩ := look_core hK hS hm hz h1 hi k false
  simp only [execOp, ho, h2, Sem.run_bind, hu, Result.andThen_ok, Sem.run_pure, Bool.false_eq_true, if_false]
  exact upon_val (by rw [← hr]; exact hR)
theorem y_look2 (hK : MapKey P kt enc) {i mt et : Nat} {x ix : Operand} {l : List (κ × PV)} {z : Value} {k : κ} {pk r : PV} {q : Bool} (ho : o.op = .lookup mt x ix true) (hm : mapK P mt = some (kt, et)) (hz : zvK P et = some z) (hx : evalO t x = some (.own i)) (hi : σ[i]? = some (some (.mp (encM enc l)))) (hp : evalO t ix = some pk) (hk : KeyIs pk (enc k)) (hr : (lookM k l).getD (.raw z) = r) (hq : (lookM k l).isSome = q) : Yield P σ t o (.tuple [r, .raw (.bool q)]) := by
  intro F base E ρ w hρ hS hT
  have h1 := evalO_rep hρ hT hx
  have h2 := hk _ _ _ (evalO_rep hρ hT hp)
  obtain ⟨u, hu, hR⟩ := look_core hK hS hm hz h1 hi k true
  simp only [execOp, ho, h2, Sem.run_bind, hu, Result.andThen_ok, Sem.run_pure, if_true]
  refine upon_val (.tuple #[u, .bool (lookM k l).isSome] _ rfl fun i x p k1 k2 => ?_)
  match i, k1, k2 with
  | 0, k1, k2 => cases k1; cases k2; rw [← hr]; exact hR
  | 1, k1, k2 => cases k1; cases k2; rw [hq]; exact .raw _
  | _ + 2, _, k2 => simp at k2
theorem set_getElem? {α : Type} (a : Array α) (i j : Nat) (v : α) : (a.setIfInBounds i v)[j]? = if i = j ∧ i < a.size then some v else a[j]? := by
  rw [Array.getElem?_setIfInBounds]
  by_cases h : i = j
  · subst h
    by_cases h2 : i < a.size
    · simp [h2]
    · simp [h2]
  · simp [h]
/-- A key gets a value. -/
theorem l_mapSet (hK : MapKey P kt enc) {i mt et : Nat} {x ix y : Operand} {l : List (κ × PV)} {k : κ} {pk p : PV} (ho : o.op = .mapUpdate mt x ix y) (hm : mapK P mt = some (kt, et)) (hx : evalO t x = some (.own i)) (hi : σ[i]? = some (some (.mp (encM enc l)))) (hp : evalO t ix = some pk) (hk : KeyIs pk (enc k)) (hy : evalO t y = some p) :
    Loud P σ t o (.raw undef) (σ.set i (some (.mp (encM enc (setM k p l))))) := by
  intro F base E ρ w hρ hS hT
  have h1 := evalO_rep hρ hT hx
  have h2 := hk _ _ _ (evalO_rep hρ hT hp)
  have h3 := evalO_rep hρ hT hy
  generalize hz : ρ x = v at h1
  cases h1 with
  | own _ hiL _ hat _ =>
    obtain ⟨r, es, ck, hr, hb, hheap, hkey, hval⟩ := hS.blk i _ hi
    have hbk : blockOf (E.at_ i) = some r := by rw [hr]; rfl
    have hsz : r < w.heap.size := (Array.getElem?_eq_some_iff.1 hheap).1
    rw [hat] at hr
    subst hr
    have hkey' : es.toList.map (·.key) = (l.map (·.1)).map enc := by rw [hkey]; simp [encM]
    have hf := run_find hK k w (l.map (·.1)) es.toList hkey'
    have hvl : (encM enc l).map (·.2) = l.map (·.2) := by simp [encM]
    rw [hvl] at hval
    have fin : ∀ (es' : Array MapEntry) (ck' : Nat), (Instr.mapUpdate mt (.map (some r)) (enc k) (ρ y)).run P w = .ok () { w with heap := w.heap.setIfInBounds r (.map es' ck') } →
        es'.toList.map (·.key) = (setM k p l).map (fun a => enc a.1) → RepL E w (es'.toList.map (·.val)) ((setM k p l).map (·.2)) →
        ∃ v w' E', ((execOp ρ o).run P w = .ok (.value v) w' ∨ (v = undef ∧ (execOp ρ o).run P w = .ok .skip w')) ∧ Sat F base (σ.set i (some (.mp (encM enc (setM k p l))))) E' w' ∧ Goes E w E' w' ∧ Below base w w' ∧ Rep E' w' v (.raw undef) := fun es' ck' hrun hk' hv' => by
      have oth : ∀ j, j < w.heap.size → j ≠ r → ({ w with heap := w.heap.setIfInBounds r (.map es' ck') } : World).heap[j]? = w.heap[j]? := fun j _ hj => by
        show (w.heap.setIfInBounds r (.map es' ck'))[j]? = _
        rw [set_getElem?, if_neg (by rintro ⟨rfl, _⟩; exact hj rfl)]
      have hs' : w.heap.size ≤ ({ w with heap := w.heap.setIfInBounds r (.map es' ck') } : World).heap.size := by simp
      have hrM : E.M r := (hS.mm r).2 (.inr ⟨i, _, hi, hbk⟩)
      have g : Goes E w E { w with heap := w.heap.setIfInBounds r (.map es' ck') } := ⟨Nat.le_refl _, fun _ _ => rfl, fun _ _ h => h, hs', fun j hj hM => oth j hj (fun e => hM (by rw [e]; exact hrM))⟩
      have hn := hS.turn (bi' := .mp (encM enc (setM k p l))) hi hbk hs' oth ⟨r, es', ck', hat, hb, by
          show (w.heap.setIfInBounds r (.map es' ck'))[r]? = _
          rw [set_getElem?, if_pos ⟨rfl, hsz⟩], by rw [hk']; simp [encM], by
          have : (encM enc (setM k p l)).map (·.2) = (setM k p l).map (·.2) := by simp [encM]
          rw [this]; exact hv'.goes g⟩
      refine ⟨undef, _, E, .inr ⟨rfl, ?_⟩, hn.1, hn.2, ⟨rfl, rfl, rfl, hs', fun j hj => oth j (Nat.lt_of_lt_of_le hj hS.bl) (by omega)⟩, .raw _⟩
      simp only [execOp, ho, hz, h2, Sem.run_bind, hrun, Result.andThen_ok, Sem.run_pure]
    have hsm := setM_find (k := k) (p := p) (l := l)
    cases hfi : findI k (l.map (·.1)) 0 with
    | none =>
      rw [hfi] at hf hsm
      simp only [Option.bind_none] at hf hsm
      refine fin (es.push { key := enc k, val := ρ y, born := ck }) (ck + 1) ?_ ?_ ?_
      · simp only [Instr.mapUpdate, Sem.run_bind, run_underlying (mapK_spec hm), Result.andThen_ok, MapKept.run_getObj_map hheap, hK.chk, hf, MapKept.run_setObj_map _ hheap]
      · rw [hsm]; simp [hkey', List.map_map, Function.comp_def]
      · rw [hsm]
        simp only [Array.toList_push, List.map_append, List.map_cons, List.map_nil]
        exact hval.append (RepL.cons h3 (RepL.nil _ _))
    | some j =>
      obtain ⟨_, hj⟩ := findI_ge hfi
      simp only [Nat.sub_zero] at hj
      have hjl : j < l.length := by have := (List.getElem?_eq_some_iff.1 hj).1; simpa using this
      have hje : j < es.toList.length := by have := congrArg List.length hkey'; simp at this; rw [Array.length_toList]; omega
      have hje' : j < es.size := by simpa using hje
      have hlj : l[j].1 = k := by have := List.getElem?_eq_some_iff.1 hj; obtain ⟨h, e⟩ := this; simpa using e
      have hkj : es[j].key = enc k := by
        have := congrArg (·[j]?) hkey'
        simp only [List.getElem?_map, List.getElem?_eq_getElem hje, List.getElem?_eq_getElem hjl, Option.map_some, Option.some.injEq, hlj] at this
        simpa using this
      rw [hfi] at hf hsm
      simp only [Option.bind_some, List.getElem?_eq_getElem hje, Option.map_some] at hf hsm
      refine fin (es.modify j fun e => { e with key := enc k, val := ρ y }) ck ?_ ?_ ?_
      · have hks : (Instr.keyThatStays ((Option.map (fun x => x.key) es[j]?).getD (enc k)) (enc k)).run P w = .ok (enc k) w := by
          rw [Array.getElem?_eq_getElem hje', Option.map_some, Option.getD_some, hkj]
          simp only [Instr.keyThatStays, hK.bits, if_true, Sem.run_pure]
        simp only [Instr.mapUpdate, Sem.run_bind, run_underlying (mapK_spec hm), Result.andThen_ok, MapKept.run_getObj_map hheap, hK.chk, hf, hks, MapKept.run_setObj_map _ hheap]
      · rw [hsm]
        refine List.ext_getElem? fun n => ?_
        simp only [List.getElem?_map, Array.getElem?_toList, Array.getElem?_modify, List.getElem?_set]
        by_cases hn : j = n
        · subst hn
          simp [hje', hjl]
        · have := congrArg (·[n]?) hkey'
          simp only [List.getElem?_map, Array.getElem?_toList] at this
          simp only [if_neg hn, this, Option.map_map, Function.comp_def]
      · rw [hsm]
        have hR := hval.set j h3
        have e1 : (es.modify j fun e => { e with key := enc k, val := ρ y }).toList.map (·.val) = (es.toList.map (·.val)).set j (ρ y) := by
          refine List.ext_getElem? fun n => ?_
          simp only [List.getElem?_map, Array.getElem?_toList, Array.getElem?_modify, List.getElem?_set]
          by_cases hn : j = n
          · subst hn
            simp [hje']
          · simp only [if_neg hn]
        have e2 : (l.set j (k, p)).map (·.2) = (l.map (·.2)).set j p := by rw [List.map_set]
        rw [e1, e2]
        exact hR
omit [DecidableEq κ] in
/-- A new map. -/
theorem l_makeMap {mt : TypeId} (enc : κ → Value) (ho : o.op = .makeMap mt none) : Loud P σ t o (.own σ.length) (σ ++ [some (.mp (encM enc ([] : List (κ × PV))))]) := by
  intro F base E ρ w hρ hS hT
  have hr : (execOp ρ o).run P w = .ok (.value (.map (some w.heap.size))) (w.alloc (.map #[] 0)) := by
    simp [execOp, ho, Instr.makeMap]
  have hE : Ext w (w.alloc (.map #[] 0)) := (Ext.refl w).alloc _
  have hp := hS.push hE (v := .map (some w.heap.size)) (blk := .mp (encM enc ([] : List (κ × PV)))) (fun b h => by simp [blockOf] at h; omega) ⟨w.heap.size, #[], 0, rfl, hS.bl, heap_alloc_new _ _, rfl, RepL.nil _ _⟩
  exact ⟨_, _, _, .inl hr, hp.1, hp.2, Below.ofExt hE hS.bl, .own σ.length (by simp [Env.push, hS.len]) _ (by simp [Env.push, hS.len]) rfl⟩
end
section
variable {P : Program} {σ : Sto} {t : Tms} {o : Oper} {N L : Nat}
/-- Labels that nothing jumps to. -/
def noGo (Q : Exit → St → Prop) : Exit → St → Prop
  | .goto _, _ => False
  | e, s => Q e s
theorem W_scope {c : Code} {st : St} {Q : Exit → St → Prop} (h : W P N L c st (noGo Q)) : W P N L (.scope c) st Q := fun F base E₀ w₀ E a w hc hs => by
  refine wp_scope_straight (wp_mono (h F base E₀ w₀ E a w hc hs) ?_)
  rintro e a' w' ⟨s, E', h1, h2⟩
  cases e with
  | goto l => exact h1.elim
  | normal => exact ⟨s, E', h1, h2⟩
  | exit _ => exact ⟨s, E', h1, h2⟩
  | ret => exact ⟨s, E', h1, h2⟩
  | panic _ => exact ⟨s, E', h1, h2⟩
  | outgrown => exact ⟨s, E', h1, h2⟩
theorem W_label {l : Nat} {st : St} {Q : Exit → St → Prop} (h : Q .normal st) : W P N L (.label l) st Q := fun _ _ _ _ E _ _ hc hs => wp_label ⟨st, E, h, hs, hc.g, hc.b⟩
/-- An extraction, late in a region whose order is drawn. -/
theorem r_extract {x : Operand} {k : Nat} {xs : List PV} {p : PV} (ho : o.op = .extract x k) (hx : evalO t x = some (.tuple xs)) (hp : xs[k]? = some p) : YieldR P t o p := fun E ρ w hρ hT => by
  have h1 := evalO_rep hρ hT hx
  generalize hz : ρ x = z at h1
  cases h1 with
  | tuple cs _ hl hr =>
    obtain ⟨c, hcc, hcr⟩ := RepL.get (E := E) (w := w) (cs := cs.toList) ⟨by simpa using hl, fun i x u h1 h2 => hr i x u (by simpa using h1) h2⟩ hp
    have hcc' : cs[k]? = some c := by simpa using hcc
    exact ⟨c, fun w' => by simp only [execOp, ho, hz, Instr.extract, hcc', Sem.run_bind, Sem.run_pure, Result.andThen_ok], hcr⟩
/-- The smaller, the greater of two numbers. -/
theorem y_min {x y : Operand} {ats : Array TypeId} {a b c : Int} (ho : o.op = .call { callee := .builtin .min, args := #[x, y], argTypes := ats }) (hx : evalO t x = some (.raw (.int .i64 a))) (hy : evalO t y = some (.raw (.int .i64 b))) (hc : min a b = c) : Yield P σ t o (.raw (.int .i64 c)) := by
  intro F base E ρ w hρ _ hT
  have h1 := evalO_rep hρ hT hx
  have h2 := evalO_rep hρ hT hy
  generalize hz : ρ x = z at h1
  generalize hz' : ρ y = z' at h2
  cases h1
  cases h2
  have he : (if b < a then b else a) = c := by rw [← hc]; by_cases h : b < a <;> simp [h] <;> omega
  simp [execOp, ho, resolve, invoke, builtin, Builtin.min_, Builtin.min2, hz, hz', he]
  exact upon_val (.raw _)
/-- Whether a slice is nil. -/
def slK1 (P : Program) (ty : TypeId) : Bool := match P.underlying ty with | some (.slice _) => true | _ => false
theorem slK1_spec {ty : TypeId} (h : slK1 P ty = true) : ∃ e, P.underlying ty = some (.slice e) := by
  unfold slK1 at h
  split at h
  · rename_i e hu; exact ⟨e, hu⟩
  · cases h
theorem y_isNil {x y : Operand} {ty tz : TypeId} (ho : o.op = .binOp .eql ty x y tz) (hk : slK1 P ty = true) (hx : evalO t x = some (.raw (.slice none 0 0))) (hy : evalO t y = some (.raw (.slice none 0 0))) : Yield P σ t o (.raw (.bool true)) := by
  obtain ⟨e, hu⟩ := slK1_spec hk
  refine y_bin ho hx hy fun w => ?_
  have := Lib.run_eql_slice_nil w ty e none 0 0 0 0 hu
  have hg : ∀ a n c b m d, (eqGuard .eql ty x y (.slice a n c) (.slice b m d)).run P w = .ok () w := fun _ _ _ _ _ _ => rfl
  simp only [Sem.run_bind, hg, Result.andThen_ok, this]
  rfl
theorem y_notNil {x y : Operand} {ty tz : TypeId} {n : Nat} {xs : List PV} (ho : o.op = .binOp .eql ty x y tz) (hk : slK1 P ty = true) (hx : evalO t x = some (.slice n xs)) (hy : evalO t y = some (.raw (.slice none 0 0))) (hn : 0 < n) : Yield P σ t o (.raw (.bool false)) := by
  obtain ⟨e, hu⟩ := slK1_spec hk
  intro F base E ρ w hρ _ hT
  have h1 := evalO_rep hρ hT hx
  have h2 := evalO_rep hρ hT hy
  generalize hz : ρ x = z at h1
  generalize hz' : ρ y = z' at h2
  cases h2
  have hv : ∃ a c, z = .slice (some a) n c := by
    cases h1 with
    | nils => omega
    | empty => omega
    | slice b off _ c cs _ h0 => exact ⟨_, _, rfl⟩
  obtain ⟨a, c, rfl⟩ := hv
  have := Lib.run_eql_slice_nil w ty e (some a) n c 0 0 hu
  have hg : ∀ a n c b m d, (eqGuard .eql ty x y (.slice a n c) (.slice b m d)).run P w = .ok () w := fun _ _ _ _ _ _ => rfl
  simp only [execOp, ho, hz, hz', Sem.run_bind, Sem.run_pure, Result.andThen_ok, hg, this]
  exact upon_val (.raw _)
end
end PW
end Go.Proofs.Ytgpdjgifhppnhaa

/- How many shortest paths: package dag's Count and Unique, and the reference's. -/
namespace Go.Proofs.Ytgpdjgifhppnhaa
set_option linter.unusedVariables false
set_option linter.unusedSimpArgs false
namespace PW
open Go.RowKit Reg Mem Net

theorem CanS.ofCan {P : Program} {f : FuncId} {ps : List PV} {σ : Sto} {R : PV → Prop} (h : Can P f ps R) [IsPureL ps] : CanS P f ps σ (fun r σ' => R r ∧ σ' = σ) := fun F base E w vs hS hR => by
  refine (h E.M w vs (fun b hb => hS.lt hb) hS.gl (hR.pure (fun _ h => h))).mono ?_
  rintro e w' ⟨v, rfl, hE, r, hr, hv⟩
  exact ⟨v, r, σ, E, rfl, ⟨hr, rfl⟩, hS.ext hE, .ext hE, Below.ofExt hE hS.bl, hv.back⟩
section
variable {T : Topo} {D : List Bool} {d : Nat}
/-- All nodes that can be reached, by decreasing distance. -/
structure OrdP (T : Topo) (D : List Bool) (d : Nat) (O : List Int) : Prop where
  nodup : O.Nodup
  mem : ∀ x, x ∈ O ↔ ∃ k : Nat, x = (k : Int) ∧ (k : Int) < T.nodes ∧ 0 ≤ dN T D d k
  pair : O.Pairwise fun x y => dN T D d y.toNat ≤ dN T D d x.toNat
theorem OrdP.of (hv : validB T = true) (hd : (d : Int) < T.nodes) {O : List Int} (h1 : O.Perm (hasL (distL T D d false) (distL T D d false).length)) (h2 : O.Pairwise (bef (distL T D d false))) : OrdP T D d O := by
  obtain ⟨hb1, _⟩ := distL_bound (D := D) hv (dir := false) hd
  refine ⟨h1.nodup_iff.2 (hasL_nodup _ _), fun x => ?_, h2.imp fun {x y} h => ?_⟩
  · rw [h1.mem_iff, hasL_mem]
    constructor
    · rintro ⟨k, e, h3, h4⟩; exact ⟨k, e, by omega, h4⟩
    · rintro ⟨k, e, h3, h4⟩; exact ⟨k, e, by omega, h4⟩
  · unfold bef at h
    show (distL T D d false).getD _ 0 ≤ (distL T D d false).getD _ 0
    omega
noncomputable def foldG (T : Topo) (D : List Bool) (d : Nat) (c : Int) (l : List Int) : Int := l.foldl (fun c a => min 2 (c + cntS T D d (headN T a.toNat).toNat)) c
/-- The counts after the nodes of a list. -/
structure CntI (T : Topo) (D : List Bool) (d : Nat) (R cs : List Int) (i : Nat) : Prop where
  len : (cs.length : Int) = T.nodes
  val : ∀ m : Nat, (m : Int) < T.nodes → cs.getD m 0 = if m = d then 1 else if (m : Int) ∈ R.take i then cntS T D d m else 0
theorem CntI.start (hd : (d : Int) < T.nodes) (R : List Int) : CntI T D d R ((List.replicate T.nodes.toNat 0).set d 1) 0 := by
  refine ⟨by simp; omega, fun m hm => ?_⟩
  rw [List.getD_eq_getElem?_getD, List.getElem?_set]
  by_cases h : d = m
  · subst h; rw [if_pos rfl, if_pos (by simp; omega), if_pos rfl]; rfl
  · rw [if_neg h, if_neg (fun e => h e.symm), List.getElem?_replicate, if_pos (by omega)]; rfl
/-- What is known at a node: its next nodes are counted already. -/
theorem CntI.next (hv : validB T = true) (hd : (d : Int) < T.nodes) {O cs : List Int} {i m a y : Nat} (hO : OrdP T D d O) (h : CntI T D d O.reverse cs i) (hi : i < O.reverse.length) (hm : O.reverse.getD i 0 = (m : Int)) (ha : (a : Int) ∈ nextL T D m d) (hy : headN T a = (y : Int)) : cs.getD y 0 = cntS T D d y ∧ y ≠ m ∧ (y : Int) < T.nodes := by
  obtain ⟨b, hb, hn⟩ := next_mem ha
  have hba : b = a := by omega
  subst hba
  obtain ⟨y', hy', hyN⟩ := head_nat hv hn.arc
  have : y' = y := by omega
  subst this
  have hdy := hn.dN hy
  have hc := (sound_of hv).cost b hn.arc
  refine ⟨?_, fun e => by subst e; omega, hyN⟩
  rw [h.val y' hyN]
  by_cases hyd : y' = d
  · subst hyd; rw [if_pos rfl, cnt_self]
  · rw [if_neg hyd, if_pos ?_]
    have hyO : (y' : Int) ∈ O.reverse := List.mem_reverse.2 ((hO.mem _).2 ⟨y', rfl, hyN, hdy.1⟩)
    have hs : O.reverse = O.reverse.take i ++ (m : Int) :: O.reverse.drop (i + 1) := by rw [← hm, ← drop_cons _ _ hi, List.take_append_drop]
    have hp : O.reverse.Pairwise fun x y => dN T D d x.toNat ≤ dN T D d y.toNat := List.pairwise_reverse.2 hO.pair
    rw [hs] at hp hyO
    rcases List.mem_append.1 hyO with h1 | h1
    · exact h1
    · exfalso
      have hp2 := (List.pairwise_append.1 hp).2.1
      rcases List.mem_cons.1 h1 with h2 | h2
      · have : y' = m := by omega
        subst this; omega
      · have := (List.pairwise_cons.1 hp2).1 _ h2
        simp only [Int.toNat_natCast] at this
        omega
theorem CntI.fresh {O cs : List Int} {i m : Nat} (hO : OrdP T D d O) (h : CntI T D d O.reverse cs i) (hi : i < O.reverse.length) (hm : O.reverse.getD i 0 = (m : Int)) : (m : Int) < T.nodes ∧ 0 ≤ dN T D d m ∧ cs.getD m 0 = if m = d then 1 else 0 := by
  have hmO : (m : Int) ∈ O.reverse := by rw [← hm]; exact getD_mem hi
  obtain ⟨k, hk, hkN, hk0⟩ := (hO.mem _).1 (List.mem_reverse.1 hmO)
  have : k = m := by omega
  subst this
  refine ⟨hkN, hk0, ?_⟩
  rw [h.val k hkN]
  have hs : O.reverse = O.reverse.take i ++ (k : Int) :: O.reverse.drop (i + 1) := by rw [← hm, ← drop_cons _ _ hi, List.take_append_drop]
  have hn : O.reverse.Nodup := List.pairwise_reverse.2 (hO.nodup.imp fun h => fun e => h e.symm)
  rw [hs] at hn
  have hnot : ¬ (k : Int) ∈ O.reverse.take i := fun h1 => (List.pairwise_append.1 hn).2.2 _ h1 (k : Int) (by simp) rfl
  rw [if_neg hnot]
theorem CntI.step (hv : validB T = true) (hd : (d : Int) < T.nodes) {O cs : List Int} {i m : Nat} (hO : OrdP T D d O) (h : CntI T D d O.reverse cs i) (hi : i < O.reverse.length) (hm : O.reverse.getD i 0 = (m : Int)) : CntI T D d O.reverse (cs.set m (foldG T D d (cs.getD m 0) (nextL T D m d))) (i + 1) := by
  obtain ⟨hmN, _, hf⟩ := h.fresh hO hi hm
  have hml : m < cs.length := by have := h.len; omega
  refine ⟨by simpa using h.len, fun x hx => ?_⟩
  rw [List.getD_eq_getElem?_getD, List.getElem?_set, take_step _ _ 0 hi, hm]
  by_cases hxm : m = x
  · subst hxm
    rw [if_pos rfl, if_pos hml, Option.getD_some, hf]
    by_cases hmd : m = d
    · subst hmd; rw [if_pos rfl, if_pos rfl, next_self]; rfl
    · rw [if_neg hmd, if_neg hmd, if_pos (by simp), cnt_eq hv hd hmN hmd]; rfl
  · rw [if_neg hxm, ← List.getD_eq_getElem?_getD, h.val x hx]
    by_cases hxd : x = d
    · rw [if_pos hxd, if_pos hxd]
    · rw [if_neg hxd, if_neg hxd]
      have : (x : Int) ∈ O.reverse.take i ++ [(m : Int)] ↔ (x : Int) ∈ O.reverse.take i := by
        simp only [List.mem_append, List.mem_singleton]
        exact ⟨fun h => h.elim id (fun e => absurd e (by omega)), .inl⟩
      by_cases h1 : (x : Int) ∈ O.reverse.take i
      · rw [if_pos h1, if_pos (this.2 h1)]
      · rw [if_neg h1, if_neg (fun h2 => h1 (this.1 h2))]
theorem CntI.done (hv : validB T = true) (hd : (d : Int) < T.nodes) {O cs : List Int} {n : Nat} (hO : OrdP T D d O) (h : CntI T D d O.reverse cs O.reverse.length) (hn : (n : Int) < T.nodes) : cs.getD n 0 = cntS T D d n := by
  rw [h.val n hn, List.take_length]
  by_cases hnd : n = d
  · subst hnd; rw [if_pos rfl, cnt_self]
  · rw [if_neg hnd]
    by_cases h1 : (n : Int) ∈ O.reverse
    · rw [if_pos h1]
    · rw [if_neg h1]
      refine (cnt_unr hv hd hn (Int.not_le.1 fun h0 => h1 (List.mem_reverse.2 ((hO.mem _).2 ⟨n, rfl, hn, h0⟩)))).symm
theorem foldG_zero (c : Int) : foldG T D d c [] = c := rfl
theorem foldG_step (c : Int) (l : List Int) (k a : Nat) (hk : k < l.length) (ha : l.getD k 0 = (a : Int)) : foldG T D d c (l.take (k + 1)) = min 2 (foldG T D d c (l.take k) + cntS T D d (headN T a).toNat) := by
  unfold foldG
  rw [take_step _ _ 0 hk, List.foldl_append, ha]
  rfl
theorem foldG_range (hv : validB T = true) (hd : (d : Int) < T.nodes) (c : Int) (h0 : 0 ≤ c) (h2 : c ≤ 2) (l : List Int) : 0 ≤ foldG T D d c l ∧ foldG T D d c l ≤ 2 := fold2_le _ (fun a => (cnt_rangeS hv hd _).1) l c h0 h2
theorem set_same (cs : List Int) (m : Nat) (hm : m < cs.length) : cs.set m (cs.getD m 0) = cs := by
  rw [List.getD_eq_getElem?_getD, List.getElem?_eq_getElem hm, Option.getD_some, List.set_getElem_self]
end
def cntV (T : Topo) (D : List Bool) (n d : Int) (c : Int) : PV := .tuple [num (if nodeE T D n d = 0 then c else 0), num (nodeE T D n d)]
set_option maxRecDepth 10000 in
set_option maxHeartbeats 2000000 in
theorem count_can (T : Topo) (D : List Bool) (n d : Int) (h12 : T.nodes ≤ 12) : Can Try.prog 66 [topoV T, boolsV D, num n, num d, num 2] (· = cntV T D n d (cntS T D d.toNat n.toNat)) := by
  refine can_of Try.func66 rfl Try.ntmps66 rfl ?_
  refine W_cs (.a 3 rfl <| .k [1, 2, 3, 4, 5] rfl) ?_
  refine W_cs (.a 4 rfl <| .c rfl (dists_can T D n d) rfl <| .a 5 rfl <| .k [1, 2, 3, 4, 5, 12, 13] rfl) ?_
  refine W_seq ?_
  refine W_cs (.a 2 rfl <| .k [1, 2, 3, 4, 5, 12, 13, 31] rfl) ?_
  refine W_cond rfl (fun hc => ?_) (fun hc => ?_)
  · have he : nodeE T D n d ≠ 0 := tt hc
    refine W_cs (.a 3 rfl <| .k [10, 11] rfl) ?_
    refine W_ret ?_
    exact ⟨_, _, ResL.of rfl, Pur.pure, by unfold cntV; rw [if_neg he]; rfl⟩
  · have he : nodeE T D n d = 0 := Classical.byContradiction (ff hc)
    rw [he]
    obtain ⟨hv, hf, hn, hd⟩ := nodeE_zero he
    rw [nodeB_iff] at hn hd
    obtain ⟨n, rfl⟩ := Int.eq_ofNat_of_zero_le hn.1
    obtain ⟨d, rfl⟩ := Int.eq_ofNat_of_zero_le hd.1
    have hn := hn.2
    have hd := hd.2
    have hll := links_le hv
    have hS := sound_of hv
    obtain ⟨hb1, hb2⟩ := distL_bound (D := D) hv (dir := false) hd
    obtain ⟨N, hN⟩ : ∃ N : Nat, T.nodes = (N : Int) := ⟨T.nodes.toNat, by omega⟩
    have hNt : T.nodes.toNat = N := by omega
    refine W_skip ?_
    refine W_seq ?_
    refine W_cs (.a 2 rfl <| .k [1, 2, 3, 4, 5, 12, 34] rfl) ?_
    refine W_cond rfl (fun hc => ?_) (fun hc => ?_)
    · cases hc
    · refine W_skip ?_
      refine W_cs (.a 1 rfl <| .c rfl (leaving_can T hv) rfl <| .a 1 rfl <| .k [1, 2, 3, 4, 5, 12, 14] rfl) ?_
      refine W_rs ?_
      refine WR_a 2 rfl <| WR_l (l_make rfl (fok.rk.get rfl) rfl rfl hN hN ⟨by unfold maxLen; omega, by omega⟩) rfl <| WR_a 1 rfl <| WR_k [1, 2, 3, 4, 5, 12, 14, 15] rfl ?_
      refine W_sto (σ' := [irow (List.replicate N 0)]) (by unfold irow; rw [List.length_replicate, ← zeros_ints]; rfl) ?_
      refine W_rs ?_
      refine WR_a 3 rfl <| WR_v (y_min (c := 1) rfl rfl rfl rfl) rfl <| WR_v (y_ix (d) rfl (by omega) (by rw [List.length_replicate]; omega)) rfl <| WR_loud0 ((by first | exact l_storeInts rfl (fok.tk.get rfl) rfl rfl rfl (by first | omega | (simp; omega)) | exact l_storeBools rfl (fok.tk.get rfl) rfl rfl rfl (by first | omega | (simp; omega)))) rfl rfl <| WR_k [1, 2, 3, 4, 5, 12, 14, 15] rfl ?_
      refine W_sto (σ' := [irow ((List.replicate T.nodes.toNat 0).set d 1)]) ?_ ?_
      · rw [hNt]; unfold irow; simp only [List.length_set, List.length_replicate]; rfl
      have hI0 := CntI.start (D := D) hd
      generalize (List.replicate T.nodes.toNat (0 : Int)).set d 1 = cs0 at hI0
      refine W_rs ?_
      refine WR_a 1 rfl <| WR_cS rfl rfl (CanS.mono (sorted_can (distL T D d false) cs0 (by omega)) (fun _ σ' h => ?_))
      obtain ⟨O, hO1, hO2, rfl, rfl⟩ := h
      refine WR_a 1 rfl <| WR_k [1, 2, 3, 4, 5, 12, 14, 15, 16] rfl ?_
      have hO := OrdP.of hv hd hO1 hO2
      have hOl : O.length ≤ 12 := by have := hO1.length_eq; have := hasL_len (distL T D d false) (distL T D d false).length; omega
      refine W_rs ?_
      refine WR_a 1 rfl <| WR_cS rfl rfl (CanS.mono (reverse_can O (irow cs0) hOl) (fun _ σ' h => ?_))
      subst h
      refine WR_k [1, 2, 3, 4, 5, 12, 14, 15, 16] rfl ?_
      refine W_seq ?_
      refine W_cs (.a 3 rfl <| .k [1, 2, 3, 4, 5, 12, 14, 15, 49, 50, 51] rfl) ?_
      refine W_block ?_
      refine W_k [1, 2, 3, 4, 5, 12, 14, 15, 49, 50, 51] rfl ?_
      refine W_loop (fun r st => ∃ (cs : List Int) (i : Nat), i ≤ O.reverse.length ∧ r = O.reverse.length - i ∧ CntI T D d O.reverse cs i ∧ st = ⟨[(1, boolsV D), (2, num n), (3, num d), (4, num 2), (5, .pin (topoP T) 0), (12, intsV (distL T D d false)), (14, rowsV (rowsL (tailN T) T.nodes.toNat (2 * T.links.length))), (15, .own 0), (49, .own 1), (50, num O.reverse.length), (51, num i)], [irow cs, irow O.reverse]⟩) O.reverse.length ⟨cs0, 0, by omega, by omega, hI0 _, rfl⟩ ?_
      rintro r st ⟨cs, i, hi, rfl, hI, rfl⟩
      have hRl : O.reverse.length ≤ 12 := by simpa using hOl
      refine W_cs (.a 1 rfl <| .k [1, 2, 3, 4, 5, 12, 14, 15, 49, 50, 51, 52] rfl) ?_
      refine W_seq ?_
      refine W_cond rfl (fun hx => ?_) (fun hx => ?_)
      · have hlt : i < O.reverse.length := by have := tt hx; omega
        obtain ⟨m, hm⟩ : ∃ m : Nat, O.reverse.getD i 0 = (m : Int) := by
          obtain ⟨k, hk, _⟩ := (hO.mem _).1 (List.mem_reverse.1 (getD_mem (d := 0) hlt))
          exact ⟨k, hk⟩
        obtain ⟨hmN, hm0, hf0⟩ := hI.fresh hO hlt hm
        have hcl := hI.len
        have hrow := rows_out T m (by omega)
        have hnx := dnext_can T D (distL T D d false) (outL T m) m d hv hf hb1 hb2 hmN hd (fun a ha => outL_mem ha) (Nat.le_trans (outTo_len T m _) (by omega))
        have hnx : Can Try.prog 80 [topoV T, boolsV D, intsV (distL T D d false), intsV (outL T m), num m, num d] (· = intsV (nextL T D m d)) := hnx
        have hnl : (nextL T D m d).length ≤ 512 := by
          have h1 : (nextL T D m d).length ≤ (outL T m).length := by unfold nextL passL; split; simp; exact List.length_filter_le _ _
          exact Nat.le_trans h1 (Nat.le_trans (outTo_len T m _) (by omega))
        have hset := set_same cs m (by omega)
        have hcr : 0 ≤ cs.getD m 0 ∧ cs.getD m 0 ≤ 2 := by rw [hf0]; split <;> omega
        refine W_skip ?_
        refine W_seq ?_
        refine W_block ?_
        refine W_cs (.v (y_ix (i) rfl) rfl <| .v (y_ld rfl ((ints_get _ i hlt).trans (by rw [hm]))) rfl <| .a 1 rfl <| .k [1, 2, 3, 4, 5, 12, 14, 15, 18, 49, 50, 51] rfl) ?_
        refine W_drs mixed (by kernel_rfl) (.a 5 rfl <| .v [58, 59] (y_ix (m) rfl (by omega) (by rw [rowsL_len]; omega)) rfl rfl <| .v [60] (y_ld rfl ((rows_getP _ m (by rw [rowsL_len]; omega)).trans (by rw [hrow]))) rfl rfl <| .a 2 rfl <| .v [55, 56, 57, 61, 62, 63] (y_c rfl (hnx)) rfl rfl <| .a 2 rfl <| .k [1, 2, 3, 4, 5, 12, 14, 15, 18, 49, 50, 51, 64, 65, 66] rfl) ?_
        refine W_block ?_
        refine W_k [1, 2, 3, 4, 5, 12, 14, 15, 18, 49, 50, 51, 64, 65, 66] rfl ?_
        refine W_loop (fun r st => ∃ k : Nat, k ≤ (nextL T D m d).length ∧ r = (nextL T D m d).length - k ∧ st = ⟨[(1, boolsV D), (2, num n), (3, num d), (4, num 2), (5, .pin (topoP T) 0), (12, intsV (distL T D d false)), (14, rowsV (rowsL (tailN T) T.nodes.toNat (2 * T.links.length))), (15, .own 0), (18, num m), (49, .own 1), (50, num O.reverse.length), (51, num i), (64, intsV (nextL T D m d)), (65, num (nextL T D m d).length), (66, num k)], [irow (cs.set m (foldG T D d (cs.getD m 0) ((nextL T D m d).take k))), irow O.reverse]⟩) (nextL T D m d).length ⟨0, by omega, by omega, by rw [List.take_zero, foldG_zero, hset]; rfl⟩ ?_
        rintro r st ⟨k, hk, rfl, rfl⟩
        have hfr := foldG_range (D := D) hv hd (cs.getD m 0) hcr.1 hcr.2 ((nextL T D m d).take k)
        have hfst := foldG_step (T := T) (D := D) (d := d) (cs.getD m 0) (nextL T D m d) k
        generalize hd12 : foldG T D d (cs.getD m 0) ((nextL T D m d).take k) = c at hfr hfst
        refine W_cs (.a 1 rfl <| .k [1, 2, 3, 4, 5, 12, 14, 15, 18, 49, 50, 51, 64, 65, 66, 67] rfl) ?_
        refine W_seq ?_
        refine W_cond rfl (fun hy => ?_) (fun hy => ?_)
        · have hkl : k < (nextL T D m d).length := by have := tt hy; omega
          obtain ⟨a, ha, han⟩ := next_mem (getD_mem (d := 0) hkl)
          have hmem : (a : Int) ∈ nextL T D m d := by rw [← ha]; exact getD_mem hkl
          obtain ⟨y, hyh, hyN⟩ := head_nat hv han.arc
          obtain ⟨hcy, hym, _⟩ := hI.next hv hd hO hlt hm hmem hyh
          have hh := head_can T a han.arc (by omega)
          rw [hyh] at hh
          have hcyr := cnt_rangeS (D := D) hv hd y
          have hg1 : (cs.set m c).getD y 0 = cntS T D d y := by rw [← hcy, List.getD_eq_getElem?_getD, List.getElem?_set, if_neg (fun e => hym e.symm), ← List.getD_eq_getElem?_getD]
          have hg2 : (cs.set m c).getD m 0 = c := by rw [List.getD_eq_getElem?_getD, List.getElem?_set, if_pos rfl, if_pos (by omega)]; rfl
          have hfst := hfst a hkl ha
          rw [hyh, Int.toNat_natCast] at hfst
          refine W_skip ?_
          refine W_seq ?_
          refine W_block ?_
          refine W_cs (.v (y_ix (k) rfl) rfl <| .v (y_ld rfl ((ints_get _ k hkl).trans (by rw [ha]))) rfl <| .a 1 rfl <| .k [1, 2, 3, 4, 5, 12, 14, 15, 18, 20, 49, 50, 51, 64, 65, 66] rfl) ?_
          refine W_cs (.a 3 rfl <| .c rfl (hh) rfl <| .v (y_ix (y) rfl (by omega) (by simp only [List.length_set]; omega)) rfl <| .v (y_ld rfl ((ints_get _ y (by simp only [List.length_set]; omega)).trans (by rw [hg1]))) rfl <| .a 1 rfl <| .k [1, 2, 3, 4, 5, 12, 14, 15, 18, 21, 49, 50, 51, 64, 65, 66] rfl) ?_
          refine W_cs (.a 4 rfl <| .v (y_ix (m) rfl (by omega) (by simp only [List.length_set]; omega)) rfl <| .v (y_ld rfl ((ints_get _ m (by simp only [List.length_set]; omega)).trans (by rw [hg2]))) rfl <| .v (y_ar rfl) rfl <| .a 1 rfl <| .k [1, 2, 3, 4, 5, 12, 14, 15, 18, 21, 49, 50, 51, 64, 65, 66, 83] rfl) ?_
          refine W_cond rfl (fun hz => ?_) (fun hz => ?_)
          · have hv2 : foldG T D d (cs.getD m 0) ((nextL T D m d).take (k + 1)) = 2 := by have := tt hz; omega
            refine W_region ?_
            refine WR_a 3 rfl <| WR_v (y_ix (m) rfl (by omega) (by simp only [List.length_set]; omega)) rfl <| WR_loud0 ((by first | exact l_storeInts rfl (fok.tk.get rfl) rfl rfl rfl (by first | omega | (simp; omega)) | exact l_storeBools rfl (fok.tk.get rfl) rfl rfl rfl (by first | omega | (simp; omega)))) rfl rfl <| WR_k [1, 2, 3, 4, 5, 12, 14, 15, 18, 49, 50, 51, 64, 65, 66] rfl ?_
            refine W_chain (.v (y_ar rfl) rfl <| .a 1 rfl <| .k [1, 2, 3, 4, 5, 12, 14, 15, 18, 49, 50, 51, 64, 65, 66] rfl) ?_
            refine ⟨(nextL T D m d).length - (k + 1), by omega, k + 1, by omega, rfl, ?_⟩
            rw [hv2]
            unfold irow
            simp only [List.length_set, List.set_set]
            rfl
          · have hv2 : foldG T D d (cs.getD m 0) ((nextL T D m d).take (k + 1)) = c + cntS T D d y := by have := ff hz; omega
            refine W_region ?_
            refine WR_a 2 rfl <| WR_v (y_ix (m) rfl (by omega) (by simp only [List.length_set]; omega)) rfl <| WR_v (y_ld rfl ((ints_get _ m (by simp only [List.length_set]; omega)).trans (by rw [hg2]))) rfl <| WR_a 1 rfl <| WR_v (y_ar rfl) rfl <| WR_v (y_ix (m) rfl (by omega) (by simp only [List.length_set]; omega)) rfl <| WR_loud0 ((by first | exact l_storeInts rfl (fok.tk.get rfl) rfl rfl rfl (by first | omega | (simp; omega)) | exact l_storeBools rfl (fok.tk.get rfl) rfl rfl rfl (by first | omega | (simp; omega)))) rfl rfl <| WR_k [1, 2, 3, 4, 5, 12, 14, 15, 18, 49, 50, 51, 64, 65, 66] rfl ?_
            refine W_chain (.v (y_ar rfl) rfl <| .a 1 rfl <| .k [1, 2, 3, 4, 5, 12, 14, 15, 18, 49, 50, 51, 64, 65, 66] rfl) ?_
            refine ⟨(nextL T D m d).length - (k + 1), by omega, k + 1, by omega, rfl, ?_⟩
            rw [hv2]
            unfold irow
            simp only [List.length_set, List.set_set]
            rfl
        · have hke : k = (nextL T D m d).length := by have := ff hy; omega
          refine W_exit ?_
          refine W_chain (.v (y_ar rfl) rfl <| .a 1 rfl <| .k [1, 2, 3, 4, 5, 12, 14, 15, 49, 50, 51] rfl) ?_
          have hI2 := hI.step hv hd hO hlt hm
          rw [hke, List.take_length] at hd12
          exact ⟨O.reverse.length - (i + 1), by omega, cs.set m (foldG T D d (cs.getD m 0) (nextL T D m d)), i + 1, by omega, rfl, hI2, by rw [hd12]; rfl⟩
      · have hie : i = O.reverse.length := by have := ff hx; omega
        subst hie
        have hres := hI.done hv hd hO hn
        have hcl := hI.len
        refine W_exit ?_
        refine W_cs (.a 2 rfl <| .v (y_ix (n) rfl) rfl <| .v (y_ld rfl ((ints_get cs n (by omega)).trans (by rw [hres]))) rfl <| .a 2 rfl <| .k [10, 11] rfl) ?_
        refine W_ret ?_
        exact ⟨_, _, ResL.of rfl, Pur.pure, by unfold cntV; rw [he, if_pos rfl]; rfl⟩
theorem cntV_uniq (T : Topo) (D : List Bool) (n d : Int) : uniqB T D n d = (decide (nodeE T D n d = 0) && decide ((if nodeE T D n d = 0 then cntS T D d.toNat n.toNat else 0) = 1)) := by
  unfold uniqB
  by_cases h : nodeE T D n d = 0
  · rw [if_pos h]
  · simp [h]
set_option maxRecDepth 10000 in
set_option maxHeartbeats 2000000 in
theorem unique_can (T : Topo) (D : List Bool) (n d : Int) (h12 : T.nodes ≤ 12) : Can Try.prog 45 [topoV T, boolsV D, num n, num d] (· = flag (uniqB T D n d)) := by
  rw [cntV_uniq]
  obtain ⟨q1, hq1⟩ : ∃ q, decide (nodeE T D n d = 0) = q := ⟨_, rfl⟩
  obtain ⟨q2, hq2⟩ : ∃ q, decide ((if nodeE T D n d = 0 then cntS T D d.toNat n.toNat else 0) = 1) = q := ⟨_, rfl⟩
  rw [hq1, hq2]
  refine can_of Try.func45 rfl Try.ntmps45 rfl ?_
  refine W_cs (.a 2 rfl <| .k [1, 2, 3, 4] rfl) ?_
  refine W_cs (.a 4 rfl <| .c rfl (count_can T D n d h12) rfl <| .a 5 rfl <| .k [9, 10] rfl) ?_
  refine W_csK 8 (.raw (.bool (q1 && q2))) [] rfl ?_ ?_
  · refine .a 1 rfl <| .v (y_q rfl (hq1)) rfl <| .a 1 rfl <| ?_
    cases q1
    · exact .a 4 rfl <| .k [8] rfl
    · exact .a 1 rfl <| .v (y_q rfl (hq2)) rfl <| .a 2 rfl <| .k [8] rfl
  refine W_ret ?_
  exact ⟨_, _, ResL.of rfl, Pur.pure, rfl⟩
set_option maxRecDepth 10000 in
set_option maxHeartbeats 2000000 in
theorem has_can (l : List Int) (n : Int) (hl : l.length ≤ 100000) : Can Try.prog 75 [intsV l, num n] (· = flag (decide (n ∈ l))) := by
  refine can_of Try.func75 rfl Try.ntmps75 rfl ?_
  refine W_cs (.a 1 rfl <| .k [0, 1] rfl) ?_
  refine W_seq ?_
  refine W_cs (.a 1 rfl <| .k [0, 1, 5] rfl) ?_
  refine W_block ?_
  refine W_k [0, 1, 5] rfl ?_
  refine W_loop (fun r st => ∃ i : Nat, i ≤ l.length ∧ r = l.length - i ∧ ¬ n ∈ l.take i ∧ st = ⟨[(0, intsV l), (1, num n), (5, num i)], []⟩) l.length ⟨0, by omega, by omega, by simp, rfl⟩ ?_
  rintro r st ⟨i, hi, rfl, hno, rfl⟩
  refine W_seq ?_
  refine W_cs (.a 4 rfl <| .k [0, 1, 5, 9] rfl) ?_
  refine W_cond rfl (fun hc => ?_) (fun hc => ?_)
  · have hlt : i < l.length := by have := tt hc; omega
    refine W_skip ?_
    refine W_seq ?_
    refine W_block ?_
    refine W_cs (.a 2 rfl <| .v (y_ix (i) rfl) rfl <| .v (y_ld rfl (ints_get l i hlt)) rfl <| .a 2 rfl <| .k [0, 1, 5, 17] rfl) ?_
    refine W_cond rfl (fun hy => ?_) (fun hy => ?_)
    · have h1 : l.getD i 0 = n := tt hy
      refine W_cs (.a 1 rfl <| .k [4] rfl) ?_
      refine W_ret ?_
      exact ⟨_, _, ResL.of rfl, Pur.pure, by rw [show decide (n ∈ l) = true from decide_eq_true (by rw [← h1]; exact getD_mem hlt)]; rfl⟩
    · have h1 : ¬ l.getD i 0 = n := ff hy
      refine W_skip ?_
      refine W_chain (.a 1 rfl <| .v (y_ar rfl) rfl <| .a 1 rfl <| .k [0, 1, 5] rfl) ?_
      refine ⟨l.length - (i + 1), by omega, i + 1, by omega, rfl, fun h => ?_, rfl⟩
      rw [take_step _ _ 0 hlt, List.mem_append, List.mem_singleton] at h
      exact h.elim hno (fun e => h1 e.symm)
  · have hie : i = l.length := by have := ff hc; omega
    subst hie
    rw [List.take_length] at hno
    refine W_exit ?_
    refine W_cs (.a 1 rfl <| .k [4] rfl) ?_
    refine W_ret ?_
    exact ⟨_, _, ResL.of rfl, Pur.pure, by rw [show decide (n ∈ l) = false from decide_eq_false hno]; rfl⟩
/-- The best node so far that is not listed. -/
structure Best (L out : List Int) (i : Nat) (b : Int) : Prop where
  none : b < 0 → ∀ k : Nat, k < i → 0 ≤ L.getD k 0 → (k : Int) ∈ out
  some : ∀ n : Nat, b = (n : Int) → n < i ∧ 0 ≤ L.getD n 0 ∧ ¬ (n : Int) ∈ out ∧ ∀ k : Nat, k < i → 0 ≤ L.getD k 0 → ¬ (k : Int) ∈ out → L.getD k 0 ≤ L.getD n 0
theorem Best.start (L out : List Int) : Best L out 0 (-1) := ⟨fun _ k h => by omega, fun n h => by omega⟩
theorem Best.yes {L out : List Int} {i : Nat} {b : Int} (h : Best L out i b) (h1 : 0 ≤ L.getD i 0) (h2 : ¬ (i : Int) ∈ out) (h3 : b < 0 ∨ ∃ n : Nat, b = (n : Int) ∧ L.getD n 0 < L.getD i 0) : Best L out (i + 1) i := by
  refine ⟨fun h => by omega, fun n hn => ?_⟩
  have : n = i := by omega
  subst this
  refine ⟨by omega, h1, h2, fun k hk hk0 hko => ?_⟩
  by_cases hki : k = n
  · subst hki; omega
  · rcases h3 with h3 | ⟨m, hm, hlt⟩
    · exact absurd (h.none h3 k (by omega) hk0) hko
    · have := (h.some m hm).2.2.2 k (by omega) hk0 hko
      omega
theorem Best.no {L out : List Int} {i : Nat} {b : Int} (h : Best L out i b) (h1 : ¬ (0 ≤ L.getD i 0 ∧ ¬ (i : Int) ∈ out ∧ (b < 0 ∨ ∃ n : Nat, b = (n : Int) ∧ L.getD n 0 < L.getD i 0))) : Best L out (i + 1) b := by
  refine ⟨fun hb k hk hk0 => ?_, fun n hn => ?_⟩
  · by_cases hki : k = i
    · subst hki; exact Classical.byContradiction fun ho => h1 ⟨hk0, ho, .inl hb⟩
    · exact h.none hb k (by omega) hk0
  · obtain ⟨a1, a2, a3, a4⟩ := h.some n hn
    refine ⟨by omega, a2, a3, fun k hk hk0 hko => ?_⟩
    by_cases hki : k = i
    · subst hki; exact Int.not_lt.1 fun hl => h1 ⟨hk0, hko, .inr ⟨n, hn, hl⟩⟩
    · exact a4 k (by omega) hk0 hko
/-- A list in the making: each of its nodes is at least as far as those that are not listed. -/
structure Part (L out : List Int) : Prop where
  nodup : out.Nodup
  mem : ∀ x ∈ out, ∃ k : Nat, x = (k : Int) ∧ k < L.length ∧ 0 ≤ L.getD k 0
  pair : out.Pairwise fun x y => L.getD y.toNat 0 ≤ L.getD x.toNat 0
  rest : ∀ x ∈ out, ∀ k : Nat, k < L.length → 0 ≤ L.getD k 0 → ¬ (k : Int) ∈ out → L.getD k 0 ≤ L.getD x.toNat 0
theorem Part.len {L out : List Int} (h : Part L out) : out.length ≤ L.length := by
  have h1 := nodup_le L.length (out.map Int.toNat) (by
    unfold List.Nodup
    rw [List.pairwise_map]
    refine List.Pairwise.imp_of_mem ?_ h.nodup
    intro a b ha hb hne e
    obtain ⟨k, rfl, _⟩ := h.mem a ha
    obtain ⟨k', rfl, _⟩ := h.mem b hb
    simp only [Int.toNat_natCast] at e
    exact hne (by rw [e])) (fun x hx => by
    obtain ⟨y, hy, rfl⟩ := List.mem_map.1 hx
    obtain ⟨k, rfl, hk, _⟩ := h.mem y hy
    simpa using hk)
  simpa using h1
theorem Part.snoc {L out : List Int} {n : Nat} (h : Part L out) (hb : Best L out L.length n) : Part L (out ++ [(n : Int)]) := by
  obtain ⟨a1, a2, a3, a4⟩ := hb.some n rfl
  refine ⟨List.pairwise_append.2 ⟨h.nodup, by simp, fun a ha b hb e => a3 (by simp at hb; rw [← hb, ← e]; exact ha)⟩, fun x hx => ?_, List.pairwise_append.2 ⟨h.pair, by simp, fun a ha b hb => ?_⟩, fun x hx k hk hk0 hko => ?_⟩
  · rcases List.mem_append.1 hx with h1 | h1
    · exact h.mem x h1
    · simp at h1; subst h1; exact ⟨n, rfl, a1, a2⟩
  · simp at hb; subst hb
    exact h.rest a ha n a1 a2 a3
  · have hko' : ¬ (k : Int) ∈ out := fun h => hko (List.mem_append.2 (.inl h))
    rcases List.mem_append.1 hx with h1 | h1
    · exact h.rest x h1 k hk hk0 hko'
    · simp at h1; subst h1; rw [Int.toNat_natCast]; exact a4 k hk hk0 hko'
def ordV (e : Int) (O : List Int) : PV := .tuple [intsV O, num e]
set_option maxRecDepth 10000 in
set_option maxHeartbeats 2000000 in
theorem order_can (T : Topo) (D : List Bool) (d : Nat) (h12 : T.nodes ≤ 12) (he : chkE T D [(d : Int)] = 0) : Can Try.prog 57 [topoV T, boolsV D, num d] (fun r => ∃ O, OrdP T D d O ∧ r = ordV 0 O) := by
  obtain ⟨hv, hf, hd⟩ := chkE_zero he
  have hd := (nodeB_iff.1 (hd d (by simp))).2
  obtain ⟨hb1, hb2⟩ := distL_bound (D := D) hv (dir := false) hd
  have hrd := rdist_can T D (d : Int)
  rw [he] at hrd
  have hrd : Can Try.prog 37 [topoV T, boolsV D, num d] (· = .tuple [intsV (distL T D d false), num 0]) := hrd
  have hfin : ∀ out, Part (distL T D d false) out → (∀ k : Nat, k < (distL T D d false).length → 0 ≤ (distL T D d false).getD k 0 → (k : Int) ∈ out) → OrdP T D d out := fun out h h2 =>
    ⟨h.nodup, fun x => ⟨fun hx => by obtain ⟨k, e, h3, h4⟩ := h.mem x hx; exact ⟨k, e, by omega, h4⟩, by rintro ⟨k, rfl, h3, h4⟩; exact h2 k (by omega) h4⟩, h.pair⟩
  generalize hLd : distL T D d false = L at hb1 hb2 hrd hfin
  obtain ⟨N, hN⟩ : ∃ N : Nat, T.nodes = (N : Int) := ⟨L.length, by omega⟩
  have hNL : L.length = N := by omega
  refine can_of Try.func57 rfl Try.ntmps57 rfl ?_
  refine W_cs (.a 3 rfl <| .k [1, 2, 3] rfl) ?_
  refine W_cs (.a 3 rfl <| .c rfl (hrd) rfl <| .a 5 rfl <| .k [3, 8, 9] rfl) ?_
  refine W_seq ?_
  refine W_cs (.a 2 rfl <| .k [3, 8, 9, 21] rfl) ?_
  refine W_cond rfl (fun hc => ?_) (fun hc => ?_)
  · cases hc
  · refine W_skip ?_
    refine W_cs (.a 1 rfl <| .k [3, 8, 10] rfl) ?_
    refine W_adopt 10 3 1 rfl ?_
    refine W_block ?_
    refine W_k [3, 8, 10] rfl ?_
    refine W_loop (fun r st => ∃ out, Part L out ∧ r = N - out.length ∧ st = ⟨[(3, .pin (topoP T) 0), (8, intsV L), (10, .own 0)], [irow out]⟩) N ⟨[], ⟨by simp, by simp, by simp, by simp⟩, by simp, rfl⟩ ?_
    rintro r st ⟨out, hP, rfl, rfl⟩
    have hol := hP.len
    refine W_block ?_
    refine W_cs (.a 1 rfl <| .k [3, 8, 10, 11] rfl) ?_
    refine W_seq ?_
    refine W_cs (.a 1 rfl <| .k [3, 8, 10, 11, 12] rfl) ?_
    refine W_block ?_
    refine W_k [3, 8, 10, 11, 12] rfl ?_
    refine W_loop (fun r st => ∃ (i : Nat) (b : Int), i ≤ N ∧ r = N - i ∧ Best L out i b ∧ -1 ≤ b ∧ st = ⟨[(3, .pin (topoP T) 0), (8, intsV L), (10, .own 0), (11, num b), (12, num i)], [irow out]⟩) N ⟨0, -1, by omega, by omega, Best.start _ _, by omega, rfl⟩ ?_
    rintro r st ⟨i, b, hi, rfl, hB, hb1', rfl⟩
    refine W_seq ?_
    refine W_cs (.a 2 rfl <| .v (y_ld rfl ((show some (num T.nodes) = some (num (N : Int)) by rw [hN]))) rfl <| .a 1 rfl <| .k [3, 8, 10, 11, 12, 26] rfl) ?_
    refine W_cond rfl (fun hc => ?_) (fun hc => ?_)
    · have hlt : i < N := by have := tt hc; omega
      refine W_skip ?_
      refine W_seq ?_
      refine W_block ?_
      obtain ⟨p1, hp1⟩ : ∃ q, decide (0 ≤ L.getD i 0) = q := ⟨_, rfl⟩
      obtain ⟨p2, hp2⟩ : ∃ q, decide ((i : Int) ∈ out) = q := ⟨_, rfl⟩
      obtain ⟨p3, hp3⟩ : ∃ q, decide (b < 0) = q := ⟨_, rfl⟩
      obtain ⟨p4, hp4⟩ : ∃ q, decide (L.getD b.toNat 0 < L.getD i 0) = q := ⟨_, rfl⟩
      refine W_drsK mixed (by kernel_rfl) 54 (.raw (.bool ((p1 && !p2) && (p3 || p4)))) [3, 8, 10, 11, 12] rfl ?_ ?_
      · refine .a 2 rfl <| .v [29, 30] (y_ix (i) rfl) rfl rfl <| .v [31] (y_ld rfl (ints_get L i (by omega))) rfl rfl <| .v [32] (y_q rfl (hp1)) rfl rfl <| .a 1 rfl <| ?_
        cases p1
        · exact .a 20 rfl <| .k [54, 3, 8, 10, 11, 12] rfl
        · refine .a 2 rfl <| .v [35, 36] (y_cV rfl (PurL.cons (Pur.ownL rfl PurL.pure) (PurL.cons Pur.pure PurL.nil)) (hp2 ▸ has_can out i (by omega))) rfl rfl <| .a 3 rfl <| ?_
          cases p2
          · refine .a 1 rfl <| .v [41] (y_q rfl (hp3)) rfl rfl <| .a 1 rfl <| ?_
            cases p3
            · exact .a 2 rfl <| .v [44, 45] (y_ix (i) rfl) rfl rfl <| .v [46] (y_ld rfl (ints_get L i (by omega))) rfl rfl <| .a 2 rfl <| .v [48, 49] (y_ix (b.toNat) rfl (by have := ff hp3; omega) (by have := ff hp3; have := (hB.some b.toNat (by omega)).1; omega)) rfl rfl <| .v [50] (y_ld rfl (ints_get L b.toNat (by have := ff hp3; have := (hB.some b.toNat (by omega)).1; omega))) rfl rfl <| .v [47, 51] (y_q rfl (hp4)) rfl rfl <| .a 2 rfl <| .k [54, 3, 8, 10, 11, 12] rfl
            · exact .a 11 rfl <| .k [54, 3, 8, 10, 11, 12] rfl
          · exact .a 14 rfl <| .k [54, 3, 8, 10, 11, 12] rfl
      refine W_cond rfl (fun hy => ?_) (fun hy => ?_)
      · have hB2 : Best L out (i + 1) i := by
          simp only [Bool.and_eq_true, Bool.or_eq_true, Bool.not_eq_true'] at hy
          obtain ⟨⟨e1, e2⟩, e3⟩ := hy
          rw [e1] at hp1
          rw [e2] at hp2
          refine hB.yes (tt hp1) (ff hp2) ?_
          by_cases h0 : b < 0
          · exact .inl h0
          · rcases e3 with e3 | e3
            · rw [e3] at hp3; exact .inl (tt hp3)
            · rw [e3] at hp4; exact .inr ⟨b.toNat, by omega, tt hp4⟩
        refine W_chain (.a 2 rfl <| .k [3, 8, 10, 11, 12] rfl) ?_
        refine W_chain (.a 1 rfl <| .v (y_ar rfl) rfl <| .a 1 rfl <| .k [3, 8, 10, 11, 12] rfl) ?_
        exact ⟨N - (i + 1), by omega, i + 1, _, by omega, rfl, hB2, by omega, rfl⟩
      · have hB2 : Best L out (i + 1) b := hB.no (by
          rintro ⟨e1, e2, e3⟩
          rw [decide_eq_true e1] at hp1
          rw [decide_eq_false e2] at hp2
          subst hp1
          subst hp2
          have : (p3 || p4) = true := by
            rcases e3 with e3 | ⟨n, rfl, e3⟩
            · rw [decide_eq_true e3] at hp3; subst hp3; rfl
            · rw [Int.toNat_natCast, decide_eq_true e3] at hp4; subst hp4; simp
          rw [this] at hy
          cases hy)
        refine W_skip ?_
        refine W_chain (.a 1 rfl <| .v (y_ar rfl) rfl <| .a 1 rfl <| .k [3, 8, 10, 11, 12] rfl) ?_
        exact ⟨N - (i + 1), by omega, i + 1, _, by omega, rfl, hB2, by omega, rfl⟩
    · have hie : i = N := by have := ff hc; omega
      rw [hie] at hB
      refine W_exit ?_
      refine W_seq ?_
      refine W_cs (.a 2 rfl <| .k [3, 8, 10, 11, 57] rfl) ?_
      refine W_cond rfl (fun hz => ?_) (fun hz => ?_)
      · have hall := hB.none (tt hz)
        refine W_cs (.a 3 rfl <| .k [6, 7] rfl) ?_
        refine W_ret ?_
        exact ⟨_, _, ResL.of rfl, Pur.tupleL (PurL.cons (Pur.ownL rfl PurL.pure) (PurL.cons Pur.pure PurL.nil)), out, hfin out hP (fun k hk => hall k (by omega)), rfl⟩
      · obtain ⟨m, rfl⟩ := Int.eq_ofNat_of_zero_le (show 0 ≤ b by have := ff hz; omega)
        rw [← hNL] at hB
        have hP2 := hP.snoc hB
        have hl2 := hP2.len
        rw [List.length_append, List.length_singleton] at hl2
        refine W_skip ?_
        refine W_region ?_
        refine WR_a 3 rfl <| WR_l (l_append rfl (fok.rk.get rfl) rfl rfl rfl rfl (by unfold maxLen; omega)) rfl <| WR_a 1 rfl ?_
        refine WR_ren [1] (.c 3 <| .c 8 <| .c 10 <| .nil) (.kept rfl (.rowP rfl (intsP_snoc _ _)) <| .nil) rfl rfl (WR_nil ?_)
        refine ⟨N - (out.length + 1), by omega, out ++ [(m : Int)], hP2, by simp, ?_⟩
        unfold irow
        simp only [List.length_append, List.length_singleton]
set_option maxRecDepth 10000 in
set_option maxHeartbeats 2000000 in
theorem rcount_can (T : Topo) (D : List Bool) (n d : Int) (h12 : T.nodes ≤ 12) : Can Try.prog 39 [topoV T, boolsV D, num n, num d, num 2] (· = cntV T D n d (cntS T D d.toNat n.toNat)) := by
  obtain ⟨g1, hg1⟩ : ∃ q, decide (n < 0) = q := ⟨_, rfl⟩
  obtain ⟨g2, hg2⟩ : ∃ q, decide (T.nodes ≤ n) = q := ⟨_, rfl⟩
  have hnb : nodeB T n = !(g1 || g2) := by rw [← hg1, ← hg2, ← Bool.decide_or, ← decide_not]; unfold nodeB; exact decide_eq_decide.2 (by omega)
  refine can_of Try.func39 rfl Try.ntmps39 rfl ?_
  refine W_cs (.a 3 rfl <| .k [1, 2, 3, 4, 5] rfl) ?_
  refine W_cs (.a 3 rfl <| .c rfl (rdist_can T D d) rfl <| .a 5 rfl <| .k [1, 2, 3, 4, 5, 12, 13] rfl) ?_
  refine W_seq ?_
  refine W_cs (.a 2 rfl <| .k [1, 2, 3, 4, 5, 12, 13, 29] rfl) ?_
  refine W_cond rfl (fun hc => ?_) (fun hc => ?_)
  · have he0 : chkE T D [d] ≠ 0 := tt hc
    have he2 : nodeE T D n d = chkE T D [d] := by unfold nodeE; rw [if_neg he0]
    refine W_cs (.a 3 rfl <| .k [10, 11] rfl) ?_
    refine W_ret ?_
    exact ⟨_, _, ResL.of rfl, Pur.pure, by unfold cntV; rw [he2, if_neg he0]; rfl⟩
  · have he0 : chkE T D [d] = 0 := Classical.byContradiction (ff hc)
    rw [he0, if_pos rfl]
    refine W_skip ?_
    refine W_seq ?_
    refine W_csK 38 (.raw (.bool (g1 || g2))) [1, 2, 3, 4, 5, 12] rfl ?_ ?_
    · refine .a 1 rfl <| .v (y_q rfl (hg1)) rfl <| .a 1 rfl <| ?_
      cases g1
      · exact .a 3 rfl <| .v (y_q rfl (hg2)) rfl <| .a 1 rfl <| .k [38, 1, 2, 3, 4, 5, 12] rfl
      · exact .a 5 rfl <| .k [38, 1, 2, 3, 4, 5, 12] rfl
    refine W_cond rfl (fun hy => ?_) (fun hy => ?_)
    · have hn : nodeB T n = false := by rw [hnb, hy]; rfl
      have he : nodeE T D n d = 2 := by unfold nodeE; rw [if_pos he0, hn]; rfl
      refine W_cs (.a 2 rfl <| .k [10, 11] rfl) ?_
      refine W_ret ?_
      exact ⟨_, _, ResL.of rfl, Pur.pure, by unfold cntV; rw [he]; rfl⟩
    · have hn : nodeB T n = true := by rw [hnb, hy]; rfl
      have he : nodeE T D n d = 0 := by unfold nodeE; rw [if_pos he0, hn]; rfl
      obtain ⟨hv, hf, hn, hd⟩ := nodeE_zero he
      rw [nodeB_iff] at hn hd
      clear hnb hg1 hg2 hy
      obtain ⟨n, rfl⟩ := Int.eq_ofNat_of_zero_le hn.1
      obtain ⟨d, rfl⟩ := Int.eq_ofNat_of_zero_le hd.1
      simp only [Int.toNat_natCast]
      have hn := hn.2
      have hd := hd.2
      have hll := links_le hv
      have hS := sound_of hv
      obtain ⟨hb1, hb2⟩ := distL_bound (D := D) hv (dir := false) hd
      obtain ⟨N, hN⟩ : ∃ N : Nat, T.nodes = (N : Int) := ⟨T.nodes.toNat, by omega⟩
      have hNt : T.nodes.toNat = N := by omega
      refine W_skip ?_
      refine W_seq ?_
      refine W_cs (.a 2 rfl <| .k [1, 2, 3, 4, 5, 12, 40] rfl) ?_
      refine W_cond rfl (fun hc => ?_) (fun hc => ?_)
      · cases hc
      · refine W_skip ?_
        refine W_rs ?_
        refine WR_a 2 rfl <| WR_l (l_make rfl (fok.rk.get rfl) rfl rfl hN hN ⟨by unfold maxLen; omega, by omega⟩) rfl <| WR_a 1 rfl <| WR_k [1, 2, 3, 4, 5, 12, 14] rfl ?_
        refine W_sto (σ' := [irow (List.replicate N 0)]) (by unfold irow; rw [List.length_replicate, ← zeros_ints]; rfl) ?_
        refine W_rs ?_
        refine WR_a 3 rfl <| WR_v (y_min (c := 1) rfl rfl rfl rfl) rfl <| WR_v (y_ix (d) rfl (by omega) (by rw [List.length_replicate]; omega)) rfl <| WR_loud0 ((by first | exact l_storeInts rfl (fok.tk.get rfl) rfl rfl rfl (by first | omega | (simp; omega)) | exact l_storeBools rfl (fok.tk.get rfl) rfl rfl rfl (by first | omega | (simp; omega)))) rfl rfl <| WR_k [1, 2, 3, 4, 5, 12, 14] rfl ?_
        refine W_sto (σ' := [irow ((List.replicate T.nodes.toNat 0).set d 1)]) ?_ ?_
        · rw [hNt]; unfold irow; simp only [List.length_set, List.length_replicate]; rfl
        have hI0 := CntI.start (D := D) hd
        generalize (List.replicate T.nodes.toNat (0 : Int)).set d 1 = cs0 at hI0
        refine W_rs ?_
        refine WR_a 3 rfl <| WR_cS rfl rfl (CanS.mono (CanS.ofCan (order_can T D d h12 he0)) (fun _ σ' h => ?_))
        obtain ⟨⟨O, hO, rfl⟩, rfl⟩ := h
        refine WR_a 5 rfl <| WR_k [1, 2, 3, 4, 5, 12, 14, 15] rfl ?_
        have hOl : O.length ≤ 12 := by
          have h1 := nodup_le N (O.map Int.toNat) (by
            unfold List.Nodup
            rw [List.pairwise_map]
            refine List.Pairwise.imp_of_mem ?_ hO.nodup
            intro a b ha hb hne e
            obtain ⟨k, rfl, _⟩ := (hO.mem a).1 ha
            obtain ⟨k', rfl, _⟩ := (hO.mem b).1 hb
            simp only [Int.toNat_natCast] at e
            exact hne (by rw [e])) (fun x hx => by
            obtain ⟨y, hy, rfl⟩ := List.mem_map.1 hx
            obtain ⟨k, rfl, hk, _⟩ := (hO.mem y).1 hy
            rw [Int.toNat_natCast]; omega)
          rw [List.length_map] at h1
          omega
        refine W_seq ?_
        refine W_cs (.a 2 rfl <| .v (y_ar rfl) rfl <| .a 1 rfl <| .k [1, 2, 3, 4, 5, 12, 14, 15, 17] rfl) ?_
        refine W_block ?_
        refine W_k [1, 2, 3, 4, 5, 12, 14, 15, 17] rfl ?_
        refine W_loop (fun r st => ∃ (cs : List Int) (i : Nat), i ≤ O.reverse.length ∧ r = O.reverse.length - i ∧ CntI T D d O.reverse cs i ∧ st = ⟨[(1, boolsV D), (2, num n), (3, num d), (4, num 2), (5, .pin (topoP T) 0), (12, intsV (distL T D d false)), (14, .own 0), (15, intsV O), (17, num ((O.length : Int) - 1 - i))], [irow cs]⟩) O.reverse.length ⟨cs0, 0, by omega, by omega, hI0 _, by simp⟩ ?_
        rintro r st ⟨cs, i, hi, rfl, hI, rfl⟩
        have hRl : O.reverse.length = O.length := by simp
        refine W_seq ?_
        refine W_cs (.a 2 rfl <| .k [1, 2, 3, 4, 5, 12, 14, 15, 17, 60] rfl) ?_
        refine W_cond rfl (fun hx => ?_) (fun hx => ?_)
        · have hlt : i < O.reverse.length := by have := tt hx; omega
          obtain ⟨m, hm⟩ : ∃ m : Nat, O.reverse.getD i 0 = (m : Int) := by
            obtain ⟨k, hk, _⟩ := (hO.mem _).1 (List.mem_reverse.1 (getD_mem (d := 0) hlt))
            exact ⟨k, hk⟩
          have hmO : O.getD (O.length - 1 - i) 0 = (m : Int) := by
            rw [← hm, List.getD_eq_getElem?_getD, List.getD_eq_getElem?_getD, List.getElem?_reverse (by omega)]
          obtain ⟨hmN, hm0, hf0⟩ := hI.fresh hO hlt hm
          have hcl := hI.len
          have hnx := rnext1_can T D (distL T D d false) m d hv hf hb1 hb2
          rw [next_same T D m d hv hmN] at hnx
          have hnl : (nextL T D m d).length ≤ 512 := by
            have h1 : (nextL T D m d).length ≤ (outL T m).length := by unfold nextL passL; split; simp; exact List.length_filter_le _ _
            exact Nat.le_trans h1 (Nat.le_trans (outTo_len T m _) (by omega))
          have hset := set_same cs m (by omega)
          have hcr : 0 ≤ cs.getD m 0 ∧ cs.getD m 0 ≤ 2 := by rw [hf0]; split <;> omega
          refine W_skip ?_
          refine W_seq ?_
          refine W_block ?_
          refine W_drs mixed (by kernel_rfl) (.a 5 rfl <| .v [66, 67] (y_ix ((O.length - 1 - i)) rfl) rfl rfl <| .v [68] (y_ld rfl ((ints_get _ (O.length - 1 - i) (by omega)).trans (by rw [hmO]))) rfl rfl <| .a 1 rfl <| .v [63, 64, 65, 69, 70] (y_c rfl (hnx)) rfl rfl <| .a 1 rfl <| .k [1, 2, 3, 4, 5, 12, 14, 15, 17, 18] rfl) ?_
          refine W_cs (.a 1 rfl <| .k [1, 2, 3, 4, 5, 12, 14, 15, 17, 18, 19] rfl) ?_
          refine W_block ?_
          refine W_k [1, 2, 3, 4, 5, 12, 14, 15, 17, 18, 19] rfl ?_
          refine W_loop (fun r st => ∃ k : Nat, k ≤ (nextL T D m d).length ∧ r = (nextL T D m d).length - k ∧ st = ⟨[(1, boolsV D), (2, num n), (3, num d), (4, num 2), (5, .pin (topoP T) 0), (12, intsV (distL T D d false)), (14, .own 0), (15, intsV O), (17, num ((O.length : Int) - 1 - i)), (18, intsV (nextL T D m d)), (19, num k)], [irow (cs.set m (foldG T D d (cs.getD m 0) ((nextL T D m d).take k)))]⟩) (nextL T D m d).length ⟨0, by omega, by omega, by rw [List.take_zero, foldG_zero, hset]; rfl⟩ ?_
          rintro r st ⟨k, hk, rfl, rfl⟩
          have hfr := foldG_range (D := D) hv hd (cs.getD m 0) hcr.1 hcr.2 ((nextL T D m d).take k)
          have hfst := foldG_step (T := T) (D := D) (d := d) (cs.getD m 0) (nextL T D m d) k
          generalize hd12 : foldG T D d (cs.getD m 0) ((nextL T D m d).take k) = c at hfr hfst
          refine W_seq ?_
          refine W_cs (.a 4 rfl <| .k [1, 2, 3, 4, 5, 12, 14, 15, 17, 18, 19, 75] rfl) ?_
          refine W_cond rfl (fun hy => ?_) (fun hy => ?_)
          · have hkl : k < (nextL T D m d).length := by have := tt hy; omega
            obtain ⟨a, ha, han⟩ := next_mem (getD_mem (d := 0) hkl)
            have hmem : (a : Int) ∈ nextL T D m d := by rw [← ha]; exact getD_mem hkl
            obtain ⟨y, hyh, hyN⟩ := head_nat hv han.arc
            obtain ⟨hcy, hym, _⟩ := hI.next hv hd hO hlt hm hmem hyh
            have hh := rheadN_can T hv a han.arc
            rw [hyh] at hh
            have hcyr := cnt_rangeS (D := D) hv hd y
            have hg1 : (cs.set m c).getD y 0 = cntS T D d y := by rw [← hcy, List.getD_eq_getElem?_getD, List.getElem?_set, if_neg (fun e => hym e.symm), ← List.getD_eq_getElem?_getD]
            have hg2 : (cs.set m c).getD m 0 = c := by rw [List.getD_eq_getElem?_getD, List.getElem?_set, if_pos rfl, if_pos (by omega)]; rfl
            have hfst := hfst a hkl ha
            rw [hyh, Int.toNat_natCast] at hfst
            have hv2 : foldG T D d (cs.getD m 0) ((nextL T D m d).take (k + 1)) = c + min (cntS T D d y) (2 - c) := by omega
            refine W_skip ?_
            refine W_seq ?_
            refine W_block ?_
            refine W_drs mixed (by kernel_rfl) (.a 4 rfl <| .v [80, 81] (y_ix (k) rfl) rfl rfl <| .v [82] (y_ld rfl ((ints_get _ k hkl).trans (by rw [ha]))) rfl rfl <| .v [79, 83] (y_c rfl (hh)) rfl rfl <| .v [78, 84] (y_ix (y) rfl (by omega) (by simp only [List.length_set]; omega)) rfl rfl <| .v [85] (y_ld rfl ((ints_get _ y (by simp only [List.length_set]; omega)).trans (by rw [hg1]))) rfl rfl <| .a 1 rfl <| .k [1, 2, 3, 4, 5, 12, 14, 15, 17, 18, 19, 20] rfl) ?_
            refine W_drawFlt 20 8 mixed (
              .val [14] rfl (y_a rfl) rfl rfl <|
              .val [15] rfl (y_a rfl) rfl rfl <|
              .val [17] rfl (y_a rfl) rfl rfl <|
              .val [88, 89] rfl (y_ix ((O.length - 1 - i)) rfl) rfl rfl <|
              .val [90] rfl (y_ld rfl ((ints_get _ (O.length - 1 - i) (by omega)).trans (by rw [hmO]))) rfl rfl <|
              .val [87, 91] rfl (y_ix (m) rfl (by omega) (by simp only [List.length_set]; omega)) rfl rfl <|
              .val [92] rfl (y_ld rfl ((ints_get _ m (by simp only [List.length_set]; omega)).trans (by rw [hg2]))) rfl rfl <|
              .val [20] rfl (y_a rfl) rfl rfl <|
              .val [4] rfl (y_a rfl) rfl rfl <|
              .val [14] rfl (y_a rfl) rfl rfl <|
              .val [15] rfl (y_a rfl) rfl rfl <|
              .val [17] rfl (y_a rfl) rfl rfl <|
              .val [97, 98] rfl (y_ix ((O.length - 1 - i)) rfl) rfl rfl <|
              .val [99] rfl (y_ld rfl ((ints_get _ (O.length - 1 - i) (by omega)).trans (by rw [hmO]))) rfl rfl <|
              .val [96, 100] rfl (y_ix (m) rfl (by omega) (by simp only [List.length_set]; omega)) rfl rfl <|
              .val [101] rfl (y_ld rfl ((ints_get _ m (by simp only [List.length_set]; omega)).trans (by rw [hg2]))) rfl rfl <|
              .val [95, 102] rfl (y_ar rfl) rfl rfl <|
              .val [94, 103] rfl (y_min rfl rfl rfl rfl) rfl rfl <|
              .val [93, 104] rfl (y_ar rfl (hn := by unfold In64; omega)) rfl rfl <|
              .val [87, 91] rfl (y_ix (m) rfl (by omega) (by simp only [List.length_set]; omega)) rfl rfl <|
              .nil) (by kernel_rfl) rfl rfl (keepT_sub (ks := [1, 2, 3, 4, 5, 12, 14, 15, 17, 18, 19, 105, 106]) rfl) ?_
            refine WR_loud0 ((by first | exact l_storeInts rfl (fok.tk.get rfl) rfl rfl rfl (by first | omega | (simp; omega)) | exact l_storeBools rfl (fok.tk.get rfl) rfl rfl rfl (by first | omega | (simp; omega)))) rfl rfl <| WR_k [1, 2, 3, 4, 5, 12, 14, 15, 17, 18, 19] rfl ?_
            refine W_chain (.a 1 rfl <| .v (y_ar rfl) rfl <| .a 1 rfl <| .k [1, 2, 3, 4, 5, 12, 14, 15, 17, 18, 19] rfl) ?_
            refine ⟨(nextL T D m d).length - (k + 1), by omega, k + 1, by omega, rfl, ?_⟩
            rw [hv2]
            unfold irow
            simp only [List.length_set, List.set_set]
            rfl
          · have hke : k = (nextL T D m d).length := by have := ff hy; omega
            refine W_exit ?_
            refine W_chain (.a 1 rfl <| .v (y_ar rfl) rfl <| .a 1 rfl <| .k [1, 2, 3, 4, 5, 12, 14, 15, 17] rfl) ?_
            have hI2 := hI.step hv hd hO hlt hm
            rw [hke, List.take_length] at hd12
            exact ⟨O.reverse.length - (i + 1), by omega, cs.set m (foldG T D d (cs.getD m 0) (nextL T D m d)), i + 1, by omega, rfl, hI2, by rw [hd12, show (O.length : Int) - 1 - ((i + 1 : Nat) : Int) = (O.length : Int) - 1 - i - 1 by omega]⟩
        · have hie : i = O.reverse.length := by have := ff hx; omega
          subst hie
          have hres := hI.done hv hd hO hn
          have hcl := hI.len
          refine W_exit ?_
          refine W_cs (.a 2 rfl <| .v (y_ix (n) rfl) rfl <| .v (y_ld rfl ((ints_get cs n (by omega)).trans (by rw [hres]))) rfl <| .a 2 rfl <| .k [10, 11] rfl) ?_
          refine W_ret ?_
          exact ⟨_, _, ResL.of rfl, Pur.pure, by unfold cntV; rw [he, if_pos rfl]; rfl⟩
set_option maxRecDepth 10000 in
set_option maxHeartbeats 2000000 in
theorem runique_can (T : Topo) (D : List Bool) (n d : Int) (h12 : T.nodes ≤ 12) : Can Try.prog 18 [topoV T, boolsV D, num n, num d] (· = flag (uniqB T D n d)) := by
  rw [cntV_uniq]
  obtain ⟨q1, hq1⟩ : ∃ q, decide (nodeE T D n d = 0) = q := ⟨_, rfl⟩
  obtain ⟨q2, hq2⟩ : ∃ q, decide ((if nodeE T D n d = 0 then cntS T D d.toNat n.toNat else 0) = 1) = q := ⟨_, rfl⟩
  rw [hq1, hq2]
  refine can_of Try.func18 rfl Try.ntmps18 rfl ?_
  refine W_cs (.a 2 rfl <| .k [1, 2, 3, 4] rfl) ?_
  refine W_cs (.a 4 rfl <| .c rfl (rcount_can T D n d h12) rfl <| .a 5 rfl <| .k [9, 10] rfl) ?_
  refine W_csK 8 (.raw (.bool (q1 && q2))) [] rfl ?_ ?_
  · refine .a 1 rfl <| .v (y_q rfl (hq1)) rfl <| .a 1 rfl <| ?_
    cases q1
    · exact .a 4 rfl <| .k [8] rfl
    · exact .a 1 rfl <| .v (y_q rfl (hq2)) rfl <| .a 2 rfl <| .k [8] rfl
  refine W_ret ?_
  exact ⟨_, _, ResL.of rfl, Pur.pure, rfl⟩
end PW
end Go.Proofs.Ytgpdjgifhppnhaa

/- Keys of maps: whole numbers, and pairs of them. No program in sight. -/
namespace Go.Proofs.Ytgpdjgifhppnhaa
set_option linter.unusedVariables false
set_option linter.unusedSimpArgs false
namespace PW
open Go.RowKit Reg Mem

section
variable {P : Program} {kt e : TypeId}
theorem beq_dec (a b : Int) : (a == b) = decide (a = b) := Bool.eq_iff_iff.2 (by simp)
theorem chk_int (b : Bool) (n : Nat) (hu : P.underlying kt = some (.int .i64)) (a : Int) (w : World) : (Instr.checkKey b (n + 1) kt (.int .i64 a)).run P w = .ok () w := by
  simp only [Instr.checkKey, Sem.run_bind, run_underlying hu, Result.andThen_ok, Sem.run_pure]
theorem eq_int (n : Nat) (hu : P.underlying kt = some (.int .i64)) (a b : Int) (w : World) : (Op.equalIn (n + 1) kt (.int .i64 a) (.int .i64 b)).run P w = .ok (decide (a = b)) w := by
  simp only [Op.equalIn, Sem.run_bind, run_underlying hu, Result.andThen_ok, if_true, Sem.run_pure, beq_dec]
theorem intKey (hu : P.underlying kt = some (.int .i64)) : MapKey P kt (fun n : Int => Value.int .i64 n) where
  chk := fun b a w => chk_int b 9999 hu a w
  eql := fun a b w => eq_int _ hu a b w
  now := ⟨_, hu, .inl fun a b => by simp only [Instr.sameNow, if_true, beq_dec]⟩
  bits := fun a => by unfold Instr.sameBits; simp
theorem run_part_int (he : P.underlying e = some (.int .i64)) {xs : Array Value} {off : Nat} {v : Value} (hx : xs[off]? = some v) (w : World) : (Go.part e xs off).run P w = .ok v w := by
  simp [Go.part, isAgg, run_underlying he, hx]
abbrev pairV (p : Int × Int) : Array Value := #[.int .i64 p.1, .int .i64 p.2]
theorem part0 (he : P.underlying e = some (.int .i64)) (a : Int × Int) (w : World) : (Go.part e (pairV a) 0).run P w = .ok (.int .i64 a.1) w := run_part_int he rfl w
theorem part1 (he : P.underlying e = some (.int .i64)) (a : Int × Int) (w : World) : (Go.part e (pairV a) 1).run P w = .ok (.int .i64 a.2) w := run_part_int he rfl w
theorem chk_pair {i : TypeInfo} (hu : P.underlying kt = some (.array 2 e)) (he : P.underlying e = some (.int .i64)) (hi : P.info? e = some i) (hs : i.size = 1) (b : Bool) (n : Nat) (a : Int × Int) (w : World) : (Instr.checkKey b (n + 1 + 1) kt (.agg (pairV a))).run P w = .ok () w := by
  have hz : (sizeOf e).run P w = .ok 1 w := by simp [sizeOf, typeInfo, program, Sem.run, hi, hs]
  have hr : List.range' 0 2 = [0, 1] := rfl
  rw [Instr.checkKey]
  simp only [Sem.run_bind, run_underlying hu, Result.andThen_ok]
  simp only [Std.Legacy.Range.forIn_eq_forIn_range', Std.Legacy.Range.size, Nat.sub_zero, Nat.add_one_sub_one, Nat.div_one]
  rw [hr]
  simp only [List.forIn_cons, List.forIn_nil, Sem.run_bind, hz, Result.andThen_ok, Sem.run_pure, Nat.mul_one, part0 he, part1 he, chk_int b n he]
theorem eq_pair {i : TypeInfo} (hu : P.underlying kt = some (.array 2 e)) (he : P.underlying e = some (.int .i64)) (hi : P.info? e = some i) (hs : i.size = 1) (n : Nat) (a b : Int × Int) (w : World) : (Op.equalIn (n + 1 + 1) kt (.agg (pairV a)) (.agg (pairV b))).run P w = .ok (decide (a = b)) w := by
  have hsz : P.cellsOf e = 1 := by simp [Program.cellsOf, hi, hs]
  rw [run_equalIn_array w (n + 1) _ _ hu hi, hsz]
  show (Op.eqItems (n + 1) e 1 _ _ [0, 1]).run P w = _
  simp only [Op.eqItems, Sem.run_bind, Nat.mul_one, part0 he, part1 he, Result.andThen_ok, eq_int n he, Sem.run_pure]
  obtain ⟨a1, a2⟩ := a
  obtain ⟨b1, b2⟩ := b
  by_cases h1 : a1 = b1 <;> by_cases h2 : a2 = b2 <;> simp [h1, h2, Sem.run_bind, part1 he, eq_int n he, Op.eqItems]
theorem pairKey {i : TypeInfo} (hu : P.underlying kt = some (.array 2 e)) (he : P.underlying e = some (.int .i64)) (hi : P.info? e = some i) (hs : i.size = 1) : MapKey P kt (fun p : Int × Int => Value.agg (pairV p)) where
  chk := fun b a w => chk_pair hu he hi hs b 9998 a w
  eql := fun a b w => eq_pair hu he hi hs 9998 a b w
  now := ⟨_, hu, .inr fun a b => by simp only [Instr.sameNow]⟩
  bits := fun a => by
    have h := fun (n : Nat) (x : Int) => show Instr.sameBits n (.int .i64 x) (.int .i64 x) = true by unfold Instr.sameBits; simp
    show Instr.sameBits (9999 + 1) _ _ = true
    rw [Instr.sameBits]
    simp only [List.zip_cons_cons, List.all_cons, h]
    rfl
end
end PW
end Go.Proofs.Ytgpdjgifhppnhaa
