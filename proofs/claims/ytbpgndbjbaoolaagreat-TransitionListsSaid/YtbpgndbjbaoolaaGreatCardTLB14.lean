/- Texts of the proof, part 14. -/
import Derived.Test.YtbpgndbjbaoolaaGreatCardTLB13
/- The example of the laws: a ring of four nodes, its distances. -/
namespace Go.Proofs.YtbpgndbjbaoolaaGreat
set_option linter.unusedVariables false
set_option linter.unusedSimpArgs false
namespace PW
open Go.RowKit Reg Mem Net

def ringL (k : Nat) : List Lnk := (List.range k).map fun (i : Nat) => ⟨(i : Int), (((i + 1) % 4 : Nat) : Int), 1, 1, 0, 1, 0⟩
def ringT : Topo := ⟨4, [], ringL 4⟩
def ringD (d : Nat) : List Int := match d with
  | 0 => [0, 1, 2, 1]
  | 1 => [1, 0, 1, 2]
  | 2 => [2, 1, 0, 1]
  | _ => [1, 2, 1, 0]
theorem ring_valid : validB ringT = true := by kernel_rfl
theorem ring_fits : fitsB ringT [] = true := by kernel_rfl
def wayB (T : Topo) (n : Nat) (out : List Int) (a : Nat) : Bool := decide (0 ≤ at' out (arcY T false a)) && (decide (arcY T false a = (n : Int)) || !overN T (arcY T false a).toNat)
def distB (n : Nat) (out : List Int) : Bool :=
  decide (out.length = 4) && decide (at' out (n : Int) = 0) && (List.range 4).all (fun x => decide (0 ≤ at' out (x : Int))) &&
  (List.range 8).all (fun a => !wayB ringT n out a || (decide (0 ≤ at' out (arcX ringT false a)) && decide (at' out (arcX ringT false a) ≤ at' out (arcY ringT false a) + costN ringT a))) &&
  (List.range 4).all (fun x => decide (x = n) || (List.range 8).any fun a => decide (arcX ringT false a = (x : Int)) && wayB ringT n out a && decide (at' out (x : Int) = at' out (arcY ringT false a) + costN ringT a))
theorem way_iff (n : Nat) (out : List Int) (a : Nat) : Net.Way ringT [] n false out a ↔ wayB ringT n out a = true := by
  unfold Net.Way wayB
  have : downN [] a = false := by simp [downN]
  simp [this]
theorem dist_of {n : Nat} {out : List Int} (h : distB n out = true) : IsDist ringT [] n false out := by
  simp only [distB, Bool.and_eq_true, decide_eq_true_eq, List.all_eq_true, List.mem_range, Bool.or_eq_true, Bool.not_eq_true', List.any_eq_true] at h
  obtain ⟨⟨⟨⟨h1, h2⟩, h3⟩, h4⟩, h5⟩ := h
  refine ⟨by rw [h1]; rfl, h2, fun x hx => ?_, fun a ha hw => ?_, fun x hx _ => ?_⟩
  · have := h3 x (by have : ringT.nodes = 4 := rfl; omega); omega
  · rcases h4 a (by have : ringT.links.length = 4 := rfl; omega) with h | h
    · rw [(way_iff n out a).1 hw] at h; cases h
    · exact h
  · rcases h5 x (by have : ringT.nodes = 4 := rfl; omega) with h | ⟨a, ha, ⟨h6, h7⟩, h8⟩
    · exact .inl h
    · exact .inr ⟨a, by have : ringT.links.length = 4 := rfl; omega, h6, (way_iff n out a).2 h7, h8⟩
theorem ring_dist (d : Nat) (hd : d < 4) : distL ringT [] d false = ringD d := by
  refine distL_eq (sound_of ring_valid) (dist_of ?_)
  match d, hd with
  | 0, _ => exact (show distB 0 (ringD 0) = true by kernel_rfl)
  | 1, _ => exact (show distB 1 (ringD 1) = true by kernel_rfl)
  | 2, _ => exact (show distB 2 (ringD 2) = true by kernel_rfl)
  | 3, _ => exact (show distB 3 (ringD 3) = true by kernel_rfl)
theorem lnksP_snoc (l : List Lnk) (e : Lnk) : lnksP l ++ lnkP e = lnksP (l ++ [e]) := by simp [lnksP]
theorem ringL_step (k : Nat) : ringL (k + 1) = ringL k ++ [⟨(k : Int), (((k + 1) % 4 : Nat) : Int), 1, 1, 0, 1, 0⟩] := by simp [ringL, List.range_succ]
/-- A pair of constants. -/
theorem y_build2 {P : Program} {σ : Sto} {t : Tms} {o : Oper} {ty : TypeId} {v0 v1 c0 c1 : Value} (ho : o.op = .build ty #[(0, .const v0), (1, .const v1)]) (hb : P.built ty [(0, v0), (1, v1)] = some #[c0, c1]) : Yield P σ t o (.agg [.raw c0, .raw c1]) := by
  intro F base E ρ w hρ hS hT
  have hrun := run_build (P := P) w ty #[(0, v0), (1, v1)] #[c0, c1] hb
  have h0 : ρ (.const v0) = v0 := hρ.const v0
  have h1 : ρ (.const v1) = v1 := hρ.const v1
  have hr : (execOp ρ o).run P w = .ok (.value (.agg #[c0, c1])) w := by
    simp only [execOp, ho, Sem.run_bind, List.map_toArray, List.map_cons, List.map_nil, h0, h1, hrun, Result.andThen_ok, Sem.run_pure]
  rw [hr]
  refine upon_val (.agg #[c0, c1] _ rfl (fun i x u k1 k2 => ?_))
  match i, k1, k2 with
  | 0, k1, k2 => simp at k1 k2; subst k1; subst k2; exact .raw _
  | 1, k1, k2 => simp at k1 k2; subst k1; subst k2; exact .raw _
  | _ + 2, k1, k2 => simp at k2
end PW
end Go.Proofs.YtbpgndbjbaoolaaGreat

/- Texts of segments with small numbers: the reference of layers 9 and 18. -/
namespace Go.Proofs.YtbpgndbjbaoolaaGreat
set_option linter.unusedVariables false
set_option linter.unusedSimpArgs false
namespace PW
open Go.RowKit Reg Mem Net

abbrev strB (l : List UInt8) : PV := .raw (.string ⟨l.toArray⟩)
theorem bytes_no (a b : UInt8) : ((⟨#[a, b]⟩ : ByteArray).toList == (⟨#[]⟩ : ByteArray).toList) = false := by
  have h : ∀ (ba : ByteArray) i r, ByteArray.toList.loop ba i r = if i < ba.size then ByteArray.toList.loop ba (i + 1) (ba.get! i :: r) else r.reverse := fun ba i r => by rw [ByteArray.toList.loop]
  have h2 : (⟨#[]⟩ : ByteArray).toList = [] := by
    unfold ByteArray.toList
    rw [h, if_neg (by show ¬ 0 < 0; omega)]
    rfl
  have h3 : (⟨#[a, b]⟩ : ByteArray).toList = [a, b] := by
    unfold ByteArray.toList
    rw [h, if_pos (by show 0 < 2; omega), h, if_pos (by show 1 < 2; omega), h, if_neg (by show ¬ 2 < 2; omega)]
    rfl
  rw [h2, h3]
  rfl
theorem cat_bytes (a b : List UInt8) : (⟨a.toArray⟩ : ByteArray) ++ ⟨b.toArray⟩ = ⟨(a ++ b).toArray⟩ := by
  apply ByteArray.ext
  simp
theorem y_catB {P : Program} {σ : Sto} {t : Tms} {o : Oper} {x y : Operand} {ty tz : TypeId} {a b : List UInt8} (ho : o.op = .binOp .add ty x y tz) (hx : evalO t x = some (strB a)) (hy : evalO t y = some (strB b)) (hn : a.length + b.length ≤ 1000000) : Yield P σ t o (strB (a ++ b)) :=
  y_cat ho hx hy (cat_bytes a b) (by show a.toArray.size + b.toArray.size ≤ _; simp; omega)
theorem y_oneByte {P : Program} {σ : Sto} {t : Tms} {o : Oper} {src dst e : TypeId} {x : Operand} {c : UInt8} (ho : o.op = .convert src dst x) (hs : P.underlying src = some (.slice e)) (hd : P.underlying dst = some .string) (he : P.underlying e = some (.int .u8)) (hx : evalO t x = some (.slice 1 [.raw (.int .u8 c.toNat)])) : Yield P σ t o (strB [c]) := by
  intro F base E ρ w hρ _ hT
  have h1 := evalO_rep hρ hT hx
  generalize hz : ρ x = z at h1
  cases h1 with
  | slice b off _ cap cs _ h0 h1 h2 hb hM hc hl hr =>
    match cs, hl, hc, hr with
    | [v], _, hc, hr =>
      have hv := rep_raw (hr 0 v _ rfl rfl)
      subst hv
      have hlc := run_loadCellsFrom (P := P) ⟨b, off, none⟩ rfl [.int .u8 c.toNat] 0 #[] w (fun j x hx => by rw [Nat.zero_add]; exact hc j x hx)
      have hrun : (convert src dst (.slice (some ⟨b, off, none⟩) 1 cap)).run P w = .ok (.string ⟨[c].toArray⟩) w := by
        simp only [convert, Sem.run_bind, run_underlying hs, run_underlying hd, run_underlying he, Result.andThen_ok, Conv.bytesToString, loadCells]
        rw [show (1 : Nat) = [Value.int .u8 c.toNat].length from rfl, hlc]
        simp
        rfl
      simp only [execOp, ho, hz, Sem.run_bind, hrun]
      exact upon_val (.raw _)
theorem y_addU {P : Program} {σ : Sto} {t : Tms} {o : Oper} {x y : Operand} {ty tz : TypeId} {a b c : Int} (ho : o.op = .binOp .add ty x y tz) (hx : evalO t x = some (.raw (.int .u64 a))) (hy : evalO t y = some (.raw (.int .u64 b))) (hc : IntKind.u64.wrap (a + b) = c) : Yield P σ t o (.raw (.int .u64 c)) :=
  y_int ho hx hy fun w => by simp [binOp, Op.intArith, hc]
def dig (n : Nat) : UInt8 := UInt8.ofNat (48 + n)
theorem dig_nat {n : Nat} (h : n < 10) : (dig n).toNat = 48 + n := by unfold dig; rw [UInt8.toNat_ofNat']; omega
set_option maxRecDepth 10000 in
set_option maxHeartbeats 1000000 in
theorem digits_can (n : Nat) (hn : n < 10) : Can Tryz.prog 162 [.raw (.int .u64 n)] (· = strB [dig n]) := by
  refine can_of Tryz.func162 rfl Tryz.ntmps162 rfl ?_
  refine W_cs (.a 1 rfl <| .k [0] rfl) ?_
  refine W_seq ?_
  refine W_cs (.a 1 rfl <| .v (y_lss rfl rfl rfl rfl) rfl <| .k [0, 4] rfl) ?_
  refine W_cond rfl (fun hc => ?_) (fun hc => ?_)
  · refine W_cs (.a 1 rfl <| .v (y_addU (c := ((dig n).toNat : Int)) rfl rfl rfl (by rw [IntKind.wrap_u64, dig_nat hn]; omega)) rfl <| .v (y_conv rfl Tryz.underlying172 Tryz.underlying5 rfl (u8_wrap _ (by rw [dig_nat hn]; omega))) rfl <| .a 1 rfl <| .v (y_oneByte rfl Tryz.underlying176 Tryz.underlying9 Tryz.underlying5 rfl) rfl <| .a 1 rfl <| .k [2] rfl) ?_
    refine W_ret ?_
    exact ⟨_, _, ResL.of rfl, Pur.pure, rfl⟩
  · exact absurd (ff hc) (by omega)
set_option maxRecDepth 10000 in
set_option maxHeartbeats 1000000 in
theorem number_can (n : Nat) (hn : n < 10) : Can Tryz.prog 140 [num n] (· = strB [dig n]) := by
  refine can_of Tryz.func140 rfl Tryz.ntmps140 rfl ?_
  refine W_cs (.a 1 rfl <| .k [0] rfl) ?_
  refine W_seq ?_
  refine W_cs (.a 2 rfl <| .k [0, 4] rfl) ?_
  refine W_cond rfl (fun hc => ?_) (fun hc => ?_)
  · exact absurd (tt hc) (by omega)
  · refine W_skip ?_
    refine W_cs (.a 1 rfl <| .v (y_conv (c := (n : Int)) rfl Tryz.underlying3 Tryz.underlying172 rfl (by rw [IntKind.wrap_u64]; omega)) rfl <| .c rfl (digits_can n hn) rfl <| .a 1 rfl <| .k [2] rfl) ?_
    refine W_ret ?_
    exact ⟨_, _, ResL.of rfl, Pur.pure, rfl⟩
theorem y_build5 {P : Program} {σ : Sto} {t : Tms} {o : Oper} {ty : TypeId} {v0 v1 v2 v3 v4 : Value} (ho : o.op = .build ty #[(0, .const v0), (1, .const v1), (2, .const v2), (3, .const v3), (4, .const v4)]) (hb : P.built ty [(0, v0), (1, v1), (2, v2), (3, v3), (4, v4)] = some #[v0, v1, v2, v3, v4]) : Yield P σ t o (.agg [.raw v0, .raw v1, .raw v2, .raw v3, .raw v4]) := by
  intro F base E ρ w hρ hS hT
  have hrun := run_build (P := P) w ty #[(0, v0), (1, v1), (2, v2), (3, v3), (4, v4)] #[v0, v1, v2, v3, v4] hb
  have hr : (execOp ρ o).run P w = .ok (.value (.agg #[v0, v1, v2, v3, v4])) w := by
    simp only [execOp, ho, Sem.run_bind, List.map_toArray, List.map_cons, List.map_nil, hρ.const, hrun, Result.andThen_ok, Sem.run_pure]
  rw [hr]
  refine upon_val (.agg #[v0, v1, v2, v3, v4] _ rfl (fun i x u k1 k2 => ?_))
  match i, k1, k2 with
  | 0, k1, k2 => simp at k1 k2; subst k1; subst k2; exact .raw _
  | 1, k1, k2 => simp at k1 k2; subst k1; subst k2; exact .raw _
  | 2, k1, k2 => simp at k1 k2; subst k1; subst k2; exact .raw _
  | 3, k1, k2 => simp at k1 k2; subst k1; subst k2; exact .raw _
  | 4, k1, k2 => simp at k1 k2; subst k1; subst k2; exact .raw _
  | _ + 5, k1, k2 => simp at k2
abbrev kindP : List PV := [strB [], strB [110], strB [97], strB [103], strB [98]]
set_option maxRecDepth 10000 in
set_option maxHeartbeats 1000000 in
theorem stext_can (n : Nat) (hn : n < 10) : Can Tryz.prog 99 [segV ⟨1, n⟩] (· = strB [110, dig n]) := by
  obtain ⟨q1, hq1⟩ : ∃ q, decide ((n : Int) < 0) = q := ⟨_, rfl⟩
  obtain ⟨q2, hq2⟩ : ∃ q, decide ((999999999 : Int) < (n : Int)) = q := ⟨_, rfl⟩
  refine can_of Tryz.func99 rfl Tryz.ntmps99 rfl ?_
  refine W_cs (.a 2 rfl <| .k [1] rfl) ?_
  refine W_seq ?_
  refine W_csK 21 (.raw (.bool (q1 || q2))) [1] rfl ?_ ?_
  · refine .a 11 rfl <| .v (y_q rfl (hq1)) rfl <| .a 2 rfl <| ?_
    cases q1
    · exact .a 2 rfl <| .v (y_q rfl (hq2)) rfl <| .a 1 rfl <| .k [21, 1] rfl
    · exact .a 4 rfl <| .k [21, 1] rfl
  refine W_cond rfl (fun hc => ?_) (fun hc => ?_)
  · have e1 : q1 = false := by rw [← hq1]; exact decide_eq_false (by omega)
    have e2 : q2 = false := by rw [← hq2]; exact decide_eq_false (by omega)
    rw [e1, e2] at hc
    cases hc
  · refine W_skip ?_
    refine W_rs ?_
    refine WR_v (y_build5 rfl (by kernel_rfl)) rfl <| WR_a 2 rfl <| WR_k [1, 3] rfl ?_
    refine W_sto (σ' := [some (.cells 149 kindP)]) rfl ?_
    refine W_sealPtr 3 0 0 rfl rfl ?_
    refine W_ren [] (.cons 1 rfl Ren.pure <| .cons 3 rfl (Ren.pure (p := .pin kindP 0)) .nil) .nil rfl rfl ?_
    refine W_drs mixed (by kernel_rfl) (.a 2 rfl <| .v [3, 24] (y_ix (1) rfl (show (0 : Int) ≤ 1 by decide) (show (1 : Int) < 5 by decide) rfl) rfl rfl <| .v [25] (y_ld rfl ((show kindP[1]? = some (strB [110]) from rfl))) rfl rfl <| .a 2 rfl <| .v [28] (y_c rfl (number_can n hn)) rfl rfl <| .v [26, 29] (y_catB rfl rfl rfl (by simp)) rfl rfl <| .a 1 rfl <| .k [2] rfl) ?_
    refine W_ret ?_
    exact ⟨_, _, ResL.of rfl, Pur.pure, rfl⟩
/-- The text of a list of node segments. -/
def txtL : List Nat → List UInt8
  | [] => []
  | n :: l => [110, dig n] ++ (if l = [] then [] else 32 :: txtL l)
def txtK (l : List Nat) (k : Nat) : List UInt8 := ((List.range k).flatMap fun i => (if 0 < i then [32] else []) ++ [110, dig (l.getD i 0)])
theorem txtK_step (l : List Nat) (k : Nat) : txtK l (k + 1) = txtK l k ++ ((if 0 < k then [32] else []) ++ [110, dig (l.getD k 0)]) := by
  unfold txtK
  rw [List.range_succ, List.flatMap_append]
  simp
theorem txtK_len (l : List Nat) (k : Nat) : (txtK l k).length ≤ 3 * k := by
  induction k with
  | zero => simp [txtK]
  | succ k ih => rw [txtK_step]; simp only [List.length_append]; split <;> simp <;> omega
def nodeS (l : List Nat) : List Seg := l.map fun (n : Nat) => (⟨1, (n : Int)⟩ : Seg)
set_option maxRecDepth 10000 in
set_option maxHeartbeats 1000000 in
theorem tlist_can (l : List Nat) (hl : ∀ n ∈ l, n < 10) (hll : l.length ≤ 1000) : Can Tryz.prog 50 [segsV (nodeS l)] (· = strB (txtK l l.length)) := by
  have hsl : (nodeS l).length = l.length := by simp [nodeS]
  refine can_of Tryz.func50 rfl Tryz.ntmps50 rfl ?_
  refine W_cs (.a 1 rfl <| .k [0] rfl) ?_
  refine W_cs (.a 1 rfl <| .k [0, 3] rfl) ?_
  refine W_seq ?_
  refine W_cs (.a 1 rfl <| .k [0, 3, 4] rfl) ?_
  refine W_block ?_
  refine W_k [0, 3, 4] rfl ?_
  refine W_loop (fun r st => ∃ k : Nat, k ≤ l.length ∧ r = l.length - k ∧ st = ⟨[(0, segsV (nodeS l)), (3, strB (txtK l k)), (4, num k)], []⟩) l.length ⟨0, by omega, by omega, rfl⟩ ?_
  rintro r st ⟨k, hk, rfl, rfl⟩
  have htl := txtK_len l k
  refine W_seq ?_
  refine W_cs (.a 4 rfl <| .k [0, 3, 4, 8] rfl) ?_
  refine W_cond rfl (fun h1 => ?_) (fun h1 => ?_)
  · have hlt : k < l.length := by have := tt h1; omega
    have hg : (nodeS l)[k]? = some ⟨1, ((l.getD k 0 : Nat) : Int)⟩ := by simp [nodeS, hlt]
    have h10 := hl _ (getD_mem (d := 0) hlt)
    have hst := txtK_step l k
    refine W_skip ?_
    refine W_seq ?_
    refine W_block ?_
    refine W_seq ?_
    refine W_cs (.a 2 rfl <| .v (y_ix ((k * 2)) rfl) rfl <| .v (y_la rfl (segs_drop _ k _ hg) rfl) rfl <| .c rfl (stext_can _ h10) rfl <| .v (y_strEql (q := false) rfl rfl rfl (bytes_no _ _)) rfl <| .k [0, 3, 4, 16] rfl) ?_
    refine W_cond rfl (fun hc => ?_) (fun hc => ?_)
    · cases hc
    · refine W_skip ?_
      refine W_seq ?_
      refine W_cs (.a 2 rfl <| .k [0, 3, 4, 18] rfl) ?_
      refine W_cond rfl (fun h2 => ?_) (fun h2 => ?_)
      · have h3 : 0 < k := by have := tt h2; omega
        rw [if_pos h3] at hst
        refine W_chain (.a 1 rfl <| .v (y_catB (b := [32]) rfl rfl rfl (by simp; omega)) rfl <| .a 1 rfl <| .k [0, 3, 4] rfl) ?_
        refine W_chain (.a 3 rfl <| .v (y_ix ((k * 2)) rfl) rfl <| .v (y_la rfl (segs_drop _ k _ hg) rfl) rfl <| .c rfl (stext_can _ h10) rfl <| .v (y_catB rfl rfl rfl (by simp; omega)) rfl <| .a 1 rfl <| .k [0, 3, 4] rfl) ?_
        refine W_chain (.a 1 rfl <| .v (y_ar rfl) rfl <| .a 1 rfl <| .k [0, 3, 4] rfl) ?_
        refine ⟨l.length - (k + 1), by omega, k + 1, by omega, rfl, ?_⟩
        rw [hst]
        first
          | rfl
          | (rw [← List.append_assoc]; rfl)
          | (rw [List.nil_append]; rfl)
      · have h3 : ¬ 0 < k := by have := ff h2; omega
        rw [if_neg h3] at hst
        refine W_skip ?_
        refine W_chain (.a 3 rfl <| .v (y_ix ((k * 2)) rfl) rfl <| .v (y_la rfl (segs_drop _ k _ hg) rfl) rfl <| .c rfl (stext_can _ h10) rfl <| .v (y_catB rfl rfl rfl (by simp; omega)) rfl <| .a 1 rfl <| .k [0, 3, 4] rfl) ?_
        refine W_chain (.a 1 rfl <| .v (y_ar rfl) rfl <| .a 1 rfl <| .k [0, 3, 4] rfl) ?_
        refine ⟨l.length - (k + 1), by omega, k + 1, by omega, rfl, ?_⟩
        rw [hst]
        first
          | rfl
          | (rw [← List.append_assoc]; rfl)
          | (rw [List.nil_append]; rfl)
  · have hke : k = l.length := by have := ff h1; omega
    subst hke
    refine W_exit ?_
    refine W_cs (.a 2 rfl <| .k [2] rfl) ?_
    refine W_ret ?_
    exact ⟨_, _, ResL.of rfl, Pur.pure, rfl⟩
end PW
end Go.Proofs.YtbpgndbjbaoolaaGreat

/- New results of calls that read rows of their caller's; the examples of layer 28. -/
namespace Go.Proofs.YtbpgndbjbaoolaaGreat
set_option linter.unusedVariables false
set_option linter.unusedSimpArgs false
namespace PW
open Go.RowKit Reg Mem Net

section
variable {P : Program} {σ : Sto} {t : Tms} {o : Oper}
theorem own_new {base : Nat} {σ1 : Sto} {E1 E : Env} {w : World} (hS : Sat (fun _ => False) base σ1 E1 w) {i e s n : Nat} {xs : List PV} (hi : σ1[i]? = some (some (.row e s n xs))) {v : Value} (hv : Rep E1 w v (.own i)) [hx : IsFlatL xs] (hE : ∀ b, E.M b → b < base) : Rep E w v (.slice n xs) := by
  cases hv with
  | own _ hiL _ h _ =>
    obtain ⟨cs, k1, k2⟩ := hS.blk i _ hi
    rw [h] at k1
    have k3 := k1
    rcases k1.2 with ⟨rfl, h0⟩ | ⟨b, cap, cur, rfl, hb, hg, hn, hc, hs', ht⟩
    · subst h0
      have : xs = [] := by
        have := k3.1; simp at this; subst this
        exact List.eq_nil_of_length_eq_zero k2.1.symm
      subst this
      exact .nils
    · by_cases h0 : n = 0
      · subst h0
        have : xs = [] := by
          have := k3.1; simp at this; subst this
          exact List.eq_nil_of_length_eq_zero k2.1.symm
        subst this
        exact .empty _ _ hc
      · refine .slice b 0 n cap cs xs (by omega) hn hc (Array.getElem?_eq_some_iff.1 hg).1 (fun hM => by have := hE b hM; omega) (fun j x hx => ?_) k2.1 (fun j x u h1 h2 => (hx.out j u h2).out _ _ _ _ _ (k2.2 j x u h1 h2))
        have := k3.cells (g := b) rfl j x hx
        rw [Addr.add_lit] at this
        exact this
/-- A call that only reads local blocks; its result is a row of its own making. -/
theorem y_cF {Φ : Fac} [hP : Has P Φ] {f n : Nat} {ps qs xs : List PV} {z : Value} (h : callK Φ t o.op = some (f, ps)) (hq : PurL σ ps qs) (hc : CanS P f qs [] (fun r σ1 => ∃ i e s, r = .tuple [.own i, .raw z] ∧ σ1[i]? = some (some (.row e s n xs)))) [hx : IsFlatL xs] : Yield P σ t o (.tuple [.slice n xs, .raw z]) := by
  obtain ⟨x, args, ats, cap, ps', ho, hf, hx', ha, rfl⟩ := callK_spec hP.ok h
  intro F base E ρ w hρ hS hT
  have h1 := evalO_rep hρ hT hx'
  have h2 := evalL_rep hρ hT ha
  generalize hz : ρ x = z at h1
  cases h1 with
  | func _ cs _ hl hr =>
    rw [run_callValue hf ho hz w]
    refine ⟨Ext.refl _, ?_⟩
    have h3 : RepL E w (args.map ρ ++ cs).toList (ps' ++ cap) := by
      rw [Array.toList_append, Array.toList_map]
      exact h2.append ⟨by simpa using hl, fun i x u k1 k2 => hr i x u (by simpa using k1) k2⟩
    refine (hc (fun _ => False) w.heap.size (EF fun _ => False) w _ (Sat.start _ w (fun _ h => h.elim) (hS.gl.sub fun _ h => h.elim)) (hq.rep hS (fun _ h => h.elim) (fun _ h => h.elim) h3)).mono ?_
    rintro e w' ⟨v, r, σ1, E1, rfl, ⟨i, e, s, rfl, hi⟩, hS1, _, hb, hv⟩
    refine ⟨_, rfl, hb, ?_⟩
    cases hv with
    | tuple vs _ hl hr =>
      refine .tuple vs _ hl (fun j c u k1 k2 => ?_)
      match j, k2 with
      | 0, k2 =>
        simp at k2
        subst k2
        exact own_new hS1 hi (hr 0 c _ k1 rfl) (fun b hb => hS.lt hb)
      | 1, k2 =>
        simp at k2
        subst k2
        have := hr 1 c _ k1 rfl
        cases this
        exact .raw _
      | _ + 2, k2 => simp at k2
theorem CanS.nils {f : FuncId} {a : PV} {l : List PV} {R : PV → Sto → Prop} (h : CanS P f (a :: boolsV [] :: l) σ R) : CanS P f (a :: .raw (.slice none 0 0) :: l) σ R := fun F base E w vs hS hR => by
  refine h F base E w vs hS ⟨hR.1, fun i c u h1 h2 => ?_⟩
  match i, h2 with
  | 0, h2 => exact hR.2 0 c u h1 h2
  | 1, h2 =>
    simp at h2
    subst h2
    have := hR.2 1 c _ h1 rfl
    cases this
    exact .nils
  | i + 2, h2 => exact hR.2 (i + 2) c u h1 h2
end
set_option maxRecDepth 10000 in
set_option maxHeartbeats 2000000 in
theorem elistS_can (T : Topo) (D : List Bool) (p : List Int) (n : Int) (he : folE T D n p = 0) (hp : p.length ≤ 1000) (hlk : T.links.length ≤ 256) (h12 : T.nodes ≤ 12) : CanS Tryz.prog 115 [topoV T, boolsV D, intsV p, num n] [] (fun r σ1 => r = .tuple [.own 5, num 0] ∧ σ1[5]? = some (srow (lstL T D n p))) := by
  refine canS_of Tryz.func115 rfl Tryz.ntmps115 rfl ?_
  refine W_cs (.a 3 rfl <| .k [1, 2, 3, 4] rfl) ?_
  refine W_scope ?_
  refine W_rs ?_
  refine WR_a 4 rfl <| WR_cS rfl rfl (CanS.mono (follow_one T D p n hp hlk) (fun r σ' h => ?_))
  obtain ⟨x, rfl, hx⟩ := h
  refine WR_a 5 rfl <| WR_k [2, 4, 10, 11] rfl ?_
  refine W_seq ?_
  refine W_cs (.a 2 rfl <| .k [2, 4, 10, 11, 24] rfl) ?_
  refine W_cond rfl (fun hc => ?_) (fun hc => ?_)
  · exact absurd he (tt hc)
  · obtain ⟨rfl, rfl⟩ := hx he
    have hF := fol_of he
    have hv := hF.valid
    have hS := sound_of hv
    have hN := hS.nodes
    have ha := hF.arcs
    obtain ⟨N, hNN⟩ : ∃ N : Nat, T.nodes = (N : Int) := ⟨T.nodes.toNat, by omega⟩
    rw [he]
    clear hc
    refine W_skip ?_
    refine W_cs (.a 1 rfl <| .k [2, 4, 10, 12] rfl) ?_
    refine W_adopt 12 53 2 rfl ?_
    refine W_cs (.a 1 rfl <| .k [2, 4, 10, 12, 13] rfl) ?_
    refine W_seq ?_
    refine W_label ?_
    refine W_seq ?_
    refine W_block ?_
    refine W_k [2, 4, 10, 12, 13] rfl ?_
    refine W_loop (fun r st => ∃ (l : List Seg) (i f : Nat) (dm : List (Int × PV)) (um : List ((Int × Int) × PV)), i ≤ p.length ∧ p.length - i ≤ f ∧ l.length ≤ i ∧ r = p.length - i ∧ lstL T D n p = l ++ lstF T D n p f i ∧ MemD T D dm ∧ MemU T D um ∧ st = ⟨[(2, intsV p), (4, .pin (topoP T) 0), (10, .ptr 4 0), (12, .own 5), (13, num i)], trk T D p (ndL T n p) (csL T p) dm um ++ [srow l]⟩) p.length ⟨[], 0, p.length, [], [], by omega, by omega, by simp, by omega, rfl, (fun _ _ h => by cases h), (fun _ _ h => by cases h), rfl⟩ ?_
    rintro r st ⟨l, i, f, dm, um, hi, hif, hli, rfl, hl, hdm, hum, rfl⟩
    refine W_seq ?_
    refine W_cs (.a 4 rfl <| .k [2, 4, 10, 12, 13, 29] rfl) ?_
    refine W_cond rfl (fun h1 => ?_) (fun h1 => ?_)
    · have hlt : i < p.length := by have := tt h1; omega
      refine W_skip ?_
      refine W_block ?_
      refine W_seq ?_
      obtain ⟨m, hm⟩ : ∃ m : Nat, min (p.length : Int) ((i : Int) + (N : Int) - 1) = (m : Int) := ⟨(min (p.length : Int) ((i : Int) + (N : Int) - 1)).toNat, by omega⟩
      have hfar : ∀ k, m < k → k ≤ p.length → covB T D n p i k = false := fun k h2 h3 => by
        cases hcv : covB T D n p i k with
        | false => rfl
        | true =>
          have := cov_far hF (i := i) (j := k) (by omega) h3 hcv
          omega
      refine W_cs (.a 4 rfl <| .v (y_ld rfl ((show some (num T.nodes) = some (num (N : Int)) by rw [hNN]))) rfl <| .v (y_ar rfl) rfl <| .v (y_ar rfl) rfl <| .v (y_min rfl rfl rfl (hm)) rfl <| .a 1 rfl <| .k [2, 4, 10, 12, 13, 14] rfl) ?_
      refine W_block ?_
      refine W_k [2, 4, 10, 12, 13, 14] rfl ?_
      refine W_loop (fun r st => ∃ (j : Nat) (dm : List (Int × PV)) (um : List ((Int × Int) × PV)), i ≤ j ∧ j ≤ p.length ∧ r = j ∧ (∀ k, j < k → k ≤ p.length → covB T D n p i k = false) ∧ MemD T D dm ∧ MemU T D um ∧ st = ⟨[(2, intsV p), (4, .pin (topoP T) 0), (10, .ptr 4 0), (12, .own 5), (13, num i), (14, num j)], trk T D p (ndL T n p) (csL T p) dm um ++ [srow l]⟩) m ⟨m, dm, um, by omega, by omega, rfl, hfar, hdm, hum, rfl⟩ ?_
      clear hdm hum
      rintro r st ⟨j, dm, um, hij, hj, rfl, hno, hdm, hum, rfl⟩
      refine W_seq ?_
      refine W_cs (.a 3 rfl <| .k [2, 4, 10, 12, 13, 14, 40] rfl) ?_
      refine W_cond rfl (fun h2 => ?_) (fun h2 => ?_)
      · have hlt2 : i < r := by have := tt h2; omega
        refine W_skip ?_
        refine W_seq ?_
        refine W_block ?_
        refine W_rs ?_
        refine WR_a 3 rfl <| WR_cS rfl rfl (CanS.mono (covered_can T D p n dm um (srow l) (srow_pure l) hv hF.fits h12 hF.node ha hp i r (by omega) hj hdm hum) (fun _ σ' h => ?_))
        obtain ⟨rfl, dm1, um1, hdm1, hum1, rfl⟩ := h
        refine WR_k [2, 4, 10, 12, 13, 14, 46] rfl ?_
        refine W_cond rfl (fun h3 => ?_) (fun h3 => ?_)
        · have hgj := ndL_get T n p r hj
          have hl1 := ndL_len T n p
          refine W_rs ?_
          refine WR_a 6 rfl <| WR_v (y_ix (r) rfl) rfl <| WR_v (y_ld rfl ((ints_get _ r (by omega)).trans (by rw [hgj]))) rfl <| WR_a 2 rfl <| WR_l (l_append rfl (fok.rk.get rfl) rfl rfl rfl rfl (by unfold maxLen; omega)) rfl <| WR_a 1 rfl ?_
          refine WR_ren [0, 1, 2, 3, 4, 6] (.c 2 <| .c 4 <| .c 10 <| .c 12 <| .c 14 <| .nil) (.kept rfl (.row RenL.pure) <| .kept rfl (.row RenL.pure) <| .same (MemD.pure hdm1) rfl <| .same (MemU.pure hum1) rfl <| .kept rfl (.cells (RenL.c <| RenL.c <| RenL.c <| RenL.c <| RenL.c <| RenL.c <| RenL.c <| RenL.c <| RenL.c <| RenL.nil)) <| .kept rfl (.rowP rfl (segsP_snoc _ ⟨1, endL T n (p.take r)⟩)) <| .nil) rfl rfl (WR_nil ?_)
          refine W_cs (.a 2 rfl <| .k [2, 4, 10, 12, 13] rfl) ?_
          refine W_exit ?_
          cases f with
          | zero => omega
          | succ f =>
            first
              | (refine ⟨p.length - r, by omega, l ++ [⟨1, endL T n (p.take r)⟩], r, f, dm1, um1, by omega, by omega, by simp; omega, rfl, ?_, hdm1, hum1, ?_⟩
                 · rw [hl, lst_some hlt hlt2 hj h3 hno, List.append_assoc]; rfl
                 · unfold srow; simp only [List.length_append, List.length_singleton]; rfl)
              | (refine ⟨p.length - (i + 1), by omega, l ++ [⟨2, p.getD i 0⟩], i + 1, f, dm, um, by omega, by omega, by simp; omega, rfl, ?_, hdm, hum, ?_⟩
                 · rw [hl, lst_none hlt hno2, List.append_assoc]; rfl
                 · unfold srow; simp only [List.length_append, List.length_singleton]; rfl)
        · skip
          refine W_skip ?_
          refine W_chain (.a 1 rfl <| .v (y_ar rfl) rfl <| .a 1 rfl <| .k [2, 4, 10, 12, 13, 14] rfl) ?_
          refine ⟨r - 1, by omega, r - 1, dm1, um1, by omega, by omega, rfl, fun k h4 h5 => ?_, hdm1, hum1, ?_⟩
          · by_cases e : k = r
            · rw [e]; exact h3
            · exact hno k (by omega) h5
          · rw [show ((r - 1 : Nat) : Int) = (r : Int) - 1 by omega]
      · have hno2 : ∀ k, i < k → k ≤ p.length → covB T D n p i k = false := fun k h3 h4 => hno k (by have := ff h2; omega) h4
        refine W_exit ?_
        refine W_rs ?_
        refine WR_a 3 rfl <| WR_v (y_ix (i) rfl) rfl <| WR_v (y_ld rfl (ints_get _ i hlt)) rfl <| WR_a 2 rfl <| WR_l (l_append rfl (fok.rk.get rfl) rfl rfl rfl rfl (by unfold maxLen; omega)) rfl <| WR_a 1 rfl ?_
        refine WR_ren [0, 1, 2, 3, 4, 6] (.c 2 <| .c 4 <| .c 10 <| .c 12 <| .c 13 <| .nil) (.kept rfl (.row RenL.pure) <| .kept rfl (.row RenL.pure) <| .same (MemD.pure hdm) rfl <| .same (MemU.pure hum) rfl <| .kept rfl (.cells (RenL.c <| RenL.c <| RenL.c <| RenL.c <| RenL.c <| RenL.c <| RenL.c <| RenL.c <| RenL.c <| RenL.nil)) <| .kept rfl (.rowP rfl (segsP_snoc _ ⟨2, p.getD i 0⟩)) <| .nil) rfl rfl (WR_nil ?_)
        refine W_chain (.a 1 rfl <| .v (y_ar rfl) rfl <| .a 1 rfl <| .k [2, 4, 10, 12, 13] rfl) ?_
        cases f with
        | zero => omega
        | succ f =>
          first
            | (refine ⟨p.length - r, by omega, l ++ [⟨1, endL T n (p.take r)⟩], r, f, dm1, um1, by omega, by omega, by simp; omega, rfl, ?_, hdm1, hum1, ?_⟩
               · rw [hl, lst_some hlt hlt2 hj h3 hno, List.append_assoc]; rfl
               · unfold srow; simp only [List.length_append, List.length_singleton]; rfl)
            | (refine ⟨p.length - (i + 1), by omega, l ++ [⟨2, p.getD i 0⟩], i + 1, f, dm, um, by omega, by omega, by simp; omega, rfl, ?_, hdm, hum, ?_⟩
               · rw [hl, lst_none hlt hno2, List.append_assoc]; rfl
               · unfold srow; simp only [List.length_append, List.length_singleton]; rfl)
    · have hie : i = p.length := by have := ff h1; omega
      rw [lst_end f i (by omega), List.append_nil] at hl
      refine W_exit ?_
      refine W_cs (.a 3 rfl <| .k [8, 9] rfl) ?_
      refine W_ret ?_
      exact ⟨_, ResL.of rfl, rfl, by rw [hl]; rfl⟩
set_option maxRecDepth 10000 in
set_option maxHeartbeats 1000000 in
theorem slistS_can (T : Topo) (D : List Bool) (p : List Int) (n : Int) (he : folE T D n p = 0) (hp : p.length ≤ 1000) (hlk : T.links.length ≤ 256) (h12 : T.nodes ≤ 12) : CanS Tryz.prog 72 [topoV T, boolsV D, intsV p, num n] [] (fun r σ1 => ∃ i e s, r = .tuple [.own i, num 0] ∧ σ1[i]? = some (some (.row e s (lstL T [] n p).length (segsP (lstL T [] n p))))) := by
  have hl := CanS.nils (elistS_can T [] p n (folB he) hp hlk h12)
  refine canS_of Tryz.func72 rfl Tryz.ntmps72 rfl ?_
  refine W_cs (.a 3 rfl <| .k [1, 2, 3, 4] rfl) ?_
  refine W_seq ?_
  refine W_cs (.a 4 rfl <| .c rfl (scheck_can T D p n hp hlk) rfl <| .a 1 rfl <| .k [2, 3, 4, 10] rfl) ?_
  refine W_cs (.a 2 rfl <| .k [2, 3, 4, 10, 17] rfl) ?_
  refine W_cond rfl (fun hc => ?_) (fun hc => ?_)
  · exact absurd he (tt hc)
  · skip
    refine W_skip ?_
    refine W_rs ?_
    refine WR_a 3 rfl <| WR_cS rfl rfl (CanS.mono hl (fun r σ' h => ?_))
    obtain ⟨rfl, hx⟩ := h
    refine WR_a 4 rfl <| WR_k [8, 9] rfl ?_
    refine W_ret ?_
    exact ⟨_, ResL.of rfl, 5, _, _, rfl, hx⟩
end PW
end Go.Proofs.YtbpgndbjbaoolaaGreat

/- The laws on lists of segments: awake, large. -/
namespace Go.Proofs.YtbpgndbjbaoolaaGreat
set_option linter.unusedVariables false
set_option linter.unusedSimpArgs false
namespace PW
open Go.RowKit Reg Mem Net

def nextC (T : Topo) (D : List Bool) (L : List Int) (m d : Nat) : List Int := if m = d ∨ L.getD m 0 < 0 then [] else passL T D L (L.getD m 0) d (outL T m)
def cntC (T : Topo) (D : List Bool) (L : List Int) (d : Nat) : Nat → Nat → Int
  | 0, m => if m = d then 1 else 0
  | f + 1, m => if m = d then 1 else (nextC T D L m d).foldl (fun c a => min 2 (c + cntC T D L d f (headN T a.toNat).toNat)) 0
theorem cntF_C (T : Topo) (D : List Bool) (d : Nat) : ∀ f m, cntF T D d f m = cntC T D (distL T D d false) d f m
  | 0, m => rfl
  | f + 1, m => by
    simp only [cntF, cntC]
    split
    · rfl
    · exact foldl_congr fun c a _ => by rw [cntF_C T D d f]
def covC (y u : Nat) (c : Int) : Bool := decide ((ringD y).getD u 0 = c) && (decide (nodeE ringT [] (u : Int) (y : Int) = 0) && decide (cntC ringT [] (ringD y) y ((ringD y).getD u 0).toNat u = 1))
theorem cov_ring {p : List Int} {i j u y : Nat} {c : Int} (hu : endL ringT 0 (p.take i) = (u : Int)) (hy : endL ringT 0 (p.take j) = (y : Int)) (h4 : y < 4) (hc : costL ringT (p.take j) - costL ringT (p.take i) = c) : covB ringT [] 0 p i j = covC y u c := by
  unfold covB uniqB cntS dN covC
  rw [hu, hy, hc]
  simp only [Int.toNat_natCast, cntF_C, ring_dist y h4]
theorem c02 : covC 2 0 2 = false := by kernel_rfl
theorem c01 : covC 1 0 1 = true := by kernel_rfl
theorem c12 : covC 2 1 1 = true := by kernel_rfl
theorem c03 : covC 3 0 3 = false := by kernel_rfl
theorem c13 : covC 3 1 2 = false := by kernel_rfl
theorem c23 : covC 3 2 1 = true := by kernel_rfl
theorem ring_lst2 : lstL ringT [] 0 [0, 2] = nodeS [1, 2] := by
  have e01 : covB ringT [] 0 [0, 2] 0 1 = true := (cov_ring (u := 0) (y := 1) (c := 1) (by kernel_rfl) (by kernel_rfl) (by omega) (by kernel_rfl)).trans c01
  have e02 : covB ringT [] 0 [0, 2] 0 2 = false := (cov_ring (u := 0) (y := 2) (c := 2) (by kernel_rfl) (by kernel_rfl) (by omega) (by kernel_rfl)).trans c02
  have e12 : covB ringT [] 0 [0, 2] 1 2 = true := (cov_ring (u := 1) (y := 2) (c := 1) (by kernel_rfl) (by kernel_rfl) (by omega) (by kernel_rfl)).trans c12
  have h1 : lstF ringT [] 0 [0, 2] 2 0 = _ := lst_some (f := 1) (i := 0) (j := 1) (by decide) (by omega) (by decide) e01 (fun k h1 h2 => by
    have : k = 2 := by simp at h2; omega
    subst this; exact e02)
  have h2 : lstF ringT [] 0 [0, 2] 1 1 = _ := lst_some (f := 0) (i := 1) (j := 2) (by decide) (by omega) (by decide) e12 (fun k h1 h2 => by simp at h2; omega)
  show lstF ringT [] 0 [0, 2] 2 0 = _
  rw [h1, h2]
  kernel_rfl
theorem ring_lst3 : lstL ringT [] 0 [0, 2, 4] = nodeS [1, 2, 3] := by
  have e01 : covB ringT [] 0 [0, 2, 4] 0 1 = true := (cov_ring (u := 0) (y := 1) (c := 1) (by kernel_rfl) (by kernel_rfl) (by omega) (by kernel_rfl)).trans c01
  have e02 : covB ringT [] 0 [0, 2, 4] 0 2 = false := (cov_ring (u := 0) (y := 2) (c := 2) (by kernel_rfl) (by kernel_rfl) (by omega) (by kernel_rfl)).trans c02
  have e03 : covB ringT [] 0 [0, 2, 4] 0 3 = false := (cov_ring (u := 0) (y := 3) (c := 3) (by kernel_rfl) (by kernel_rfl) (by omega) (by kernel_rfl)).trans c03
  have e12 : covB ringT [] 0 [0, 2, 4] 1 2 = true := (cov_ring (u := 1) (y := 2) (c := 1) (by kernel_rfl) (by kernel_rfl) (by omega) (by kernel_rfl)).trans c12
  have e13 : covB ringT [] 0 [0, 2, 4] 1 3 = false := (cov_ring (u := 1) (y := 3) (c := 2) (by kernel_rfl) (by kernel_rfl) (by omega) (by kernel_rfl)).trans c13
  have e23 : covB ringT [] 0 [0, 2, 4] 2 3 = true := (cov_ring (u := 2) (y := 3) (c := 1) (by kernel_rfl) (by kernel_rfl) (by omega) (by kernel_rfl)).trans c23
  have h1 : lstF ringT [] 0 [0, 2, 4] 3 0 = _ := lst_some (f := 2) (i := 0) (j := 1) (by decide) (by omega) (by decide) e01 (fun k h1 h2 => by
    have : k = 2 ∨ k = 3 := by simp at h2; omega
    rcases this with rfl | rfl
    · exact e02
    · exact e03)
  have h2 : lstF ringT [] 0 [0, 2, 4] 2 1 = _ := lst_some (f := 1) (i := 1) (j := 2) (by decide) (by omega) (by decide) e12 (fun k h1 h2 => by
    have : k = 3 := by simp at h2; omega
    subst this; exact e13)
  have h3 : lstF ringT [] 0 [0, 2, 4] 1 2 = _ := lst_some (f := 0) (i := 2) (j := 3) (by decide) (by omega) (by decide) e23 (fun k h1 h2 => by simp at h2; omega)
  show lstF ringT [] 0 [0, 2, 4] 3 0 = _
  rw [h1, h2, h3]
  kernel_rfl
end PW
end Go.Proofs.YtbpgndbjbaoolaaGreat

/- The examples of layer 28, walked. -/
namespace Go.Proofs.YtbpgndbjbaoolaaGreat
set_option linter.unusedVariables false
set_option linter.unusedSimpArgs false
namespace PW
open Go.RowKit Reg Mem Net

def ringM : List Bool := [true, true, false, false, false, false, false, false]
def ring5L : List Lnk := ⟨0, 1, 5, 5, 0, 1, 0⟩ :: (ringL 4).drop 1
def ring5T : Topo := ⟨4, [], ring5L⟩
theorem ring5_valid : validB ring5T = true := by kernel_rfl
def dist5B (n : Nat) (out : List Int) : Bool :=
  decide (out.length = 4) && decide (at' out (n : Int) = 0) && (List.range 4).all (fun x => decide (0 ≤ at' out (x : Int))) &&
  (List.range 8).all (fun a => !wayB ring5T n out a || (decide (0 ≤ at' out (arcX ring5T false a)) && decide (at' out (arcX ring5T false a) ≤ at' out (arcY ring5T false a) + costN ring5T a))) &&
  (List.range 4).all (fun x => decide (x = n) || (List.range 8).any fun a => decide (arcX ring5T false a = (x : Int)) && wayB ring5T n out a && decide (at' out (x : Int) = at' out (arcY ring5T false a) + costN ring5T a))
theorem way5_iff (n : Nat) (out : List Int) (a : Nat) : Net.Way ring5T [] n false out a ↔ wayB ring5T n out a = true := by
  unfold Net.Way wayB
  have : downN [] a = false := by simp [downN]
  simp [this]
theorem dist5_of {n : Nat} {out : List Int} (h : dist5B n out = true) : IsDist ring5T [] n false out := by
  simp only [dist5B, Bool.and_eq_true, decide_eq_true_eq, List.all_eq_true, List.mem_range, Bool.or_eq_true, Bool.not_eq_true', List.any_eq_true] at h
  obtain ⟨⟨⟨⟨h1, h2⟩, h3⟩, h4⟩, h5⟩ := h
  refine ⟨by rw [h1]; rfl, h2, fun x hx => ?_, fun a ha hw => ?_, fun x hx _ => ?_⟩
  · have := h3 x (by have : ring5T.nodes = 4 := rfl; omega); omega
  · rcases h4 a (by have : ring5T.links.length = 4 := rfl; omega) with h | h
    · rw [(way5_iff n out a).1 hw] at h; cases h
    · exact h
  · rcases h5 x (by have : ring5T.nodes = 4 := rfl; omega) with h | ⟨a, ha, ⟨h6, h7⟩, h8⟩
    · exact .inl h
    · exact .inr ⟨a, by have : ring5T.links.length = 4 := rfl; omega, h6, (way5_iff n out a).2 h7, h8⟩
theorem ring5_dist : distL ring5T [] 1 false = [3, 0, 1, 2] := distL_eq (sound_of ring5_valid) (dist5_of (show dist5B 1 [3, 0, 1, 2] = true by kernel_rfl))
def cov5 (L : List Int) (y u : Nat) (c : Int) : Bool := decide (L.getD u 0 = c) && (decide (nodeE ring5T [] (u : Int) (y : Int) = 0) && decide (cntC ring5T [] L y (L.getD u 0).toNat u = 1))
theorem cov_ring5 : covB ring5T [] 0 [7, 5, 3] 0 3 = true := by
  have hu : endL ring5T 0 ([7, 5, 3].take 0) = ((0 : Nat) : Int) := by kernel_rfl
  have hy : endL ring5T 0 ([7, 5, 3].take 3) = ((1 : Nat) : Int) := by kernel_rfl
  have hc : costL ring5T ([7, 5, 3].take 3) - costL ring5T ([7, 5, 3].take 0) = 3 := by kernel_rfl
  unfold covB uniqB cntS dN
  rw [hu, hy, hc]
  simp only [Int.toNat_natCast, cntF_C, ring5_dist]
  exact (show cov5 [3, 0, 1, 2] 1 0 3 = true by kernel_rfl)
theorem ring_lstA : lstL ringT [] 0 [7, 5, 3] = nodeS [3, 2, 1] := by
  have e01 : covB ringT [] 0 [7, 5, 3] 0 1 = true := (cov_ring (u := 0) (y := 3) (c := 1) (by kernel_rfl) (by kernel_rfl) (by omega) (by kernel_rfl)).trans (show covC 3 0 1 = true by kernel_rfl)
  have e02 : covB ringT [] 0 [7, 5, 3] 0 2 = false := (cov_ring (u := 0) (y := 2) (c := 2) (by kernel_rfl) (by kernel_rfl) (by omega) (by kernel_rfl)).trans (show covC 2 0 2 = false by kernel_rfl)
  have e03 : covB ringT [] 0 [7, 5, 3] 0 3 = false := (cov_ring (u := 0) (y := 1) (c := 3) (by kernel_rfl) (by kernel_rfl) (by omega) (by kernel_rfl)).trans (show covC 1 0 3 = false by kernel_rfl)
  have e12 : covB ringT [] 0 [7, 5, 3] 1 2 = true := (cov_ring (u := 3) (y := 2) (c := 1) (by kernel_rfl) (by kernel_rfl) (by omega) (by kernel_rfl)).trans (show covC 2 3 1 = true by kernel_rfl)
  have e13 : covB ringT [] 0 [7, 5, 3] 1 3 = false := (cov_ring (u := 3) (y := 1) (c := 2) (by kernel_rfl) (by kernel_rfl) (by omega) (by kernel_rfl)).trans (show covC 1 3 2 = false by kernel_rfl)
  have e23 : covB ringT [] 0 [7, 5, 3] 2 3 = true := (cov_ring (u := 2) (y := 1) (c := 1) (by kernel_rfl) (by kernel_rfl) (by omega) (by kernel_rfl)).trans (show covC 1 2 1 = true by kernel_rfl)
  have h1 : lstF ringT [] 0 [7, 5, 3] 3 0 = _ := lst_some (f := 2) (i := 0) (j := 1) (by decide) (by omega) (by decide) e01 (fun k h1 h2 => by
    have : k = 2 ∨ k = 3 := by simp at h2; omega
    rcases this with rfl | rfl
    · exact e02
    · exact e03)
  have h2 : lstF ringT [] 0 [7, 5, 3] 2 1 = _ := lst_some (f := 1) (i := 1) (j := 2) (by decide) (by omega) (by decide) e12 (fun k h1 h2 => by
    have : k = 3 := by simp at h2; omega
    subst this; exact e13)
  have h3 : lstF ringT [] 0 [7, 5, 3] 1 2 = _ := lst_some (f := 0) (i := 2) (j := 3) (by decide) (by omega) (by decide) e23 (fun k h1 h2 => by simp at h2; omega)
  show lstF ringT [] 0 [7, 5, 3] 3 0 = _
  rw [h1, h2, h3]
  kernel_rfl
theorem ring_lstB : lstL ring5T [] 0 [7, 5, 3] = nodeS [1] := by
  have h1 : lstF ring5T [] 0 [7, 5, 3] 3 0 = _ := lst_some (f := 2) (i := 0) (j := 3) (by decide) (by omega) (by decide) cov_ring5 (fun k h1 h2 => by simp at h2; omega)
  show lstF ring5T [] 0 [7, 5, 3] 3 0 = _
  rw [h1, lst_end _ _ (by decide)]
  kernel_rfl
instance (l : List Seg) : IsFlatL (segsP l) := ⟨fun i u h => by
  obtain ⟨s, _, hs⟩ := List.mem_flatMap.1 (List.mem_of_getElem? h)
  simp only [segP, List.mem_cons, List.not_mem_nil, or_false] at hs
  rcases hs with rfl | rfl
  · infer_instance
  · infer_instance⟩
end PW
end Go.Proofs.YtbpgndbjbaoolaaGreat

/- The arguments of the laws of layer 28: a query, a way. -/
namespace Go.Proofs.YtbpgndbjbaoolaaGreat
set_option linter.unusedVariables false
set_option linter.unusedSimpArgs false
namespace PW
open Go.RowKit Reg Mem Net Go.WideShapes
/-- A topology with a mask and two nodes. -/
structure Qry where
  T : Topo
  D : List Bool
  x : Int
  y : Int
def qryP (c : Qry) : List PV := topoP c.T ++ [boolsV c.D, num c.x, num c.y]
def qryV (c : Qry) : PV := .agg (qryP c)
instance (c : Qry) : IsPureL (qryP c) := by unfold qryP; unfold topoP; simp only [List.cons_append, List.nil_append]; infer_instance
instance (c : Qry) : IsPure (qryV c) := by unfold qryV; infer_instance
/-- A path in a topology with a mask. -/
structure Wy where
  T : Topo
  D : List Bool
  p : List Int
  n : Int
def wyP (c : Wy) : List PV := topoP c.T ++ [boolsV c.D, intsV c.p, num c.n]
def wyV (c : Wy) : PV := .agg (wyP c)
instance (c : Wy) : IsPureL (wyP c) := by unfold wyP; unfold topoP; simp only [List.cons_append, List.nil_append]; infer_instance
instance (c : Wy) : IsPure (wyV c) := by unfold wyV; infer_instance
section
variable {H : Type} {enc : TypeId × Value → H} {W : World}
end
end PW
end Go.Proofs.YtbpgndbjbaoolaaGreat

/- The laws of layer 28, walked: List, Least, Encode, Segment. -/
namespace Go.Proofs.YtbpgndbjbaoolaaGreat
set_option linter.unusedVariables false
set_option linter.unusedSimpArgs false
namespace PW
open Go.RowKit Reg Mem Net

def smallQ (c : Qry) : Prop := c.T.nodes ≤ 12 ∧ c.T.links.length ≤ 20 ∧ c.D.length ≤ 60
def largeQ (c : Qry) : Bool := (decide ((12 : Int) < c.T.nodes) || decide ((20 : Int) < c.T.links.length)) || decide ((60 : Int) < c.D.length)
theorem largeQ_small {c : Qry} (h : largeQ c = false) : smallQ c := by
  unfold largeQ at h
  simp only [Bool.or_eq_false_iff, decide_eq_false_iff_not] at h
  unfold smallQ
  omega
def smallW (c : Wy) : Prop := c.T.nodes ≤ 12 ∧ c.T.links.length ≤ 20 ∧ c.D.length ≤ 60 ∧ c.p.length ≤ 20
def longW (c : Wy) : Bool := ((decide ((12 : Int) < c.T.nodes) || decide ((20 : Int) < c.T.links.length)) || decide ((60 : Int) < c.D.length)) || decide ((20 : Int) < c.p.length)
theorem longW_small {c : Wy} (h : longW c = false) : smallW c := by
  unfold longW at h
  simp only [Bool.or_eq_false_iff, decide_eq_false_iff_not] at h
  unfold smallW
  omega
end PW
end Go.Proofs.YtbpgndbjbaoolaaGreat

/- Package stable's Check; the laws of layer 28 on parts, routes and detours, walked. -/
namespace Go.Proofs.YtbpgndbjbaoolaaGreat
set_option linter.unusedVariables false
set_option linter.unusedSimpArgs false
namespace PW
open Go.RowKit Reg Mem Net

theorem Ch.ups {T : Topo} {D : List Bool} {d m : Nat} {q : List Int} (h : Ch T D d m q) : ∀ a ∈ q, downN D a.toNat = false := by
  induction h with
  | nil => intro z hz; cases hz
  | @cons n a m p ha ht hu hm ho hp ih =>
    intro z hz
    rcases List.mem_cons.1 hz with rfl | hz
    · rw [Int.toNat_natCast]; exact hu
    · exact ih z hz
set_option maxRecDepth 10000 in
set_option maxHeartbeats 1000000 in
theorem rpath27_can (T : Topo) (D : List Bool) (x y : Int) : Can Tryz.prog 41 [topoV T, boolsV D, num x, num y] (· = intsE (spE T D x y) (spathL T D x.toNat y.toNat)) := by
  refine can_of Tryz.func41 rfl Tryz.ntmps41 rfl ?_
  refine W_cs (.a 3 rfl <| .k [1, 2, 3, 4] rfl) ?_
  refine W_cs (.a 4 rfl <| .c rfl (rspath_can T D x y) rfl <| .a 4 rfl <| .k [8, 9] rfl) ?_
  refine W_ret ?_
  exact ⟨_, _, ResL.of rfl, Pur.pure, rfl⟩
theorem lst_pos {T : Topo} {D : List Bool} {n : Int} {p : List Int} (hp : 0 < p.length) : 0 < (lstL T D n p).length := by
  unfold lstL
  obtain ⟨f, hf⟩ : ∃ f, p.length = f + 1 := ⟨p.length - 1, by omega⟩
  rw [hf]
  simp only [lstF]
  rw [if_pos (by omega)]
  cases topD (covB T D n p 0) 0 p.length <;> simp
end PW
end Go.Proofs.YtbpgndbjbaoolaaGreat

/- Listed entries, and the tables of the state Transition, as plain mathematics. -/
namespace Go.Proofs.YtbpgndbjbaoolaaGreat
set_option linter.unusedVariables false
set_option linter.unusedSimpArgs false
namespace PW
open Go.RowKit Reg Mem Net

/-- A list without an arc segment in front. -/
def cutL : List Seg → List Seg
  | [] => []
  | s :: l => if s.kind = 2 then l else s :: l
/-- The listed entry. -/
noncomputable def entX (T : Topo) (D : List Bool) (n d : Int) : Ent :=
  if spE T D n d = 0 ∧ n ≠ d then ⟨[(spathL T D n.toNat d.toNat).getD 0 0], true, cutL (lstL T [] n (spathL T D n.toNat d.toNat))⟩ else ⟨[], false, []⟩
/-- A path to another node. -/
structure Pth (T : Topo) (D : List Bool) (x y : Nat) (p : List Int) : Prop where
  valid : validB T = true
  fits : fitsB T D = true
  ne : x ≠ y
  hx : (x : Int) < T.nodes
  hy : (y : Int) < T.nodes
  sp : SP T D y x p
theorem pth_of {T : Topo} {D : List Bool} {n d : Int} (h : spE T D n d = 0) (hne : n ≠ d) : ∃ a b : Nat, n = (a : Int) ∧ d = (b : Int) ∧ Pth T D a b (spathL T D a b) := by
  have hf : fitsB T D = true := by
    have h' := h
    unfold spE at h'
    split at h'
    · rename_i h1; exact (nodeE_zero h1).2.1
    · rename_i h1; exact absurd h' h1
  obtain ⟨a, b, rfl, rfl, ha, hb, hv, hsp⟩ := spE_facts h
  simp only [Int.toNat_natCast] at hsp
  exact ⟨a, b, rfl, rfl, hv, hf, fun e => hne (by rw [e]), ha, hb, hsp⟩
section
variable {T : Topo} {D : List Bool} {x y : Nat} {p : List Int}
theorem Pth.pos (h : Pth T D x y p) : 0 < p.length := by
  have hsp := h.sp
  cases hsp with
  | nil => exact absurd rfl h.ne
  | cons _ _ _ => simp
theorem Pth.fol (h : Pth T D x y p) : Fol T D x p := ⟨h.valid, h.fits, nodeB_iff.2 ⟨by omega, h.hx⟩, ch_walk h.sp.ch, h.sp.ch.ups⟩
theorem Pth.zero (h : Pth T D x y p) : folE T D x p = 0 := fol_zero h.fol
theorem Pth.len (h : Pth T D x y p) : (p.length : Int) < T.nodes := h.sp.len_lt h.valid h.hy
theorem Pth.head (h : Pth T D x y p) : p.getD 0 0 ∈ nextL T D x y := by
  have hsp := h.sp
  cases hsp with
  | nil => exact absurd rfl h.ne
  | @cons n a m q h1 hm hq => exact next_of h1 ((sound_of h.valid).cost a h1.arc).1
theorem Pth.near (h : Pth T D x y p) : ∃ a : Nat, p.getD 0 0 = (a : Int) ∧ Nearer T D x y a := next_mem h.head
theorem Pth.lst (h : Pth T D x y p) : 0 < (lstL T [] x p).length ∧ (lstL T [] x p).length ≤ p.length := ⟨lst_pos h.pos, lst_len _ _⟩
theorem Pth.ck (h : Pth T D x y p) : ckE T D (lstL T [] x p) x p = true := by
  have hF := h.fol
  unfold ckE
  rw [if_pos h.zero, ck_iff hF.bare _ 0 (Nat.zero_le _), Bool.and_eq_true]
  exact ⟨ex_lst hF.bare _ 0 (Nat.zero_le _) (by omega), deg_lst hF.bare _ 0 (Nat.zero_le _)⟩
/-- How a list begins. -/
theorem lst_head {n : Int} (hp : 0 < p.length) : ∃ s l, lstL T [] n p = s :: l ∧ (s.kind = 1 ∨ s = ⟨2, p.getD 0 0⟩) := by
  unfold lstL
  obtain ⟨f, hf⟩ : ∃ f, p.length = f + 1 := ⟨p.length - 1, by omega⟩
  rw [hf]
  simp only [lstF]
  rw [if_pos (by omega)]
  cases topD (covB T [] n p 0) 0 p.length with
  | none => exact ⟨_, _, rfl, .inr rfl⟩
  | some j => exact ⟨_, _, rfl, .inl rfl⟩
theorem cut_len (l : List Seg) : (cutL l).length ≤ l.length := by
  cases l with
  | nil => simp [cutL]
  | cons s l => simp only [cutL]; split <;> simp
theorem cut_mem {l : List Seg} {s : Seg} (h : s ∈ cutL l) : s ∈ l := by
  cases l with
  | nil => cases h
  | cons a l => simp only [cutL] at h; split at h <;> simp_all
theorem lst_ok (hF : Fol T D x p) : ∀ (f i : Nat), ∀ s ∈ lstF T [] x p f i, segB T s = true
  | 0, i, s, hs => by simp [lstF] at hs
  | f + 1, i, s, hs => by
    simp only [lstF] at hs
    split at hs
    · rename_i hi
      cases ht : topD (covB T [] x p i) i p.length with
      | none =>
        rw [ht] at hs
        simp only [List.mem_cons] at hs
        rcases hs with rfl | hs
        · unfold segB; simp only [if_neg (show ¬ (2 : Int) = 1 by decide), if_pos rfl]; exact hF.arcs _ (getD_mem hi)
        · exact lst_ok hF f (i + 1) s hs
      | some j =>
        rw [ht] at hs
        simp only [List.mem_cons] at hs
        obtain ⟨h1, h2, h3, h4⟩ := topD_is _ _ ht
        rcases hs with rfl | hs
        · obtain ⟨u, hu, huN⟩ := end_node hF.valid hF.node hF.arcs j h2
          unfold segB; simp only [if_pos rfl]; rw [hu]; exact nodeB_iff.2 ⟨by omega, huN⟩
        · exact lst_ok hF f j s hs
    · cases hs
theorem Pth.whole (h : Pth T D x y p) : ckE T D (cutL (lstL T [] x p)) x p = true ∨ ckE T D (⟨2, p.getD 0 0⟩ :: cutL (lstL T [] x p)) x p = true := by
  obtain ⟨s, l, hl, hs⟩ := lst_head (T := T) (n := (x : Int)) h.pos
  have hc := h.ck
  rw [hl] at hc ⊢
  rcases hs with hs | rfl
  · left
    simp only [cutL]
    rw [if_neg (by omega)]
    exact hc
  · right
    exact hc
end
theorem ent_yes {T : Topo} {D : List Bool} {x y : Nat} (h : Pth T D x y (spathL T D x y)) : entX T D x y = ⟨[(spathL T D x y).getD 0 0], true, cutL (lstL T [] x (spathL T D x y))⟩ := by
  unfold entX
  rw [if_pos]
  · simp only [Int.toNat_natCast]
  · refine ⟨?_, fun e => h.ne (by omega)⟩
    rw [spE_zero h.valid h.fits h.hx h.hy, if_neg]
    have := (h.sp.cost h.valid h.hy).2
    omega
theorem ent_no {T : Topo} {D : List Bool} {n d : Int} (h : ¬ (spE T D n d = 0 ∧ n ≠ d)) : entX T D n d = ⟨[], false, []⟩ := if_neg h
theorem ent_cases (T : Topo) (D : List Bool) (n d : Int) : (entX T D n d = ⟨[], false, []⟩ ∧ ¬ (spE T D n d = 0 ∧ n ≠ d)) ∨ ∃ a b : Nat, n = (a : Int) ∧ d = (b : Int) ∧ Pth T D a b (spathL T D a b) ∧ entX T D n d = ⟨[(spathL T D a b).getD 0 0], true, cutL (lstL T [] a (spathL T D a b))⟩ := by
  by_cases h : spE T D n d = 0 ∧ n ≠ d
  · obtain ⟨a, b, rfl, rfl, hp⟩ := pth_of h.1 h.2
    exact .inr ⟨a, b, rfl, rfl, hp, ent_yes hp⟩
  · exact .inl ⟨ent_no h, h⟩
theorem ent_push (T : Topo) (D : List Bool) (n d : Int) (h12 : T.nodes ≤ 12) : (entX T D n d).push.length ≤ 32 := by
  rcases ent_cases T D n d with ⟨h, _⟩ | ⟨a, b, rfl, rfl, hp, h⟩
  · rw [h]; simp
  · rw [h]
    have := cut_len (lstL T [] a (spathL T D a b))
    have := hp.lst.2
    have := hp.len
    show (cutL _).length ≤ 32
    omega
theorem ent_ok (T : Topo) (D : List Bool) (n d : Int) (h12 : T.nodes ≤ 12) : entOK T n d (entX T D n d) = true := by
  have hpl := ent_push T D n d h12
  rcases ent_cases T D n d with ⟨h, _⟩ | ⟨a, b, rfl, rfl, hp, h⟩
  · rw [h]
    unfold entOK
    have : leaveB T n [] = true := decide_eq_true fun i hi => by simp at hi
    simp only [this]
    simp
  · rw [h] at hpl ⊢
    obtain ⟨k, hk, hn⟩ := hp.near
    have h1 : leaveB T (a : Int) [(spathL T D a b).getD 0 0] = true := leave_of (by simp) fun c hc => by
      simp only [List.mem_singleton] at hc
      subst hc
      rw [hk]
      exact ⟨arcB_iff.2 ⟨by omega, by have := hn.arc; omega⟩, by rw [Int.toNat_natCast]; exact hn.tail⟩
    have h2 : decide (((b : Nat) : Int) = (a : Int)) = false := decide_eq_false (by have := hp.ne; omega)
    have h3 : (cutL (lstL T [] a (spathL T D a b))).all (segB T) = true := List.all_eq_true.2 fun s hs => lst_ok hp.fol _ 0 s (cut_mem hs)
    unfold entOK
    simp only [h1, h2, h3, if_true]
    simp only [Bool.true_and, Bool.false_and, Bool.not_false, Bool.and_true, Bool.and_eq_true, decide_eq_true_eq]
    exact ⟨rfl, by have : (cutL (lstL T [] a (spathL T D a b))).length ≤ 32 := hpl; omega⟩
/-- The table of the state Transition. -/
noncomputable def trnL (T : Topo) (D : List Bool) (n : Int) (k : Nat) : List Ent := (List.range k).map fun (d : Nat) => entX T D n (d : Int)
theorem trnL_step (T : Topo) (D : List Bool) (n : Int) (k : Nat) : trnL T D n (k + 1) = trnL T D n k ++ [entX T D n (k : Int)] := by simp [trnL, List.range_succ]
theorem trnL_len (T : Topo) (D : List Bool) (n : Int) (k : Nat) : (trnL T D n k).length = k := by simp [trnL]
theorem trnL_get {T : Topo} {D : List Bool} {n : Int} {k d : Nat} (h : d < k) : (trnL T D n k)[d]? = some (entX T D n (d : Int)) := by simp [trnL, h]
theorem toL_get {T : Topo} {D : List Bool} {n k d : Nat} (h : d < k) : (toL T D n k)[d]? = some ⟨nextL T D n d, false, []⟩ := by simp [toL, h]
noncomputable def trnT (T : Topo) (D : List Bool) (n : Nat) : Tab := ⟨n, trnL T D n T.nodes.toNat, downL D (outL T n)⟩
theorem trn_valid {T : Topo} {D : List Bool} (hv : validB T = true) (h12 : T.nodes ≤ 12) {n : Nat} (hn : (n : Int) < T.nodes) : tabOK T (trnT T D n) = true := by
  unfold tabOK trnT
  have h1 : nodeB T (n : Int) = true := nodeB_iff.2 ⟨by omega, hn⟩
  have hN := (sound_of hv).nodes
  have h2 : decide (((trnL T D n T.nodes.toNat).length : Int) = T.nodes) = true := decide_eq_true (by rw [trnL_len]; omega)
  have h3 : leaveB T n (downL D (outL T n)) = true := leave_out T n _
  have h4 : entsOK T n (trnL T D n T.nodes.toNat) = true := entsOK_all fun d e he => by
    have hd : d < T.nodes.toNat := by
      have := (List.getElem?_eq_some_iff.1 he).1
      rwa [trnL_len] at this
    rw [trnL_get hd] at he
    cases he
    exact ent_ok T D n d h12
  rw [hv, h1, h2, h3, h4]
  rfl
/-- The first arc of a listed entry is a next arc. -/
theorem ent_arcs {T : Topo} {D : List Bool} {n d : Nat} (hv : validB T = true) (hf : fitsB T D = true) (hn : (n : Int) < T.nodes) (hd : (d : Int) < T.nodes) : ((entX T D n d).arcs = [] ∧ nextL T D n d = []) ∨ ∃ a l, (entX T D n d).arcs = [a] ∧ nextL T D n d = a :: l := by
  rcases ent_cases T D n d with ⟨h, h'⟩ | ⟨a, b, ha, hb, hp, h⟩
  · refine .inl ⟨by rw [h], ?_⟩
    by_cases e : n = d
    · subst e; exact next_self T D n
    · refine next_unr ?_
      rw [spE_zero hv hf hn hd] at h'
      by_cases h0 : dN T D d n < 0
      · exact h0
      · rw [if_neg h0] at h'; exact absurd ⟨rfl, fun e' => e (by omega)⟩ h'
  · have : a = n := by omega
    subst this
    have : b = d := by omega
    subst this
    right
    rw [h]
    have hm := hp.head
    have hd0 := (hp.sp.cost hv hd).2
    cases hx : nextL T D a b with
    | nil => rw [hx] at hm; cases hm
    | cons c l =>
      refine ⟨_, l, rfl, ?_⟩
      have hpos : 0 < dN T D b a := by
        obtain ⟨k, hk, hkn⟩ := hp.near
        obtain ⟨m, hm', _⟩ := head_nat hv hkn.arc
        have := hkn.dN hm'
        have := (sound_of hv).cost k hkn.arc
        omega
      have : (spathL T D a b).getD 0 0 = c := by
        unfold spathL
        obtain ⟨f, hf⟩ : ∃ f, (dN T D b a).toNat = f + 1 := ⟨(dN T D b a).toNat - 1, by omega⟩
        rw [hf, first_step hx]
        rfl
      rw [this]
/-- A stable node segment: the listed entry towards its end. -/
theorem Stab.same {T : Topo} {D : List Bool} {x y : Nat} {p : List Int} (h : Stab T D x y p) : spathL T D x y = p ∧ Pth T D x y p ∧ lstL T [] x p = [⟨1, (y : Int)⟩] := by
  have hv := h.valid
  have hch := h.sp.ch.mask h.up
  have h1 := hch.le hv h.hy
  have h0 := h.sp.cost hv h.hy
  have hq := spath_sp (D := D) hv h.hy h.hx h1.1
  have hqc := hq.cost hv h.hy
  have hqb := hq.ch.bare
  have h2 := hqb.le hv h.hy
  have hq' := hqb.sp hv h.hy (by omega)
  have he : spathL T D x y = p := hq'.unique hv h.hy h.sp h.cnt
  have hP : Pth T D x y p := ⟨hv, h.fits, h.ne, h.hx, h.hy, by rw [← he]; exact hq⟩
  refine ⟨he, hP, ?_⟩
  unfold lstL
  obtain ⟨f, hf⟩ : ∃ f, p.length = f + 1 := ⟨p.length - 1, by have := h.pos; omega⟩
  rw [hf, lst_some (j := p.length) h.pos h.pos (Nat.le_refl _) h.cov (fun k h3 h4 => by omega), lst_end _ _ (Nat.le_refl _), List.take_length, h.sp.ch.fin]
theorem Stab.ent {T : Topo} {D : List Bool} {x y : Nat} {p : List Int} (h : Stab T D x y p) : nextL T [] x y = [p.getD 0 0] ∧ nextL T D x y = [p.getD 0 0] ∧ entX T D x y = ⟨[p.getD 0 0], true, [⟨1, (y : Int)⟩]⟩ := by
  obtain ⟨h1, h2, h3⟩ := h.same
  obtain ⟨h4, h5, _⟩ := h.next (i := 0) h.pos (u := x) rfl
  refine ⟨h4, h5, ?_⟩
  rw [← h1] at h2
  rw [ent_yes h2, h1, h3]
  rfl
/-- Masks that say the same. -/
theorem dist_mask {T : Topo} {D D' : List Bool} (hv : validB T = true) {d : Nat} (hd : (d : Int) < T.nodes) (dir : Bool) (hD : ∀ a, downN D a = downN D' a) : distL T D d dir = distL T D' d dir := by
  have hI := distL_is (sound_of hv) D' dir hd
  refine distL_eq (sound_of hv) ⟨hI.len, hI.root, hI.ge, fun a ha hw => hI.closed a ha ?_, fun x hx h0 => ?_⟩
  · exact ⟨(hD a).symm.trans hw.1, hw.2⟩
  · rcases hI.supp x hx h0 with h | ⟨a, h1, h2, h3, h4⟩
    · exact .inl h
    · exact .inr ⟨a, h1, h2, ⟨(hD a).trans h3.1, h3.2⟩, h4⟩
theorem next_mask {T : Topo} {D D' : List Bool} (hv : validB T = true) {n d : Nat} (hd : (d : Int) < T.nodes) (hD : ∀ a, downN D a = downN D' a) : nextL T D n d = nextL T D' n d := by
  unfold nextL
  rw [dist_mask hv hd false hD]
  congr 1
  unfold passL
  refine List.filter_congr fun a _ => ?_
  unfold passB
  rw [hD]
theorem routes_mask {T : Topo} {D D' : List Bool} (hv : validB T = true) (n : Nat) (hD : ∀ a, downN D a = downN D' a) : routesT T D n = routesT T D' n := by
  have hN := (sound_of hv).nodes
  unfold routesT
  have h1 : toL T D n T.nodes.toNat = toL T D' n T.nodes.toNat := by
    unfold toL
    refine List.map_congr_left fun d hd => ?_
    have := List.mem_range.1 hd
    rw [next_mask hv (by omega) hD]
  have h2 : downL D (outL T n) = downL D' (outL T n) := by
    unfold downL
    exact List.filter_congr fun a _ => hD _
  rw [h1, h2]
end PW
end Go.Proofs.YtbpgndbjbaoolaaGreat

/- Package repair and its reference: Entry. -/
namespace Go.Proofs.YtbpgndbjbaoolaaGreat
set_option linter.unusedVariables false
set_option linter.unusedSimpArgs false
namespace PW
open Go.RowKit Reg Mem Net Rng

section
variable {P : Program} {σ : Sto} {t : Tms} {o : Oper} {N L : Nat} {ops : Array Oper}
/-- Whether an empty slice is nil: either may be. -/
theorem WR_nilq {rest : List Oper} {K : St → Prop} {d : Nat} {x y : Operand} {ty tz : TypeId} {xs : List PV} (ho : o.op = .binOp .eql ty x y tz) (hk : slK1 P ty = true) (hx : evalO t x = some (.slice 0 xs)) (hy : evalO t y = some (.raw (.slice none 0 0))) (hd : o.dst = some d) (hw : wantB ops t o = some true) (hN : Nat.blt d N = true)
    (h : ∀ b, WR P N L ops rest ⟨(d, .raw (.bool b)) :: t, σ⟩ K) : WR P N L ops (o :: rest) ⟨t, σ⟩ K := by
  refine WR_step hw fun F base E a w hs next Q hn => ?_
  obtain ⟨e, hu⟩ := slK1_spec hk
  have h1 := evalO_rep (isEval a) hs.tmp hx
  have h2 := evalO_rep (isEval a) hs.tmp hy
  generalize hz : a.eval x = z at h1
  generalize hz' : a.eval y = z' at h2
  cases h2
  obtain ⟨p, c, rfl, _, _⟩ := rep_cap h1
  have hrun := Lib.run_eql_slice_nil w ty e p 0 c 0 0 hu
  have hg : ∀ a n c b m d, (eqGuard .eql ty x y (.slice a n c) (.slice b m d)).run P w = .ok () w := fun _ _ _ _ _ _ => rfl
  have hU : StepUpon P w (fun v w' => Rep E w' v (.raw (.bool p.isNone))) ((execOp a.eval o).run P w) := by
    simp only [execOp, ho, hz, hz', Sem.run_bind, Sem.run_pure, Result.andThen_ok, hg, hrun]
    exact upon_val (.raw _)
  refine upon_of hU fun v w' hE hv => hn _ _ _ E (h p.isNone) ?_ (.ext hE) (Below.ofExt hE hs.sat.bl)
  rw [hd]
  exact hs.put (hs.sat.ext hE) (.ext hE) hN hv
/-- A slice with a bound on its capacity. -/
theorem y_sliceMax {ty e s n h : Nat} {x hi' mx : Operand} {xs : List PV} {k k' : IntKind} {hii mi : Int} (ho : o.op = .slice ty x none (some hi') (some mx)) (he : elK P ty = some (e, s)) (hx : evalO t x = some (.slice n xs)) (hhi : evalO t hi' = some (.raw (.int k hii))) (hmx : evalO t mx = some (.raw (.int k' mi))) (hxl : xs.length = n * s) (hli : hii = (h : Int)) (hmi : mi = (h : Int)) (hl : h ≤ n) :
    Yield P σ t o (.slice h (xs.take (h * s))) := by
  intro F base E ρ w hρ hS hT
  have h1 := evalO_rep hρ hT hx
  have h2 := evalO_rep hρ hT hhi
  have h3 := evalO_rep hρ hT hmx
  obtain ⟨hu, i, hi, hs⟩ := elK_spec he
  generalize hz : ρ x = v at h1
  generalize hz' : ρ hi' = u at h2
  generalize hz2 : ρ mx = u2 at h3
  cases h2
  cases h3
  subst hli
  subst hmi
  obtain ⟨a, c, rfl, hc1, hc2⟩ := rep_cap h1
  have hR := rep_sliced (s := s) (l := 0) h1 hxl (Nat.zero_le _) hl (Nat.le_refl h) (Nat.le_trans hl hc1)
  have hrun : (Instr.sliceAt ty (.slice a n c) none (some (.int k (h : Int))) (some (.int k' (h : Int)))).run P w = .ok (.slice (if h = 0 then a else a.map (·.add (0 * s))) (h - 0) (h - 0)) w := by
    have : h ≤ c := Nat.le_trans hl hc1
    simp [Instr.sliceAt, run_underlying hu, Instr.slice, Instr.sliceBounds, Instr.sliceBound, asIntOf, this, sizeOf, typeInfo, hi]
  simp only [execOp, ho, hz, hz', hz2, Option.map_some, Option.map_none, Sem.run_bind, hrun, Result.andThen_ok, Sem.run_pure]
  refine upon_val ?_
  simpa using hR
end
theorem slS : slK1 Tryz.prog 45 = true := by kernel_rfl
set_option maxRecDepth 10000 in
set_option maxHeartbeats 1000000 in
theorem sclone_can (l : List Seg) (hl : l.length ≤ 1000) : Can Tryz.prog 73 [segsV l] (· = segsV l) := by
  refine can_of Tryz.func73 rfl Tryz.ntmps73 rfl ?_
  refine W_cs (.a 1 rfl <| .k [0] rfl) ?_
  refine W_seq ?_
  refine W_rs (WR.mono (K := fun s => ∃ b : Bool, s = ⟨[(0, segsV l), (4, .raw (.bool b))], []⟩ ∧ (b = true → l = [])) ?_ ?_)
  · cases l with
    | nil => exact WR_a 1 rfl <| WR_nilq rfl slS rfl rfl rfl rfl rfl fun b => WR_k [0, 4] rfl ⟨b, rfl, fun _ => rfl⟩
    | cons a l => exact WR_a 1 rfl <| WR_val (y_notNil rfl slS rfl rfl (Nat.succ_pos _)) rfl rfl rfl <| WR_k [0, 4] rfl ⟨_, rfl, fun h => by cases h⟩
  rintro _ ⟨b, rfl, hb⟩
  refine W_cond rfl (fun hc => ?_) (fun hc => ?_)
  · have : l = [] := hb hc
    subst this
    refine W_cs (.a 1 rfl <| .k [2] rfl) ?_
    refine W_ret ?_
    exact ⟨_, _, ResL.of rfl, Pur.nils, rfl⟩
  · refine W_skip ?_
    refine W_rs ?_
    refine WR_l (l_emptySlice rfl (fok.sl.get rfl)) rfl <| WR_a 1 rfl <| WR_l (l_append rfl (fok.rk.get rfl) rfl rfl rfl (segsP_len l) (by unfold maxLen; omega)) rfl <| WR_a 1 rfl <| WR_k [2] rfl ?_
    refine W_ret ?_
    refine ⟨_, _, ResL.of rfl, Pur.ownL (xs := segsP l) (ys := segsP l) rfl PurL.pure, ?_⟩
    rw [Nat.zero_add]; rfl
theorem y_segTail {P : Program} {σ : Sto} {t : Tms} {o : Oper} {ty : TypeId} {x lo : Operand} {s : Seg} {l : List Seg} {k : IntKind} (ho : o.op = .slice ty x (some lo) none none) (he : elK P ty = some (53, 2)) (hx : evalO t x = some (.slice (s :: l).length (segsP (s :: l)))) (hlo : evalO t lo = some (.raw (.int k 1))) : Yield P σ t o (.slice l.length (segsP l)) := by
  have h := y_sliceLo (l := 1) (σ := σ) ho he hx hlo (segsP_len _) rfl (by simp)
  have e : ((segsP (s :: l)).drop (1 * 2)).take (((s :: l).length - 1) * 2) = segsP l := by
    show (segsP l).take _ = _
    refine List.take_of_length_le ?_
    rw [segsP_len]; simp
  rw [e] at h
  exact h
theorem ent_err {T : Topo} {D : List Bool} {n d : Int} (h : spE T D n d ≠ 0) : entX T D n d = ⟨[], false, []⟩ := ent_no fun hh => h hh.1
theorem sp_node {T : Topo} {D : List Bool} {n d : Int} (h : spE T D n d ≠ 0) (h' : spE T D n d ≠ 11) : nodeE T D n d = spE T D n d := by
  unfold spE at *
  split at h <;> simp_all
theorem sp_err {T : Topo} {D : List Bool} {n d : Int} (h : spE T D n d = 0 ∨ spE T D n d = 11) : nodeE T D n d = 0 := by
  unfold spE at h
  split at h
  · assumption
  · rename_i hh
    rcases h with h | h
    · exact h
    · exfalso
      unfold nodeE chkE at h
      split at h <;> (try split at h) <;> (try split at h) <;> omega
def entE (e : Int) (x : Ent) : PV := .tuple [entV x, num e]
set_option maxRecDepth 10000 in
set_option maxHeartbeats 1000000 in
theorem pent_can (T : Topo) (D : List Bool) (n d : Int) (hlk : T.links.length ≤ 256) (h12 : T.nodes ≤ 12) : Can Tryz.prog 35 [topoV T, boolsV D, num n, num d] (· = entE (nodeE T D n d) (entX T D n d)) := by
  obtain ⟨c1, hc1⟩ : ∃ q, decide (spE T D n d ≠ 0) = q := ⟨_, rfl⟩
  obtain ⟨c2, hc2⟩ : ∃ q, decide (spE T D n d ≠ 11) = q := ⟨_, rfl⟩
  refine can_of Tryz.func35 rfl Tryz.ntmps35 rfl ?_
  refine W_rs ?_
  refine WR_a 3 rfl <| WR_k [1, 2, 3, 4, 8] rfl ?_
  refine W_cs (.a 4 rfl <| .c rfl (pcpath_can T D n d) rfl <| .a 5 rfl <| .k [1, 2, 4, 8, 10, 11] rfl) ?_
  refine W_seq ?_
  refine W_csK 27 (.raw (.bool (c1 && c2))) [1, 2, 4, 8, 10, 11] rfl ?_ ?_
  · refine .a 1 rfl <| .v (y_q rfl (hc1)) rfl <| .a 1 rfl <| ?_
    cases c1
    · exact .a 3 rfl <| .k [27, 1, 2, 4, 8, 10, 11] rfl
    · exact .a 1 rfl <| .v (y_q rfl (hc2)) rfl <| .a 1 rfl <| .k [27, 1, 2, 4, 8, 10, 11] rfl
  refine W_cond rfl (fun h1 => ?_) (fun h1 => ?_)
  · obtain ⟨rfl, rfl⟩ := Bool.and_eq_true_iff.1 h1
    have e1 := tt hc1
    rw [ent_err e1, sp_node e1 (tt hc2)]
    refine W_rs ?_
    refine WR_a 4 rfl <| WR_k [8, 9] rfl ?_
    refine W_ret ?_
    exact ⟨_, _, ResL.of rfl, Pur.tupleL (PurL.cons (Pur.aggL (PurL.cons Pur.nils <| PurL.cons Pur.pure <| PurL.cons Pur.nils PurL.nil)) (PurL.cons Pur.pure PurL.nil)), rfl⟩
  · have e2 : spE T D n d = 0 ∨ spE T D n d = 11 := by
      rcases Bool.and_eq_false_iff.1 h1 with h | h
      · subst h; exact .inl (Classical.byContradiction (ff hc1))
      · subst h; exact .inr (Classical.byContradiction (ff hc2))
    rw [sp_err e2]
    clear h1 hc1 hc2
    obtain ⟨P, hP⟩ : ∃ P, (if spE T D n d = 0 then spathL T D n.toNat d.toNat else []) = P := ⟨_, rfl⟩
    rw [hP]
    refine W_skip ?_
    refine W_seq ?_
    refine W_cs (.a 3 rfl <| .k [1, 2, 4, 8, 10, 32] rfl) ?_
    refine W_cond rfl (fun h2 => ?_) (fun h2 => ?_)
    · have hno : ¬ (spE T D n d = 0 ∧ n ≠ d) := by
        rintro ⟨h3, h4⟩
        rw [if_pos h3] at hP
        obtain ⟨a, b, rfl, rfl, hp⟩ := pth_of h3 h4
        have := tt h2
        have := hp.pos
        rw [← hP] at *
        simp only [Int.toNat_natCast] at *
        omega
      rw [ent_no hno]
      refine W_rs ?_
      refine WR_a 3 rfl <| WR_k [8, 9] rfl ?_
      refine W_ret ?_
      exact ⟨_, _, ResL.of rfl, Pur.tupleL (PurL.cons (Pur.aggL (PurL.cons Pur.nils <| PurL.cons Pur.pure <| PurL.cons Pur.nils PurL.nil)) (PurL.cons Pur.pure PurL.nil)), rfl⟩
    · obtain ⟨p0, q, rfl⟩ : ∃ p0 q, P = p0 :: q := by
        cases P with
        | nil => exact absurd rfl (ff h2)
        | cons p0 q => exact ⟨_, _, rfl⟩
      have h3 : spE T D n d = 0 := by
        rcases e2 with h | h
        · exact h
        · rw [h] at hP; simp at hP
      rw [if_pos h3] at hP
      have h4 : n ≠ d := by
        rintro rfl
        obtain ⟨a, b, ha, hb, _, _, hv', hsp⟩ := spE_facts h3
        have : a = b := by omega
        subst this
        have := hsp.self
        rw [this] at hP
        cases hP
      obtain ⟨a, b, rfl, rfl, hp⟩ := pth_of h3 h4
      simp only [Int.toNat_natCast] at hP
      have hent := ent_yes hp
      rw [hP] at hp hent
      have hpl := hp.len
      obtain ⟨s, l, hl, hs⟩ := lst_head (T := T) (n := (a : Int)) hp.pos
      have hll := hp.lst.2
      rw [hl] at hent hll
      have hsl := slist_can T D (p0 :: q) a (by simp only [List.length_cons] at hpl ⊢; omega) hlk h12
      rw [hl] at hsl
      unfold segsE at hsl
      rw [hp.zero, if_pos rfl] at hsl
      clear h2 e2 hl hs hp hP h3 h4
      simp only [List.length_cons] at hll hpl
      rw [show (p0 :: q).getD 0 0 = p0 from rfl] at hent
      refine W_skip ?_
      refine W_cs (.a 4 rfl <| .c rfl (hsl) rfl <| .a 5 rfl <| .k [8, 10, 12] rfl) ?_
      refine W_seq ?_
      refine W_cs (.a 1 rfl <| .v (y_ix (0) rfl (by omega) (by simp only [List.length_cons]; omega)) rfl <| .a 1 rfl <| .v (y_ld rfl ((show (segsP (s :: l))[0]? = some (num s.kind) from rfl))) rfl <| .a 1 rfl <| .k [8, 10, 12, 46] rfl) ?_
      refine W_cond rfl (fun h5 => ?_) (fun h5 => ?_)
      · have hc : cutL (s :: l) = l := if_pos (tt h5)
        rw [hc] at hent
        have hlm : l.length ≤ 32 := by omega
        refine W_chain (.a 1 rfl <| .v (y_segTail rfl (fok.el.get rfl) rfl rfl) rfl <| .a 1 rfl <| .k [8, 10, 12] rfl) ?_
        refine W_seq ?_
        refine W_cs (.a 3 rfl <| .k [8, 10, 12, 51] rfl) ?_
        refine W_cond rfl (fun h6 => ?_) (fun h6 => ?_)
        · exact absurd (tt h6) (by omega)
        · clear h6
          refine W_skip ?_
          refine W_dfs 5 8 mixed (
            .val [10] rfl (y_a rfl) rfl rfl <|
            .val [53] rfl (y_sliceMax (h := 1) rfl (fok.el.get rfl) rfl rfl rfl (show (intsP (p0 :: q)).length = _ by simp [intsP]) rfl rfl (by simp)) rfl rfl <|
            .val [12] rfl (y_a rfl) rfl rfl <|
            .val [55] rfl (y_c rfl (sclone_can _ (by omega))) rfl rfl <|
            .val [54, 56] rfl (y_a rfl) rfl rfl <|
            .nil) (by kernel_rfl) rfl rfl (keepT_sub (ks := [8, 57]) rfl) ?_
          refine WR_a 2 rfl <| WR_k [8, 9] rfl ?_
          refine W_ret ?_
          exact ⟨_, _, ResL.of rfl, Pur.tupleL (PurL.cons (Pur.aggL (PurL.cons (Pur.pure (p := intsV [p0])) <| PurL.cons Pur.pure <| PurL.cons (Pur.pure (p := segsV _)) PurL.nil)) (PurL.cons Pur.pure PurL.nil)), by rw [hent]; rfl⟩
      · have hc : cutL (s :: l) = s :: l := if_neg (ff h5)
        rw [hc] at hent
        have hlm : (s :: l).length ≤ 32 := by simp only [List.length_cons]; omega
        refine W_skip ?_
        refine W_seq ?_
        refine W_cs (.a 3 rfl <| .k [8, 10, 12, 51] rfl) ?_
        refine W_cond rfl (fun h6 => ?_) (fun h6 => ?_)
        · exact absurd (tt h6) (by omega)
        · clear h6
          refine W_skip ?_
          refine W_dfs 5 8 mixed (
            .val [10] rfl (y_a rfl) rfl rfl <|
            .val [53] rfl (y_sliceMax (h := 1) rfl (fok.el.get rfl) rfl rfl rfl (show (intsP (p0 :: q)).length = _ by simp [intsP]) rfl rfl (by simp)) rfl rfl <|
            .val [12] rfl (y_a rfl) rfl rfl <|
            .val [55] rfl (y_c rfl (sclone_can _ (by omega))) rfl rfl <|
            .val [54, 56] rfl (y_a rfl) rfl rfl <|
            .nil) (by kernel_rfl) rfl rfl (keepT_sub (ks := [8, 57]) rfl) ?_
          refine WR_a 2 rfl <| WR_k [8, 9] rfl ?_
          refine W_ret ?_
          exact ⟨_, _, ResL.of rfl, Pur.tupleL (PurL.cons (Pur.aggL (PurL.cons (Pur.pure (p := intsV [p0])) <| PurL.cons Pur.pure <| PurL.cons (Pur.pure (p := segsV _)) PurL.nil)) (PurL.cons Pur.pure PurL.nil)), by rw [hent]; rfl⟩
theorem y_intsTake {P : Program} {σ : Sto} {t : Tms} {o : Oper} {ty : TypeId} {x hi : Operand} {a : Int} {q : List Int} {k : IntKind} (ho : o.op = .slice ty x none (some hi) none) (he : elK P ty = some (3, 1)) (hx : evalO t x = some (.slice (a :: q).length (intsP (a :: q)))) (hhi : evalO t hi = some (.raw (.int k 1))) : Yield P σ t o (.slice 1 (intsP [a])) := by
  have h := y_sliceHi (h := 1) (σ := σ) ho he hx hhi (by simp [intsP]) rfl (by simp)
  exact h
set_option maxRecDepth 10000 in
set_option maxHeartbeats 1000000 in
theorem rentry_can (T : Topo) (D : List Bool) (n d : Int) (h12 : T.nodes ≤ 12) : Can Tryz.prog 36 [topoV T, boolsV D, num n, num d] (· = entE (nodeE T D n d) (entX T D n d)) := by
  obtain ⟨q0, hq0⟩ : ∃ q, (validB T && fitsB T D) = q := ⟨_, rfl⟩
  obtain ⟨c1, hc1⟩ : ∃ q, decide (n < 0) = q := ⟨_, rfl⟩
  obtain ⟨c2, hc2⟩ : ∃ q, decide (T.nodes ≤ n) = q := ⟨_, rfl⟩
  obtain ⟨c3, hc3⟩ : ∃ q, decide (d < 0) = q := ⟨_, rfl⟩
  obtain ⟨c4, hc4⟩ : ∃ q, decide (T.nodes ≤ d) = q := ⟨_, rfl⟩
  have hnode : ∀ x : Int, nodeB T x = !(decide (x < 0) || decide (T.nodes ≤ x)) := fun x => by rw [← Bool.decide_or, ← decide_not]; unfold nodeB; exact decide_eq_decide.2 (by omega)
  have hn0 := hnode n
  have hd0 := hnode d
  rw [hc1, hc2] at hn0
  rw [hc3, hc4] at hd0
  have hE : nodeE T D n d = if q0 = true then (if (((c1 || c2) || c3) || c4) = true then 2 else 0) else 1 := by
    unfold nodeE chkE
    simp only [List.all_cons, List.all_nil, Bool.and_true, hn0, hd0, hq0]
    cases q0 <;> cases c1 <;> cases c2 <;> cases c3 <;> cases c4 <;> rfl
  obtain ⟨k1, hk1⟩ : ∃ q, decide (spE T D n d ≠ 0) = q := ⟨_, rfl⟩
  obtain ⟨k2, hk2⟩ : ∃ q, decide (n = d) = q := ⟨_, rfl⟩
  refine can_of Tryz.func36 rfl Tryz.ntmps36 rfl ?_
  refine W_rs ?_
  refine WR_a 3 rfl <| WR_k [1, 2, 3, 4, 8] rfl ?_
  refine W_seq ?_
  refine W_cs (.a 2 rfl <| .c rfl (hq0 ▸ rfits_can T D) rfl <| .a 1 rfl <| .k [1, 2, 3, 4, 8, 17] rfl) ?_
  refine W_cond rfl (fun h1 => ?_) (fun h1 => ?_)
  · have h1 : q0 = false := by simpa using h1
    have he : nodeE T D n d = 1 := by rw [hE, h1]; rfl
    have hs : spE T D n d ≠ 0 := by unfold spE; rw [he]; simp
    rw [ent_err hs, he]
    refine W_rs ?_
    refine WR_a 3 rfl <| WR_k [8, 9] rfl ?_
    refine W_ret ?_
    exact ⟨_, _, ResL.of rfl, Pur.tupleL (PurL.cons (Pur.aggL (PurL.cons Pur.nils <| PurL.cons Pur.pure <| PurL.cons Pur.nils PurL.nil)) (PurL.cons Pur.pure PurL.nil)), rfl⟩
  · have h1 : q0 = true := by simpa using h1
    refine W_skip ?_
    refine W_seq ?_
    refine W_csK 36 (.raw (.bool (((c1 || c2) || c3) || c4))) [1, 2, 3, 4, 8] rfl ?_ ?_
    · refine .a 1 rfl <| .v (y_q rfl (hc1)) rfl <| .a 1 rfl <| ?_
      cases c1
      · refine .a 3 rfl <| .v (y_q rfl (hc2)) rfl <| .a 2 rfl <| ?_
        cases c2
        · refine .a 1 rfl <| .v (y_q rfl (hc3)) rfl <| .a 2 rfl <| ?_
          cases c3
          · exact .a 3 rfl <| .v (y_q rfl (hc4)) rfl <| .a 1 rfl <| .k [36, 1, 2, 3, 4, 8] rfl
          · exact .a 5 rfl <| .k [36, 1, 2, 3, 4, 8] rfl
        · exact .a 9 rfl <| .k [36, 1, 2, 3, 4, 8] rfl
      · exact .a 15 rfl <| .k [36, 1, 2, 3, 4, 8] rfl
    refine W_cond rfl (fun h2 => ?_) (fun h2 => ?_)
    · have he : nodeE T D n d = 2 := by rw [hE, h1, h2]; rfl
      have hs : spE T D n d ≠ 0 := by unfold spE; rw [he]; simp
      rw [ent_err hs, he]
      refine W_rs ?_
      refine WR_a 3 rfl <| WR_k [8, 9] rfl ?_
      refine W_ret ?_
      exact ⟨_, _, ResL.of rfl, Pur.tupleL (PurL.cons (Pur.aggL (PurL.cons Pur.nils <| PurL.cons Pur.pure <| PurL.cons Pur.nils PurL.nil)) (PurL.cons Pur.pure PurL.nil)), rfl⟩
    · have he : nodeE T D n d = 0 := by rw [hE, h1, h2]; rfl
      rw [he]
      clear hE hn0 hd0 hnode h2 h1
      refine W_skip ?_
      have hrp := rpath27_can T D n d
      unfold intsE at hrp
      obtain ⟨P, hP⟩ : ∃ P, (if spE T D n d = 0 then spathL T D n.toNat d.toNat else []) = P := ⟨_, rfl⟩
      rw [hP] at hrp
      refine W_cs (.a 4 rfl <| .c rfl (hrp) rfl <| .a 5 rfl <| .k [1, 2, 3, 4, 8, 10, 11] rfl) ?_
      refine W_seq ?_
      refine W_csK 52 (.raw (.bool (k1 || k2))) [1, 2, 4, 8, 10] rfl ?_ ?_
      · refine .a 1 rfl <| .v (y_q rfl (hk1)) rfl <| .a 1 rfl <| ?_
        cases k1
        · exact .a 2 rfl <| .v (y_q rfl (hk2)) rfl <| .a 1 rfl <| .k [52, 1, 2, 4, 8, 10] rfl
        · exact .a 4 rfl <| .k [52, 1, 2, 4, 8, 10] rfl
      refine W_cond rfl (fun h3 => ?_) (fun h3 => ?_)
      · have hno : ¬ (spE T D n d = 0 ∧ n ≠ d) := by
          rintro ⟨h4, h5⟩
          rcases Bool.or_eq_true_iff.1 h3 with h | h
          · rw [h] at hk1; exact tt hk1 h4
          · rw [h] at hk2; exact h5 (tt hk2)
        rw [ent_no hno]
        refine W_rs ?_
        refine WR_a 3 rfl <| WR_k [8, 9] rfl ?_
        refine W_ret ?_
        exact ⟨_, _, ResL.of rfl, Pur.tupleL (PurL.cons (Pur.aggL (PurL.cons Pur.nils <| PurL.cons Pur.pure <| PurL.cons Pur.nils PurL.nil)) (PurL.cons Pur.pure PurL.nil)), rfl⟩
      · obtain ⟨rfl, rfl⟩ := Bool.or_eq_false_iff.1 h3
        have h3 : spE T D n d = 0 := Classical.byContradiction (ff hk1)
        have h4 : n ≠ d := ff hk2
        obtain ⟨a, b, rfl, rfl, hp⟩ := pth_of h3 h4
        simp only [Int.toNat_natCast] at hP
        rw [if_pos h3] at hP
        have hent := ent_yes hp
        rw [hP] at hp hent
        have hpl := hp.len
        obtain ⟨s, l, hl, hs⟩ := lst_head (T := T) (n := (a : Int)) hp.pos
        have hll := hp.lst.2
        rw [hl] at hent hll
        have hpos := hp.pos
        obtain ⟨p0, q, rfl⟩ : ∃ p0 q, P = p0 :: q := by
          cases P with
          | nil => simp at hpos
          | cons p0 q => exact ⟨_, _, rfl⟩
        have hsl := rslist_can T D (p0 :: q) a (by simp only [List.length_cons] at hpl ⊢; omega) h12
        rw [hl] at hsl
        unfold segsE at hsl
        rw [hp.zero, if_pos rfl] at hsl
        clear hl hs hp hpos hP h3 h4 hk1 hk2
        simp only [List.length_cons] at hll hpl
        rw [show (p0 :: q).getD 0 0 = p0 from rfl] at hent
        refine W_skip ?_
        refine W_cs (.a 4 rfl <| .c rfl (hsl) rfl <| .a 5 rfl <| .k [8, 10, 12] rfl) ?_
        refine W_seq ?_
        refine W_cs (.a 1 rfl <| .v (y_ix (0) rfl (by omega) (by simp only [List.length_cons]; omega)) rfl <| .a 1 rfl <| .v (y_ld rfl ((show (segsP (s :: l))[0]? = some (num s.kind) from rfl))) rfl <| .a 1 rfl <| .k [8, 10, 12, 66] rfl) ?_
        refine W_cond rfl (fun h5 => ?_) (fun h5 => ?_)
        · have hc : cutL (s :: l) = l := if_pos (tt h5)
          rw [hc] at hent
          have hlm : l.length ≤ 32 := by omega
          refine W_chain (.a 1 rfl <| .v (y_segTail rfl (fok.el.get rfl) rfl rfl) rfl <| .a 1 rfl <| .k [8, 10, 12] rfl) ?_
          refine W_seq ?_
          refine W_cs (.a 3 rfl <| .k [8, 10, 12, 71] rfl) ?_
          refine W_cond rfl (fun h6 => ?_) (fun h6 => ?_)
          · exact absurd (tt h6) (by omega)
          · clear h6
            refine W_skip ?_
            refine W_rs ?_
            refine WR_a 1 rfl <| WR_v (y_intsTake rfl (fok.el.get rfl) rfl rfl) rfl <| WR_a 4 rfl <| WR_k [8, 9] rfl ?_
            refine W_ret ?_
            exact ⟨_, _, ResL.of rfl, Pur.tupleL (PurL.cons (Pur.aggL (PurL.cons (Pur.pure (p := intsV [p0])) <| PurL.cons Pur.pure <| PurL.cons (Pur.pure (p := segsV _)) PurL.nil)) (PurL.cons Pur.pure PurL.nil)), by rw [hent]; rfl⟩
        · have hc : cutL (s :: l) = s :: l := if_neg (ff h5)
          rw [hc] at hent
          have hlm : (s :: l).length ≤ 32 := by simp only [List.length_cons]; omega
          refine W_skip ?_
          refine W_seq ?_
          refine W_cs (.a 3 rfl <| .k [8, 10, 12, 71] rfl) ?_
          refine W_cond rfl (fun h6 => ?_) (fun h6 => ?_)
          · exact absurd (tt h6) (by omega)
          · clear h6
            refine W_skip ?_
            refine W_rs ?_
            refine WR_a 1 rfl <| WR_v (y_intsTake rfl (fok.el.get rfl) rfl rfl) rfl <| WR_a 4 rfl <| WR_k [8, 9] rfl ?_
            refine W_ret ?_
            exact ⟨_, _, ResL.of rfl, Pur.tupleL (PurL.cons (Pur.aggL (PurL.cons (Pur.pure (p := intsV [p0])) <| PurL.cons Pur.pure <| PurL.cons (Pur.pure (p := segsV _)) PurL.nil)) (PurL.cons Pur.pure PurL.nil)), by rw [hent]; rfl⟩
end PW
end Go.Proofs.YtbpgndbjbaoolaaGreat

/- A call that makes blocks of its own, in a caller that has some: the frame rule of the pure walk. No program in sight. -/
namespace Go.Proofs.YtbpgndbjbaoolaaGreat
set_option linter.unusedVariables false
set_option linter.unusedSimpArgs false
namespace PW
open Go.RowKit Reg Mem

/-- Other numbers: k blocks lie in front. -/
inductive Up (k : Nat) : PV → PV → Prop
  | pure {p : PV} [IsPure p] : Up k p p
  | own {i j : Nat} : j = k + i → Up k (.own i) (.own j)
  | ptr {i j o : Nat} : j = k + i → Up k (.ptr i o) (.ptr j o)
  | agg {xs ys : List PV} (hl : ys.length = xs.length) (hs : ∀ (j : Nat) x y, xs[j]? = some x → ys[j]? = some y → Up k x y) : Up k (.agg xs) (.agg ys)
  | tuple {xs ys : List PV} (hl : ys.length = xs.length) (hs : ∀ (j : Nat) x y, xs[j]? = some x → ys[j]? = some y → Up k x y) : Up k (.tuple xs) (.tuple ys)
  | func {f : FuncId} {xs ys : List PV} (hl : ys.length = xs.length) (hs : ∀ (j : Nat) x y, xs[j]? = some x → ys[j]? = some y → Up k x y) : Up k (.func f xs) (.func f ys)
def UpL (k : Nat) (xs ys : List PV) : Prop := ys.length = xs.length ∧ ∀ (j : Nat) x y, xs[j]? = some x → ys[j]? = some y → Up k x y
theorem UpL.nil {k : Nat} : UpL k [] [] := ⟨rfl, fun j x y h => by simp at h⟩
theorem UpL.cons {k : Nat} {x y : PV} {xs ys : List PV} (h : Up k x y) (hs : UpL k xs ys) : UpL k (x :: xs) (y :: ys) := ⟨by simp [hs.1], fun j a b h1 h2 => by
  cases j with
  | zero => simp at h1 h2; subst h1; subst h2; exact h
  | succ j => exact hs.2 j a b (by simpa using h1) (by simpa using h2)⟩
theorem UpL.pure {k : Nat} {xs : List PV} [h : IsPureL xs] : UpL k xs xs := ⟨rfl, fun j x y h1 h2 => by
  rw [h1] at h2; cases h2
  haveI := h.out j x h1
  exact Up.pure⟩
theorem Up.aggL {k : Nat} {xs ys : List PV} (h : UpL k xs ys) : Up k (.agg xs) (.agg ys) := .agg h.1 h.2
theorem Up.tupleL {k : Nat} {xs ys : List PV} (h : UpL k xs ys) : Up k (.tuple xs) (.tuple ys) := .tuple h.1 h.2
theorem Up.funcL {k : Nat} {f : FuncId} {xs ys : List PV} (h : UpL k xs ys) : Up k (.func f xs) (.func f ys) := .func h.1 h.2
inductive BUp (k : Nat) : Blk → Blk → Prop
  | cells {ty : TypeId} {xs ys : List PV} : UpL k xs ys → BUp k (.cells ty xs) (.cells ty ys)
  | row {e s n : Nat} {xs ys : List PV} : UpL k xs ys → BUp k (.row e s n xs) (.row e s n ys)
  | mp {kv : List (Value × PV)} [IsPureL (kv.map (·.2))] : BUp k (.mp kv) (.mp kv)
def BUpL (k : Nat) (xs ys : List Blk) : Prop := ys.length = xs.length ∧ ∀ (j : Nat) x y, xs[j]? = some x → ys[j]? = some y → BUp k x y
theorem BUpL.nil {k : Nat} : BUpL k [] [] := ⟨rfl, fun j x y h => by simp at h⟩
theorem BUpL.cons {k : Nat} {x y : Blk} {xs ys : List Blk} (h : BUp k x y) (hs : BUpL k xs ys) : BUpL k (x :: xs) (y :: ys) := ⟨by simp [hs.1], fun j a b h1 h2 => by
  cases j with
  | zero => simp at h1 h2; subst h1; subst h2; exact h
  | succ j => exact hs.2 j a b (by simpa using h1) (by simpa using h2)⟩
section
variable {E E1 E2 : Env} {w : World} {k : Nat}
theorem Up.rep (hat : ∀ i, i < E1.L → E2.at_ (k + i) = E1.at_ i ∧ k + i < E2.L) (hM : ∀ b, E2.M b → E1.M b) {p q : PV} (h : Up k p q) : ∀ v, Rep E1 w v p → Rep E2 w v q := by
  induction h with
  | @pure p hp =>
    intro v h
    have := hp.out E1 E2.M w v hM h
    exact this.goes (E := EF E2.M) (E' := E2) (w := w) (w' := w) ⟨Nat.zero_le _, fun i hi => absurd hi (Nat.not_lt_zero i), fun _ _ h => h, Nat.le_refl _, fun _ _ _ => rfl⟩
  | @own i j hij =>
    intro v h
    subst hij
    cases h with
    | own _ hi _ h hs => exact .own _ (hat i hi).2 v ((hat i hi).1.trans h) hs
  | @ptr i j o hij =>
    intro v h
    subst hij
    cases h with
    | ptr _ _ b hi h => exact .ptr _ o b (hat i hi).2 (by rw [(hat i hi).1]; exact h)
  | @agg xs ys hl _ ih =>
    intro v h
    cases h with
    | agg cs _ hl' hr => exact .agg cs ys (hl'.trans hl.symm) (fun j c u h1 h2 => by
        have hj : j < xs.length := by rw [← hl]; exact (List.getElem?_eq_some_iff.1 h2).1
        exact ih j xs[j] u (by simp [hj]) h2 c (hr j c _ h1 (by simp [hj])))
  | @tuple xs ys hl _ ih =>
    intro v h
    cases h with
    | tuple cs _ hl' hr => exact .tuple cs ys (hl'.trans hl.symm) (fun j c u h1 h2 => by
        have hj : j < xs.length := by rw [← hl]; exact (List.getElem?_eq_some_iff.1 h2).1
        exact ih j xs[j] u (by simp [hj]) h2 c (hr j c _ h1 (by simp [hj])))
  | @func f xs ys hl _ ih =>
    intro v h
    cases h with
    | func _ cs _ hl' hr => exact .func f cs ys (hl'.trans hl.symm) (fun j c u h1 h2 => by
        have hj : j < xs.length := by rw [← hl]; exact (List.getElem?_eq_some_iff.1 h2).1
        exact ih j xs[j] u (by simp [hj]) h2 c (hr j c _ h1 (by simp [hj])))
theorem UpL.rep (hat : ∀ i, i < E1.L → E2.at_ (k + i) = E1.at_ i ∧ k + i < E2.L) (hM : ∀ b, E2.M b → E1.M b) {xs ys : List PV} (h : UpL k xs ys) {cs : List Value} (hs : RepL E1 w cs xs) : RepL E2 w cs ys := ⟨hs.1.trans h.1.symm, fun j c u h1 h2 => by
  have hj : j < xs.length := by rw [← h.1]; exact (List.getElem?_eq_some_iff.1 h2).1
  exact (h.2 j xs[j] u (by simp [hj]) h2).rep hat hM c (hs.2 j c _ h1 (by simp [hj]))⟩
theorem BUp.sat {base base' : Nat} (hb : base' ≤ base) (hat : ∀ i, i < E1.L → E2.at_ (k + i) = E1.at_ i ∧ k + i < E2.L) (hM : ∀ b, E2.M b → E1.M b) {v : Value} {x y : Blk} (h : BUp k x y) (hs : BlkSat base E1 w v x) : BlkSat base' E2 w v y := by
  cases h with
  | cells h1 =>
    obtain ⟨b, cs, h2, h3, h4, h5⟩ := hs
    exact ⟨b, cs, h2, by omega, h4, h1.rep hat hM h5⟩
  | row h1 =>
    obtain ⟨cs, h2, h3⟩ := hs
    refine ⟨cs, ⟨h2.1, ?_⟩, h1.rep hat hM h3⟩
    rcases h2.2 with h | ⟨g, cap, cur, a1, a2, a3⟩
    · exact .inl h
    · exact .inr ⟨g, cap, cur, a1, by omega, a3⟩
  | @mp kv hp =>
    obtain ⟨r, es, ck, h2, h3, h4, h5, h6⟩ := hs
    exact ⟨r, es, ck, h2, by omega, h4, h5, UpL.pure (k := k).rep hat hM h6⟩
end
/-- The frame rule. -/
theorem CanS.frame {P : Program} {f : FuncId} {ps : List PV} {σ : Sto} {R : PV → Sto → Prop} [IsPureL ps]
    (h : CanS P f ps [] (fun r σ1 => ∃ bs, σ1 = bs.map some ∧ ∃ r' bs', Up σ.length r r' ∧ BUpL σ.length bs bs' ∧ R r' (σ ++ bs'.map some))) : CanS P f ps σ R := fun F base E w vs hS hR => by
  refine (h E.M w.heap.size (EF E.M) w vs (Sat.start E.M w (fun b hb => hS.lt hb) hS.gl) (hR.pure (fun _ h => h))).mono ?_
  rintro e w' ⟨v, r, σ1, E1, rfl, ⟨bs, rfl, r', bs', hu, hbu, hRr⟩, hS1, hg1, hB1, hv⟩
  have hE : Ext w w' := hB1
  have hL1 : E1.L = bs.length := by rw [hS1.len]; simp
  have hlen : ((List.range bs.length).map E1.at_).length = bs'.length := by rw [List.length_map, List.length_range, hbu.1]
  have hget : ∀ (i : Nat) v, ((List.range bs.length).map E1.at_)[i]? = some v → i < bs.length ∧ v = E1.at_ i := fun i v hi => by
    have hi' : i < bs.length := by have := (List.getElem?_eq_some_iff.1 hi).1; simpa using this
    rw [List.getElem?_map, List.getElem?_range hi'] at hi
    cases hi
    exact ⟨hi', rfl⟩
  have hbk : ∀ i, i < bs.length → ∃ x, bs[i]? = some x ∧ (bs.map some)[i]? = some (some x) := fun i hi => ⟨bs[i], by simp [hi], by simp [hi]⟩
  have hat : ∀ i, i < E1.L → (E.pushAll ((List.range bs.length).map E1.at_)).at_ (σ.length + i) = E1.at_ i ∧ σ.length + i < (E.pushAll ((List.range bs.length).map E1.at_)).L := fun i hi => by
    rw [hL1] at hi
    refine ⟨?_, ?_⟩
    · simp only [Env.pushAll, hS.len]
      rw [if_neg (by omega), Nat.add_sub_cancel_left, List.getD_eq_getElem?_getD, List.getElem?_map, List.getElem?_range hi]
      rfl
    · simp only [Env.pushAll, hS.len, List.length_map, List.length_range]; omega
  have hM : ∀ b, (E.pushAll ((List.range bs.length).map E1.at_)).M b → E1.M b := fun b hb => by
    rcases hb with hb | ⟨v, hv1, hv2⟩
    · exact (hS1.mm b).2 (.inl hb)
    · obtain ⟨i, hi⟩ := List.getElem?_of_mem hv1
      obtain ⟨hi1, rfl⟩ := hget i v hi
      obtain ⟨x, _, hx⟩ := hbk i hi1
      exact (hS1.mm b).2 (.inr ⟨i, x, hx, hv2⟩)
  have hp := hS.pushAll hE ((List.range bs.length).map E1.at_) bs' hlen
    (fun v hv1 b hb => by
      obtain ⟨i, hi⟩ := List.getElem?_of_mem hv1
      obtain ⟨hi1, rfl⟩ := hget i v hi
      obtain ⟨x, _, hx⟩ := hbk i hi1
      exact ((hS1.blk i x hx).lt hb).1)
    (fun i j u v b hi hj hu hv => by
      obtain ⟨hi1, rfl⟩ := hget i u hi
      obtain ⟨hj1, rfl⟩ := hget j v hj
      obtain ⟨x, _, hx⟩ := hbk i hi1
      obtain ⟨y, _, hy⟩ := hbk j hj1
      exact hS1.inj i j x y b hx hy hu hv)
    (fun i v blk hi hb => by
      obtain ⟨hi1, rfl⟩ := hget i v hi
      obtain ⟨x, hx0, hx⟩ := hbk i hi1
      exact (hbu.2 i x blk hx0 hb).sat hS.bl hat hM (hS1.blk i x hx))
  exact ⟨v, r', _, _, rfl, hRr, hp.1, hp.2, Below.ofExt hE hS.bl, hu.rep hat hM v hv⟩
end PW
end Go.Proofs.YtbpgndbjbaoolaaGreat

/- Distances from a node and to a node: which nodes are reached, as plain mathematics. -/
namespace Go.Proofs.YtbpgndbjbaoolaaGreat
set_option linter.unusedVariables false
set_option linter.unusedSimpArgs false
namespace PW
open Go.RowKit Reg Mem Net

section
variable {T : Topo} {D : List Bool}
theorem Ch.snoc {d n : Nat} {q : List Int} (h : Ch T D d n q) : ∀ {a x : Nat}, (q = [] ∨ overN T d = false) → a < 2 * T.links.length → tailN T a = (d : Int) → downN D a = false → headN T a = (x : Int) → Ch T D x n (q ++ [(a : Int)]) := by
  induction h with
  | nil => intro a x _ h1 h2 h3 h4; exact .cons h1 h2 h3 h4 (.inl rfl) .nil
  | @cons n b m p hb ht hu hm ho hp ih =>
    intro a x hov h1 h2 h3 h4
    have hov' : overN T d = false := by rcases hov with h | h; cases h; exact h
    refine .cons hb ht hu hm ?_ (ih (.inr hov') h1 h2 h3 h4)
    rcases ho with h | h
    · have := hp.to h
      subst this
      exact .inr hov'
    · exact .inr h
theorem fwd_ch (hv : validB T = true) {n : Nat} (hn : (n : Int) < T.nodes) {d m : Nat} {p : List Int} (h : Ch T D d m p) (h0 : 0 ≤ at' (distL T D n true) (m : Int)) (ho : p = [] ∨ m = n ∨ overN T m = false) : 0 ≤ at' (distL T D n true) (d : Int) := by
  have hI := distL_is (sound_of hv) D true hn
  induction h with
  | nil => exact h0
  | @cons m a m' p ha ht hu hm hov hp ih =>
    have hw := hI.closed a ha ⟨hu, by simp only [arcY, if_true]; rw [ht]; exact h0, by
      simp only [arcY, if_true]; rw [ht]
      rcases ho with h | h | h
      · cases h
      · exact .inl (by rw [h])
      · exact .inr (by simpa using h)⟩
    simp only [arcX, if_true] at hw
    rw [hm] at hw
    refine ih hw.1 ?_
    rcases hov with h | h
    · exact .inl h
    · exact .inr (.inr h)
theorem fwd_to (hv : validB T = true) {n : Nat} (hn : (n : Int) < T.nodes) : ∀ (k x : Nat), (x : Int) < T.nodes → 0 ≤ at' (distL T D n true) (x : Int) → at' (distL T D n true) (x : Int) ≤ k → 0 ≤ dN T D x n := by
  have hS := sound_of hv
  have hI := distL_is hS D true hn
  intro k
  induction k with
  | zero =>
    intro x hx h0 hk
    rcases hI.supp x hx h0 with h | ⟨a, ha, hX, hW, hs⟩
    · subst h; rw [dN_self hv hn]; exact Int.le_refl _
    · have := (hS.cost a ha).1
      have := hW.2.1
      omega
  | succ k ih =>
    intro x hx h0 hk
    rcases hI.supp x hx h0 with h | ⟨a, ha, hX, hW, hs⟩
    · subst h; rw [dN_self hv hn]; exact Int.le_refl _
    · simp only [arcX, arcY, if_true] at hX hs
      obtain ⟨hu, hy0, hyo⟩ := hW
      simp only [arcY, if_true] at hy0 hyo
      have hc := (hS.cost a ha).1
      have ht := hS.tail a ha
      obtain ⟨y, hy⟩ := Int.eq_ofNat_of_zero_le ht.1
      rw [hy] at hy0 hyo hs ht
      have hyN : (y : Int) < T.nodes := ht.2
      have h1 := ih y hyN hy0 (by omega)
      have hsp := spath_sp (D := D) hv hyN hn h1
      have hc2 := hsp.ch.snoc (a := a) (x := x) (by
        rcases hyo with h | h
        · have : y = n := by omega
          subst this
          exact .inl hsp.self
        · exact .inr (by simpa using h)) ha hy hu hX
      exact (hc2.le hv hx).1
theorem fwd_iff (hv : validB T = true) {n d : Nat} (hn : (n : Int) < T.nodes) (hd : (d : Int) < T.nodes) : 0 ≤ (distL T D n true).getD d 0 ↔ 0 ≤ dN T D d n := by
  have hS := sound_of hv
  have hI := distL_is hS D true hn
  have hl := hI.len
  have e : (distL T D n true).getD d 0 = at' (distL T D n true) (d : Int) := by
    unfold at'
    rw [Int.toNat_natCast, List.getD_eq_getElem?_getD, List.getD_eq_getElem?_getD, List.getElem?_eq_getElem (by omega)]
    rfl
  rw [e]
  constructor
  · intro h0
    exact fwd_to hv hn (at' (distL T D n true) (d : Int)).toNat d hd h0 (by have := Int.toNat_of_nonneg h0; omega)
  · intro h0
    have hsp := spath_sp (D := D) hv hd hn h0
    refine fwd_ch hv hn hsp.ch ?_ (.inr (.inl rfl))
    rw [hI.root]
    exact Int.le_refl _
end
end PW
end Go.Proofs.YtbpgndbjbaoolaaGreat

/- Assumed components, and the tables of the state Repair, as plain mathematics. -/
namespace Go.Proofs.YtbpgndbjbaoolaaGreat
set_option linter.unusedVariables false
set_option linter.unusedSimpArgs false
namespace PW
open Go.RowKit Reg Mem Net Rng

def grpN (T : Topo) (a : Nat) : Int := (lnk T.links (a / 2)).grp
/-- Whether a node reaches another one. -/
noncomputable def rchB (T : Topo) (D : List Bool) (n d : Int) : Bool := decide (spE T D n d = 0)
/-- The assumed component of an arc and a destination. -/
noncomputable def asmF (T : Topo) (a : Nat) (d : Int) : Int × Int :=
  if (decide (0 < grpN T a) && rchB T (maskL T 3 (grpN T a)) (tailN T a) d) = true then (3, grpN T a)
  else if (decide (headN T a ≠ d) && rchB T (maskL T 2 (headN T a)) (tailN T a) d) = true then (2, headN T a)
  else (1, ((a / 2 : Nat) : Int))
/-- The arcs of a mask that begin at a node. -/
def ownM (T : Topo) (M : List Bool) (n : Int) : List Bool := (List.range (2 * T.links.length)).map fun a => downN M a && decide (tailN T a = n)
def orM (T : Topo) (D E : List Bool) : List Bool := (List.range (2 * T.links.length)).map fun a => downN D a || downN E a
theorem map_down {f : Nat → Bool} {n a : Nat} : downN ((List.range n).map f) a = (decide (a < n) && f a) := by
  unfold downN
  rw [List.getD_eq_getElem?_getD, List.getElem?_map]
  by_cases h : a < n
  · rw [List.getElem?_range h]; simp [h]
  · rw [List.getElem?_eq_none (by simp; omega)]; simp [h]
theorem map_fits {T : Topo} {f : Nat → Bool} : fitsB T ((List.range (2 * T.links.length)).map f) = true := by simp [fitsB]
theorem mask_down {T : Topo} {k x : Int} {a : Nat} : downN (maskL T k x) a = (decide (a < 2 * T.links.length) && partB k x T.links (a / 2)) := map_down
theorem own_down {T : Topo} {M : List Bool} {n : Int} {a : Nat} : downN (ownM T M n) a = (decide (a < 2 * T.links.length) && (downN M a && decide (tailN T a = n))) := map_down
theorem or_down {T : Topo} {D E : List Bool} {a : Nat} : downN (orM T D E) a = (decide (a < 2 * T.links.length) && (downN D a || downN E a)) := map_down
theorem mask_fits (T : Topo) (k x : Int) : fitsB T (maskL T k x) = true := map_fits
theorem own_fits (T : Topo) (M : List Bool) (n : Int) : fitsB T (ownM T M n) = true := map_fits
theorem or_fits (T : Topo) (D E : List Bool) : fitsB T (orM T D E) = true := map_fits
theorem rch_iff {T : Topo} {D : List Bool} {x y : Nat} (hv : validB T = true) (hf : fitsB T D = true) (hx : (x : Int) < T.nodes) (hy : (y : Int) < T.nodes) : rchB T D x y = true ↔ 0 ≤ dN T D y x := by
  unfold rchB
  rw [decide_eq_true_eq, spE_zero hv hf hx hy]
  split <;> omega
theorem grp_range {T : Topo} (hv : validB T = true) {a : Nat} (ha : a < 2 * T.links.length) : 0 ≤ grpN T a ∧ grpN T a ≤ 64 := by
  have h := valid_link hv (a / 2) (by omega)
  unfold grpN
  unfold linkOK at h
  rw [Bool.and_eq_true] at h
  unfold withinB at h
  exact of_decide_eq_true h.2
theorem asm_comp {T : Topo} (hv : validB T = true) {a : Nat} (ha : a < 2 * T.links.length) (d : Int) : compB T (asmF T a d).1 (asmF T a d).2 = true := by
  have hg := grp_range hv ha
  unfold asmF
  split
  · rename_i h
    rw [Bool.and_eq_true, decide_eq_true_eq] at h
    show compB T 3 (grpN T a) = true
    unfold compB
    simp only [if_neg (show ¬ (3 : Int) = 1 by decide), if_neg (show ¬ (3 : Int) = 2 by decide), if_true, Bool.and_eq_true, decide_eq_true_eq]
    exact ⟨by omega, by omega⟩
  · split
    · obtain ⟨h0, h1⟩ := (sound_of hv).head a ha
      show compB T 2 (headN T a) = true
      unfold compB
      simp only [if_neg (show ¬ (2 : Int) = 1 by decide), if_true]
      exact nodeB_iff.2 ⟨h0, h1⟩
    · show compB T 1 ((a / 2 : Nat) : Int) = true
      unfold compB
      simp only [if_true, Bool.and_eq_true, decide_eq_true_eq]
      exact ⟨by omega, by omega⟩
/-- The first arc of a list that is in a mask. -/
def hitL (own : List Bool) (l : List Int) : Option Int := l.find? fun a => downN own a.toNat
noncomputable def mixM (T : Topo) (own : List Bool) (n d : Int) (a : Nat) : List Bool :=
  if rchB T (orM T (maskL T (asmF T a d).1 (asmF T a d).2) own) n d = true then orM T (maskL T (asmF T a d).1 (asmF T a d).2) own else own
/-- The entry in the state Repair. -/
noncomputable def repX (T : Topo) (own : List Bool) (n d : Nat) : Ent := match hitL own (nextL T [] n d) with
  | none => ⟨nextL T [] n d, false, []⟩
  | some a => entX T (mixM T own n d a.toNat) n d
noncomputable def repL (T : Topo) (own : List Bool) (n k : Nat) : List Ent := (List.range k).map fun d => repX T own n d
theorem repL_step (T : Topo) (own : List Bool) (n k : Nat) : repL T own n (k + 1) = repL T own n k ++ [repX T own n k] := by simp [repL, List.range_succ]
theorem repL_len (T : Topo) (own : List Bool) (n k : Nat) : (repL T own n k).length = k := by simp [repL]
theorem repL_get {T : Topo} {own : List Bool} {n k d : Nat} (h : d < k) : (repL T own n k)[d]? = some (repX T own n d) := by simp [repL, h]
noncomputable def repT (T : Topo) (M : List Bool) (n : Nat) : Tab := ⟨n, repL T (ownM T M n) n T.nodes.toNat, downL M (outL T n)⟩
section
variable {T : Topo} {M own : List Bool} {n d : Nat}
theorem mix_fits (hf : fitsB T own = true) (a : Nat) : fitsB T (mixM T own n d a) = true := by
  unfold mixM; split
  · exact or_fits _ _ _
  · exact hf
theorem mix_own {a b : Nat} (hb : b < 2 * T.links.length) (h : downN (mixM T own n d a) b = false) : downN own b = false := by
  unfold mixM at h
  split at h
  · rw [or_down, decide_eq_true hb, Bool.true_and, Bool.or_eq_false_iff] at h
    exact h.2
  · exact h
theorem own_not {b : Nat} (hb : b < 2 * T.links.length) (ht : tailN T b = (n : Int)) (h : downN (ownM T M n) b = false) : downN M b = false := by
  rw [own_down, decide_eq_true hb, decide_eq_true ht] at h
  simpa using h
theorem hit_none {l : List Int} (h : hitL own l = none) : ∀ a ∈ l, downN own a.toNat = false := fun a ha => by
  have := List.find?_eq_none.1 h a ha
  simpa using this
theorem hit_some {l : List Int} {a : Int} (h : hitL own l = some a) : a ∈ l ∧ downN own a.toNat = true := ⟨List.mem_of_find?_eq_some h, by have := List.find?_some (p := fun a : Int => downN own a.toNat) h; exact this⟩
/-- The arcs of an entry in the state Repair begin at the node, and are not in the mask. -/
theorem rep_arcs (hv : validB T = true) (hn : (n : Int) < T.nodes) (hd : (d : Int) < T.nodes) : ∀ a ∈ (repX T (ownM T M n) n d).arcs, arcB T a = true ∧ tailN T a.toNat = n ∧ downN M a.toNat = false := by
  intro a ha
  unfold repX at ha
  cases hh : hitL (ownM T M n) (nextL T [] n d) with
  | none =>
    rw [hh] at ha
    have ha : a ∈ nextL T [] n d := ha
    obtain ⟨k, rfl, hk⟩ := next_mem ha
    have := hit_none hh _ ha
    rw [Int.toNat_natCast] at this ⊢
    exact ⟨arcB_iff.2 ⟨by omega, by have := hk.arc; omega⟩, hk.tail, own_not hk.arc hk.tail this⟩
  | some b =>
    rw [hh] at ha
    have ha : a ∈ (entX T (mixM T (ownM T M n) n d b.toNat) n d).arcs := ha
    rcases ent_cases T (mixM T (ownM T M n) n d b.toNat) n d with ⟨h, _⟩ | ⟨x, y, hx, hy, hp, h⟩
    · rw [h] at ha; cases ha
    · rw [h] at ha
      simp only [List.mem_singleton] at ha
      subst ha
      obtain ⟨k, hk, hkn⟩ := hp.near
      have : x = n := by omega
      subst this
      rw [hk, Int.toNat_natCast]
      exact ⟨arcB_iff.2 ⟨by omega, by have := hkn.arc; omega⟩, hkn.tail, own_not hkn.arc hkn.tail (mix_own hkn.arc hkn.up)⟩
theorem rep_ok (hv : validB T = true) (h12 : T.nodes ≤ 12) : entOK T n d (repX T own n d) = true := by
  unfold repX
  cases hitL own (nextL T [] n d) with
  | some b => exact ent_ok _ _ _ _ h12
  | none =>
    unfold entOK
    simp only [leave_next, Bool.true_and]
    by_cases hdn : d = n
    · subst hdn; rw [next_self]; simp
    · rw [decide_eq_false (by omega)]; simp
theorem rep_valid (hv : validB T = true) (h12 : T.nodes ≤ 12) (hn : (n : Int) < T.nodes) : tabOK T (repT T M n) = true := by
  unfold tabOK repT
  have h1 : nodeB T (n : Int) = true := nodeB_iff.2 ⟨by omega, hn⟩
  have hN := (sound_of hv).nodes
  have h2 : decide (((repL T (ownM T M n) n T.nodes.toNat).length : Int) = T.nodes) = true := decide_eq_true (by rw [repL_len]; omega)
  have h3 : leaveB T n (downL M (outL T n)) = true := leave_out T n _
  have h4 : entsOK T n (repL T (ownM T M n) n T.nodes.toNat) = true := entsOK_all fun d e he => by
    have hd : d < T.nodes.toNat := by
      have := (List.getElem?_eq_some_iff.1 he).1
      rwa [repL_len] at this
    rw [repL_get hd] at he
    cases he
    exact rep_ok hv h12
  rw [hv, h1, h2, h3, h4]
  rfl
theorem rch_more {D E : List Bool} (hv : validB T = true) (hn : (n : Int) < T.nodes) (hd : (d : Int) < T.nodes) (hE : ∀ a, a < 2 * T.links.length → downN D a = false → downN E a = false) (h : 0 ≤ dN T D d n) : 0 ≤ dN T E d n := by
  have hsp := spath_sp (D := D) hv hd hn h
  have hch : Ch T E d n (spathL T D n d) := by
    have := hsp.ch
    generalize spathL T D n d = p at this
    clear hsp h hn
    induction this with
    | nil => exact .nil
    | cons ha ht hu hm ho hp ih => exact .cons ha ht (hE _ ha hu) hm ho ih
  exact (hch.le hv hd).1
/-- Who reaches a node without the mask has arcs for it. -/
theorem rep_reach (hv : validB T = true) (hn : (n : Int) < T.nodes) (hd : (d : Int) < T.nodes) (hne : n ≠ d) (h : 0 ≤ dN T M d n) : (repX T (ownM T M n) n d).arcs ≠ [] := by
  have hown : 0 ≤ dN T (ownM T M n) d n := rch_more hv hn hd (fun a ha hu => by rw [own_down, hu]; simp) h
  have hbare : 0 ≤ dN T [] d n := rch_more hv hn hd (fun a ha hu => by simp [downN]) h
  unfold repX
  cases hh : hitL (ownM T M n) (nextL T [] n d) with
  | none =>
    obtain ⟨k, hk⟩ := next_ex (D := []) hv hn hd hne hbare
    have := next_of hk ((sound_of hv).cost k hk.arc).1
    intro h0
    have h0 : nextL T [] n d = [] := h0
    rw [h0] at this
    cases this
  | some b =>
    have hr : spE T (mixM T (ownM T M n) n d b.toNat) n d = 0 := by
      unfold mixM
      split
      · rename_i h1
        unfold rchB at h1
        exact of_decide_eq_true h1
      · rw [spE_zero hv (own_fits _ _ _) hn hd, if_neg (by omega)]
    intro h0
    have h0 : (entX T (mixM T (ownM T M n) n d b.toNat) n d).arcs = [] := h0
    unfold entX at h0
    rw [if_pos ⟨hr, fun e => hne (by omega)⟩] at h0
    cases h0
end
end PW
end Go.Proofs.YtbpgndbjbaoolaaGreat
