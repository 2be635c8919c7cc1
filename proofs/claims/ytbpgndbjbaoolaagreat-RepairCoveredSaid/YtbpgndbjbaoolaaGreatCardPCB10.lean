/- Texts of the proof, part 10. -/
import Derived.Test.YtbpgndbjbaoolaaGreatCardPCB9
/- Texts of segments with small numbers: the reference of layers 9 and 18. -/
namespace Go.Proofs.YtbpgndbjbaoolaaGreat
set_option linter.unusedVariables false
set_option linter.unusedSimpArgs false
namespace PW
open Go.RowKit Reg Mem Net

abbrev strB (l : List UInt8) : PV := .raw (.string ⟨l.toArray⟩)
theorem bytes_no (a b : UInt8) : ((⟨#[a, b]⟩ : ByteArray).toList == (⟨#[]⟩ : ByteArray).toList) = false := by
  have h : ∀ (ba : ByteArray) i r, ByteArray.toList.loop ba i r = if i < ba.size then ByteArray.toList.loop ba (i + 1) (ba.get! i :: r) else r.reverse := fun ba i r => by rw [ByteArray.toList.loop]
  have h2 : (⟨#[]⟩ : ByteArray).toList = [] := by
    unfold ByteArray.toList
    rw [h, if_neg (by show ¬ 0 < 0; omega)]
    rfl
  have h3 : (⟨#[a, b]⟩ : ByteArray).toList = [a, b] := by
    unfold ByteArray.toList
    rw [h, if_pos (by show 0 < 2; omega), h, if_pos (by show 1 < 2; omega), h, if_neg (by show ¬ 2 < 2; omega)]
    rfl
  rw [h2, h3]
  rfl
theorem cat_bytes (a b : List UInt8) : (⟨a.toArray⟩ : ByteArray) ++ ⟨b.toArray⟩ = ⟨(a ++ b).toArray⟩ := by
  apply ByteArray.ext
  simp
theorem y_catB {P : Program} {σ : Sto} {t : Tms} {o : Oper} {x y : Operand} {ty tz : TypeId} {a b : List UInt8} (ho : o.op = .binOp .add ty x y tz) (hx : evalO t x = some (strB a)) (hy : evalO t y = some (strB b)) (hn : a.length + b.length ≤ 1000000) : Yield P σ t o (strB (a ++ b)) :=
  y_cat ho hx hy (cat_bytes a b) (by show a.toArray.size + b.toArray.size ≤ _; simp; omega)
theorem y_oneByte {P : Program} {σ : Sto} {t : Tms} {o : Oper} {src dst e : TypeId} {x : Operand} {c : UInt8} (ho : o.op = .convert src dst x) (hs : P.underlying src = some (.slice e)) (hd : P.underlying dst = some .string) (he : P.underlying e = some (.int .u8)) (hx : evalO t x = some (.slice 1 [.raw (.int .u8 c.toNat)])) : Yield P σ t o (strB [c]) := by
  intro F base E ρ w hρ _ hT
  have h1 := evalO_rep hρ hT hx
  generalize hz : ρ x = z at h1
  cases h1 with
  | slice b off _ cap cs _ h0 h1 h2 hb hM hc hl hr =>
    match cs, hl, hc, hr with
    | [v], _, hc, hr =>
      have hv := rep_raw (hr 0 v _ rfl rfl)
      subst hv
      have hlc := run_loadCellsFrom (P := P) ⟨b, off, none⟩ rfl [.int .u8 c.toNat] 0 #[] w (fun j x hx => by rw [Nat.zero_add]; exact hc j x hx)
      have hrun : (convert src dst (.slice (some ⟨b, off, none⟩) 1 cap)).run P w = .ok (.string ⟨[c].toArray⟩) w := by
        simp only [convert, Sem.run_bind, run_underlying hs, run_underlying hd, run_underlying he, Result.andThen_ok, Conv.bytesToString, loadCells]
        rw [show (1 : Nat) = [Value.int .u8 c.toNat].length from rfl, hlc]
        simp
        rfl
      simp only [execOp, ho, hz, Sem.run_bind, hrun]
      exact upon_val (.raw _)
theorem y_addU {P : Program} {σ : Sto} {t : Tms} {o : Oper} {x y : Operand} {ty tz : TypeId} {a b c : Int} (ho : o.op = .binOp .add ty x y tz) (hx : evalO t x = some (.raw (.int .u64 a))) (hy : evalO t y = some (.raw (.int .u64 b))) (hc : IntKind.u64.wrap (a + b) = c) : Yield P σ t o (.raw (.int .u64 c)) :=
  y_int ho hx hy fun w => by simp [binOp, Op.intArith, hc]
def dig (n : Nat) : UInt8 := UInt8.ofNat (48 + n)
theorem dig_nat {n : Nat} (h : n < 10) : (dig n).toNat = 48 + n := by unfold dig; rw [UInt8.toNat_ofNat']; omega
set_option maxRecDepth 10000 in
set_option maxHeartbeats 1000000 in
theorem digits_can (n : Nat) (hn : n < 10) : Can Tryz.prog 162 [.raw (.int .u64 n)] (· = strB [dig n]) := by
  refine can_of Tryz.func162 rfl Tryz.ntmps162 rfl ?_
  refine W_cs (.a 1 rfl <| .k [0] rfl) ?_
  refine W_seq ?_
  refine W_cs (.a 1 rfl <| .v (y_lss rfl rfl rfl rfl) rfl <| .k [0, 4] rfl) ?_
  refine W_cond rfl (fun hc => ?_) (fun hc => ?_)
  · refine W_cs (.a 1 rfl <| .v (y_addU (c := ((dig n).toNat : Int)) rfl rfl rfl (by rw [IntKind.wrap_u64, dig_nat hn]; omega)) rfl <| .v (y_conv rfl Tryz.underlying172 Tryz.underlying5 rfl (u8_wrap _ (by rw [dig_nat hn]; omega))) rfl <| .a 1 rfl <| .v (y_oneByte rfl Tryz.underlying176 Tryz.underlying9 Tryz.underlying5 rfl) rfl <| .a 1 rfl <| .k [2] rfl) ?_
    refine W_ret ?_
    exact ⟨_, _, ResL.of rfl, Pur.pure, rfl⟩
  · exact absurd (ff hc) (by omega)
set_option maxRecDepth 10000 in
set_option maxHeartbeats 1000000 in
theorem number_can (n : Nat) (hn : n < 10) : Can Tryz.prog 140 [num n] (· = strB [dig n]) := by
  refine can_of Tryz.func140 rfl Tryz.ntmps140 rfl ?_
  refine W_cs (.a 1 rfl <| .k [0] rfl) ?_
  refine W_seq ?_
  refine W_cs (.a 2 rfl <| .k [0, 4] rfl) ?_
  refine W_cond rfl (fun hc => ?_) (fun hc => ?_)
  · exact absurd (tt hc) (by omega)
  · refine W_skip ?_
    refine W_cs (.a 1 rfl <| .v (y_conv (c := (n : Int)) rfl Tryz.underlying3 Tryz.underlying172 rfl (by rw [IntKind.wrap_u64]; omega)) rfl <| .c rfl (digits_can n hn) rfl <| .a 1 rfl <| .k [2] rfl) ?_
    refine W_ret ?_
    exact ⟨_, _, ResL.of rfl, Pur.pure, rfl⟩
theorem y_build5 {P : Program} {σ : Sto} {t : Tms} {o : Oper} {ty : TypeId} {v0 v1 v2 v3 v4 : Value} (ho : o.op = .build ty #[(0, .const v0), (1, .const v1), (2, .const v2), (3, .const v3), (4, .const v4)]) (hb : P.built ty [(0, v0), (1, v1), (2, v2), (3, v3), (4, v4)] = some #[v0, v1, v2, v3, v4]) : Yield P σ t o (.agg [.raw v0, .raw v1, .raw v2, .raw v3, .raw v4]) := by
  intro F base E ρ w hρ hS hT
  have hrun := run_build (P := P) w ty #[(0, v0), (1, v1), (2, v2), (3, v3), (4, v4)] #[v0, v1, v2, v3, v4] hb
  have hr : (execOp ρ o).run P w = .ok (.value (.agg #[v0, v1, v2, v3, v4])) w := by
    simp only [execOp, ho, Sem.run_bind, List.map_toArray, List.map_cons, List.map_nil, hρ.const, hrun, Result.andThen_ok, Sem.run_pure]
  rw [hr]
  refine upon_val (.agg #[v0, v1, v2, v3, v4] _ rfl (fun i x u k1 k2 => ?_))
  match i, k1, k2 with
  | 0, k1, k2 => simp at k1 k2; subst k1; subst k2; exact .raw _
  | 1, k1, k2 => simp at k1 k2; subst k1; subst k2; exact .raw _
  | 2, k1, k2 => simp at k1 k2; subst k1; subst k2; exact .raw _
  | 3, k1, k2 => simp at k1 k2; subst k1; subst k2; exact .raw _
  | 4, k1, k2 => simp at k1 k2; subst k1; subst k2; exact .raw _
  | _ + 5, k1, k2 => simp at k2
abbrev kindP : List PV := [strB [], strB [110], strB [97], strB [103], strB [98]]
set_option maxRecDepth 10000 in
set_option maxHeartbeats 1000000 in
theorem stext_can (n : Nat) (hn : n < 10) : Can Tryz.prog 99 [segV ⟨1, n⟩] (· = strB [110, dig n]) := by
  obtain ⟨q1, hq1⟩ : ∃ q, decide ((n : Int) < 0) = q := ⟨_, rfl⟩
  obtain ⟨q2, hq2⟩ : ∃ q, decide ((999999999 : Int) < (n : Int)) = q := ⟨_, rfl⟩
  refine can_of Tryz.func99 rfl Tryz.ntmps99 rfl ?_
  refine W_cs (.a 2 rfl <| .k [1] rfl) ?_
  refine W_seq ?_
  refine W_csK 21 (.raw (.bool (q1 || q2))) [1] rfl ?_ ?_
  · refine .a 11 rfl <| .v (y_q rfl (hq1)) rfl <| .a 2 rfl <| ?_
    cases q1
    · exact .a 2 rfl <| .v (y_q rfl (hq2)) rfl <| .a 1 rfl <| .k [21, 1] rfl
    · exact .a 4 rfl <| .k [21, 1] rfl
  refine W_cond rfl (fun hc => ?_) (fun hc => ?_)
  · have e1 : q1 = false := by rw [← hq1]; exact decide_eq_false (by omega)
    have e2 : q2 = false := by rw [← hq2]; exact decide_eq_false (by omega)
    rw [e1, e2] at hc
    cases hc
  · refine W_skip ?_
    refine W_rs ?_
    refine WR_v (y_build5 rfl (by kernel_rfl)) rfl <| WR_a 2 rfl <| WR_k [1, 3] rfl ?_
    refine W_sto (σ' := [some (.cells 149 kindP)]) rfl ?_
    refine W_sealPtr 3 0 0 rfl rfl ?_
    refine W_ren [] (.cons 1 rfl Ren.pure <| .cons 3 rfl (Ren.pure (p := .pin kindP 0)) .nil) .nil rfl rfl ?_
    refine W_drs mixed (by kernel_rfl) (.a 2 rfl <| .v [3, 24] (y_ix (1) rfl (show (0 : Int) ≤ 1 by decide) (show (1 : Int) < 5 by decide) rfl) rfl rfl <| .v [25] (y_ld rfl ((show kindP[1]? = some (strB [110]) from rfl))) rfl rfl <| .a 2 rfl <| .v [28] (y_c rfl (number_can n hn)) rfl rfl <| .v [26, 29] (y_catB rfl rfl rfl (by simp)) rfl rfl <| .a 1 rfl <| .k [2] rfl) ?_
    refine W_ret ?_
    exact ⟨_, _, ResL.of rfl, Pur.pure, rfl⟩
def txtK (l : List Nat) (k : Nat) : List UInt8 := ((List.range k).flatMap fun i => (if 0 < i then [32] else []) ++ [110, dig (l.getD i 0)])
theorem txtK_step (l : List Nat) (k : Nat) : txtK l (k + 1) = txtK l k ++ ((if 0 < k then [32] else []) ++ [110, dig (l.getD k 0)]) := by
  unfold txtK
  rw [List.range_succ, List.flatMap_append]
  simp
theorem txtK_len (l : List Nat) (k : Nat) : (txtK l k).length ≤ 3 * k := by
  induction k with
  | zero => simp [txtK]
  | succ k ih => rw [txtK_step]; simp only [List.length_append]; split <;> simp <;> omega
def nodeS (l : List Nat) : List Seg := l.map fun (n : Nat) => (⟨1, (n : Int)⟩ : Seg)
set_option maxRecDepth 10000 in
set_option maxHeartbeats 1000000 in
theorem tlist_can (l : List Nat) (hl : ∀ n ∈ l, n < 10) (hll : l.length ≤ 1000) : Can Tryz.prog 50 [segsV (nodeS l)] (· = strB (txtK l l.length)) := by
  have hsl : (nodeS l).length = l.length := by simp [nodeS]
  refine can_of Tryz.func50 rfl Tryz.ntmps50 rfl ?_
  refine W_cs (.a 1 rfl <| .k [0] rfl) ?_
  refine W_cs (.a 1 rfl <| .k [0, 3] rfl) ?_
  refine W_seq ?_
  refine W_cs (.a 1 rfl <| .k [0, 3, 4] rfl) ?_
  refine W_block ?_
  refine W_k [0, 3, 4] rfl ?_
  refine W_loop (fun r st => ∃ k : Nat, k ≤ l.length ∧ r = l.length - k ∧ st = ⟨[(0, segsV (nodeS l)), (3, strB (txtK l k)), (4, num k)], []⟩) l.length ⟨0, by omega, by omega, rfl⟩ ?_
  rintro r st ⟨k, hk, rfl, rfl⟩
  have htl := txtK_len l k
  refine W_seq ?_
  refine W_cs (.a 4 rfl <| .k [0, 3, 4, 8] rfl) ?_
  refine W_cond rfl (fun h1 => ?_) (fun h1 => ?_)
  · have hlt : k < l.length := by have := tt h1; omega
    have hg : (nodeS l)[k]? = some ⟨1, ((l.getD k 0 : Nat) : Int)⟩ := by simp [nodeS, hlt]
    have h10 := hl _ (getD_mem (d := 0) hlt)
    have hst := txtK_step l k
    refine W_skip ?_
    refine W_seq ?_
    refine W_block ?_
    refine W_seq ?_
    refine W_cs (.a 2 rfl <| .v (y_ix ((k * 2)) rfl) rfl <| .v (y_la rfl (segs_drop _ k _ hg) rfl) rfl <| .c rfl (stext_can _ h10) rfl <| .v (y_strEql (q := false) rfl rfl rfl (bytes_no _ _)) rfl <| .k [0, 3, 4, 16] rfl) ?_
    refine W_cond rfl (fun hc => ?_) (fun hc => ?_)
    · cases hc
    · refine W_skip ?_
      refine W_seq ?_
      refine W_cs (.a 2 rfl <| .k [0, 3, 4, 18] rfl) ?_
      refine W_cond rfl (fun h2 => ?_) (fun h2 => ?_)
      · have h3 : 0 < k := by have := tt h2; omega
        rw [if_pos h3] at hst
        refine W_chain (.a 1 rfl <| .v (y_catB (b := [32]) rfl rfl rfl (by simp; omega)) rfl <| .a 1 rfl <| .k [0, 3, 4] rfl) ?_
        refine W_chain (.a 3 rfl <| .v (y_ix ((k * 2)) rfl) rfl <| .v (y_la rfl (segs_drop _ k _ hg) rfl) rfl <| .c rfl (stext_can _ h10) rfl <| .v (y_catB rfl rfl rfl (by simp; omega)) rfl <| .a 1 rfl <| .k [0, 3, 4] rfl) ?_
        refine W_chain (.a 1 rfl <| .v (y_ar rfl) rfl <| .a 1 rfl <| .k [0, 3, 4] rfl) ?_
        refine ⟨l.length - (k + 1), by omega, k + 1, by omega, rfl, ?_⟩
        rw [hst]
        first
          | rfl
          | (rw [← List.append_assoc]; rfl)
          | (rw [List.nil_append]; rfl)
      · have h3 : ¬ 0 < k := by have := ff h2; omega
        rw [if_neg h3] at hst
        refine W_skip ?_
        refine W_chain (.a 3 rfl <| .v (y_ix ((k * 2)) rfl) rfl <| .v (y_la rfl (segs_drop _ k _ hg) rfl) rfl <| .c rfl (stext_can _ h10) rfl <| .v (y_catB rfl rfl rfl (by simp; omega)) rfl <| .a 1 rfl <| .k [0, 3, 4] rfl) ?_
        refine W_chain (.a 1 rfl <| .v (y_ar rfl) rfl <| .a 1 rfl <| .k [0, 3, 4] rfl) ?_
        refine ⟨l.length - (k + 1), by omega, k + 1, by omega, rfl, ?_⟩
        rw [hst]
        first
          | rfl
          | (rw [← List.append_assoc]; rfl)
          | (rw [List.nil_append]; rfl)
  · have hke : k = l.length := by have := ff h1; omega
    subst hke
    refine W_exit ?_
    refine W_cs (.a 2 rfl <| .k [2] rfl) ?_
    refine W_ret ?_
    exact ⟨_, _, ResL.of rfl, Pur.pure, rfl⟩
end PW
end Go.Proofs.YtbpgndbjbaoolaaGreat

/- New results of calls that read rows of their caller's; the examples of layer 28. -/
namespace Go.Proofs.YtbpgndbjbaoolaaGreat
set_option linter.unusedVariables false
set_option linter.unusedSimpArgs false
namespace PW
open Go.RowKit Reg Mem Net

section
variable {P : Program} {σ : Sto} {t : Tms} {o : Oper}
theorem CanS.nils {f : FuncId} {a : PV} {l : List PV} {R : PV → Sto → Prop} (h : CanS P f (a :: boolsV [] :: l) σ R) : CanS P f (a :: .raw (.slice none 0 0) :: l) σ R := fun F base E w vs hS hR => by
  refine h F base E w vs hS ⟨hR.1, fun i c u h1 h2 => ?_⟩
  match i, h2 with
  | 0, h2 => exact hR.2 0 c u h1 h2
  | 1, h2 =>
    simp at h2
    subst h2
    have := hR.2 1 c _ h1 rfl
    cases this
    exact .nils
  | i + 2, h2 => exact hR.2 (i + 2) c u h1 h2
end
end PW
end Go.Proofs.YtbpgndbjbaoolaaGreat

/- The laws on lists of segments: awake, large. -/
namespace Go.Proofs.YtbpgndbjbaoolaaGreat
set_option linter.unusedVariables false
set_option linter.unusedSimpArgs false
namespace PW
open Go.RowKit Reg Mem Net

def nextC (T : Topo) (D : List Bool) (L : List Int) (m d : Nat) : List Int := if m = d ∨ L.getD m 0 < 0 then [] else passL T D L (L.getD m 0) d (outL T m)
def cntC (T : Topo) (D : List Bool) (L : List Int) (d : Nat) : Nat → Nat → Int
  | 0, m => if m = d then 1 else 0
  | f + 1, m => if m = d then 1 else (nextC T D L m d).foldl (fun c a => min 2 (c + cntC T D L d f (headN T a.toNat).toNat)) 0
def covC (y u : Nat) (c : Int) : Bool := decide ((ringD y).getD u 0 = c) && (decide (nodeE ringT [] (u : Int) (y : Int) = 0) && decide (cntC ringT [] (ringD y) y ((ringD y).getD u 0).toNat u = 1))
end PW
end Go.Proofs.YtbpgndbjbaoolaaGreat

/- The examples of layer 28, walked. -/
namespace Go.Proofs.YtbpgndbjbaoolaaGreat
set_option linter.unusedVariables false
set_option linter.unusedSimpArgs false
namespace PW
open Go.RowKit Reg Mem Net

instance (l : List Seg) : IsFlatL (segsP l) := ⟨fun i u h => by
  obtain ⟨s, _, hs⟩ := List.mem_flatMap.1 (List.mem_of_getElem? h)
  simp only [segP, List.mem_cons, List.not_mem_nil, or_false] at hs
  rcases hs with rfl | rfl
  · infer_instance
  · infer_instance⟩
end PW
end Go.Proofs.YtbpgndbjbaoolaaGreat

/- The arguments of the laws of layer 28: a query, a way. -/
namespace Go.Proofs.YtbpgndbjbaoolaaGreat
set_option linter.unusedVariables false
set_option linter.unusedSimpArgs false
namespace PW
open Go.RowKit Reg Mem Net Go.WideShapes
/-- A topology with a mask and two nodes. -/
structure Qry where
  T : Topo
  D : List Bool
  x : Int
  y : Int
def qryP (c : Qry) : List PV := topoP c.T ++ [boolsV c.D, num c.x, num c.y]
def qryV (c : Qry) : PV := .agg (qryP c)
instance (c : Qry) : IsPureL (qryP c) := by unfold qryP; unfold topoP; simp only [List.cons_append, List.nil_append]; infer_instance
instance (c : Qry) : IsPure (qryV c) := by unfold qryV; infer_instance
/-- A path in a topology with a mask. -/
structure Wy where
  T : Topo
  D : List Bool
  p : List Int
  n : Int
def wyP (c : Wy) : List PV := topoP c.T ++ [boolsV c.D, intsV c.p, num c.n]
def wyV (c : Wy) : PV := .agg (wyP c)
instance (c : Wy) : IsPureL (wyP c) := by unfold wyP; unfold topoP; simp only [List.cons_append, List.nil_append]; infer_instance
instance (c : Wy) : IsPure (wyV c) := by unfold wyV; infer_instance
section
variable {H : Type} {enc : TypeId × Value → H} {W : World}
end
end PW
end Go.Proofs.YtbpgndbjbaoolaaGreat

/- The laws of layer 28, walked: List, Least, Encode, Segment. -/
namespace Go.Proofs.YtbpgndbjbaoolaaGreat
set_option linter.unusedVariables false
set_option linter.unusedSimpArgs false
namespace PW
open Go.RowKit Reg Mem Net

end PW
end Go.Proofs.YtbpgndbjbaoolaaGreat

/- Package stable's Check; the laws of layer 28 on parts, routes and detours, walked. -/
namespace Go.Proofs.YtbpgndbjbaoolaaGreat
set_option linter.unusedVariables false
set_option linter.unusedSimpArgs false
namespace PW
open Go.RowKit Reg Mem Net

theorem Ch.ups {T : Topo} {D : List Bool} {d m : Nat} {q : List Int} (h : Ch T D d m q) : ∀ a ∈ q, downN D a.toNat = false := by
  induction h with
  | nil => intro z hz; cases hz
  | @cons n a m p ha ht hu hm ho hp ih =>
    intro z hz
    rcases List.mem_cons.1 hz with rfl | hz
    · rw [Int.toNat_natCast]; exact hu
    · exact ih z hz
theorem lst_pos {T : Topo} {D : List Bool} {n : Int} {p : List Int} (hp : 0 < p.length) : 0 < (lstL T D n p).length := by
  unfold lstL
  obtain ⟨f, hf⟩ : ∃ f, p.length = f + 1 := ⟨p.length - 1, by omega⟩
  rw [hf]
  simp only [lstF]
  rw [if_pos (by omega)]
  cases topD (covB T D n p 0) 0 p.length <;> simp
end PW
end Go.Proofs.YtbpgndbjbaoolaaGreat

/- Listed entries, and the tables of the state Transition, as plain mathematics. -/
namespace Go.Proofs.YtbpgndbjbaoolaaGreat
set_option linter.unusedVariables false
set_option linter.unusedSimpArgs false
namespace PW
open Go.RowKit Reg Mem Net

/-- A list without an arc segment in front. -/
def cutL : List Seg → List Seg
  | [] => []
  | s :: l => if s.kind = 2 then l else s :: l
/-- The listed entry. -/
noncomputable def entX (T : Topo) (D : List Bool) (n d : Int) : Ent :=
  if spE T D n d = 0 ∧ n ≠ d then ⟨[(spathL T D n.toNat d.toNat).getD 0 0], true, cutL (lstL T [] n (spathL T D n.toNat d.toNat))⟩ else ⟨[], false, []⟩
/-- A path to another node. -/
structure Pth (T : Topo) (D : List Bool) (x y : Nat) (p : List Int) : Prop where
  valid : validB T = true
  fits : fitsB T D = true
  ne : x ≠ y
  hx : (x : Int) < T.nodes
  hy : (y : Int) < T.nodes
  sp : SP T D y x p
theorem pth_of {T : Topo} {D : List Bool} {n d : Int} (h : spE T D n d = 0) (hne : n ≠ d) : ∃ a b : Nat, n = (a : Int) ∧ d = (b : Int) ∧ Pth T D a b (spathL T D a b) := by
  have hf : fitsB T D = true := by
    have h' := h
    unfold spE at h'
    split at h'
    · rename_i h1; exact (nodeE_zero h1).2.1
    · rename_i h1; exact absurd h' h1
  obtain ⟨a, b, rfl, rfl, ha, hb, hv, hsp⟩ := spE_facts h
  simp only [Int.toNat_natCast] at hsp
  exact ⟨a, b, rfl, rfl, hv, hf, fun e => hne (by rw [e]), ha, hb, hsp⟩
section
variable {T : Topo} {D : List Bool} {x y : Nat} {p : List Int}
theorem Pth.pos (h : Pth T D x y p) : 0 < p.length := by
  have hsp := h.sp
  cases hsp with
  | nil => exact absurd rfl h.ne
  | cons _ _ _ => simp
theorem Pth.fol (h : Pth T D x y p) : Fol T D x p := ⟨h.valid, h.fits, nodeB_iff.2 ⟨by omega, h.hx⟩, ch_walk h.sp.ch, h.sp.ch.ups⟩
theorem Pth.zero (h : Pth T D x y p) : folE T D x p = 0 := fol_zero h.fol
theorem Pth.len (h : Pth T D x y p) : (p.length : Int) < T.nodes := h.sp.len_lt h.valid h.hy
theorem Pth.head (h : Pth T D x y p) : p.getD 0 0 ∈ nextL T D x y := by
  have hsp := h.sp
  cases hsp with
  | nil => exact absurd rfl h.ne
  | @cons n a m q h1 hm hq => exact next_of h1 ((sound_of h.valid).cost a h1.arc).1
theorem Pth.lst (h : Pth T D x y p) : 0 < (lstL T [] x p).length ∧ (lstL T [] x p).length ≤ p.length := ⟨lst_pos h.pos, lst_len _ _⟩
theorem Pth.ck (h : Pth T D x y p) : ckE T D (lstL T [] x p) x p = true := by
  have hF := h.fol
  unfold ckE
  rw [if_pos h.zero, ck_iff hF.bare _ 0 (Nat.zero_le _), Bool.and_eq_true]
  exact ⟨ex_lst hF.bare _ 0 (Nat.zero_le _) (by omega), deg_lst hF.bare _ 0 (Nat.zero_le _)⟩
/-- How a list begins. -/
theorem lst_head {n : Int} (hp : 0 < p.length) : ∃ s l, lstL T [] n p = s :: l ∧ (s.kind = 1 ∨ s = ⟨2, p.getD 0 0⟩) := by
  unfold lstL
  obtain ⟨f, hf⟩ : ∃ f, p.length = f + 1 := ⟨p.length - 1, by omega⟩
  rw [hf]
  simp only [lstF]
  rw [if_pos (by omega)]
  cases topD (covB T [] n p 0) 0 p.length with
  | none => exact ⟨_, _, rfl, .inr rfl⟩
  | some j => exact ⟨_, _, rfl, .inl rfl⟩
theorem Pth.whole (h : Pth T D x y p) : ckE T D (cutL (lstL T [] x p)) x p = true ∨ ckE T D (⟨2, p.getD 0 0⟩ :: cutL (lstL T [] x p)) x p = true := by
  obtain ⟨s, l, hl, hs⟩ := lst_head (T := T) (n := (x : Int)) h.pos
  have hc := h.ck
  rw [hl] at hc ⊢
  rcases hs with hs | rfl
  · left
    simp only [cutL]
    rw [if_neg (by omega)]
    exact hc
  · right
    exact hc
end
theorem ent_yes {T : Topo} {D : List Bool} {x y : Nat} (h : Pth T D x y (spathL T D x y)) : entX T D x y = ⟨[(spathL T D x y).getD 0 0], true, cutL (lstL T [] x (spathL T D x y))⟩ := by
  unfold entX
  rw [if_pos]
  · simp only [Int.toNat_natCast]
  · refine ⟨?_, fun e => h.ne (by omega)⟩
    rw [spE_zero h.valid h.fits h.hx h.hy, if_neg]
    have := (h.sp.cost h.valid h.hy).2
    omega
theorem ent_no {T : Topo} {D : List Bool} {n d : Int} (h : ¬ (spE T D n d = 0 ∧ n ≠ d)) : entX T D n d = ⟨[], false, []⟩ := if_neg h
/-- A stable node segment: the listed entry towards its end. -/
theorem Stab.same {T : Topo} {D : List Bool} {x y : Nat} {p : List Int} (h : Stab T D x y p) : spathL T D x y = p ∧ Pth T D x y p ∧ lstL T [] x p = [⟨1, (y : Int)⟩] := by
  have hv := h.valid
  have hch := h.sp.ch.mask h.up
  have h1 := hch.le hv h.hy
  have h0 := h.sp.cost hv h.hy
  have hq := spath_sp (D := D) hv h.hy h.hx h1.1
  have hqc := hq.cost hv h.hy
  have hqb := hq.ch.bare
  have h2 := hqb.le hv h.hy
  have hq' := hqb.sp hv h.hy (by omega)
  have he : spathL T D x y = p := hq'.unique hv h.hy h.sp h.cnt
  have hP : Pth T D x y p := ⟨hv, h.fits, h.ne, h.hx, h.hy, by rw [← he]; exact hq⟩
  refine ⟨he, hP, ?_⟩
  unfold lstL
  obtain ⟨f, hf⟩ : ∃ f, p.length = f + 1 := ⟨p.length - 1, by have := h.pos; omega⟩
  rw [hf, lst_some (j := p.length) h.pos h.pos (Nat.le_refl _) h.cov (fun k h3 h4 => by omega), lst_end _ _ (Nat.le_refl _), List.take_length, h.sp.ch.fin]
theorem Stab.ent {T : Topo} {D : List Bool} {x y : Nat} {p : List Int} (h : Stab T D x y p) : nextL T [] x y = [p.getD 0 0] ∧ nextL T D x y = [p.getD 0 0] ∧ entX T D x y = ⟨[p.getD 0 0], true, [⟨1, (y : Int)⟩]⟩ := by
  obtain ⟨h1, h2, h3⟩ := h.same
  obtain ⟨h4, h5, _⟩ := h.next (i := 0) h.pos (u := x) rfl
  refine ⟨h4, h5, ?_⟩
  rw [← h1] at h2
  rw [ent_yes h2, h1, h3]
  rfl
end PW
end Go.Proofs.YtbpgndbjbaoolaaGreat

/- Package repair and its reference: Entry. -/
namespace Go.Proofs.YtbpgndbjbaoolaaGreat
set_option linter.unusedVariables false
set_option linter.unusedSimpArgs false
namespace PW
open Go.RowKit Reg Mem Net Rng

section
variable {P : Program} {σ : Sto} {t : Tms} {o : Oper} {N L : Nat} {ops : Array Oper}
/-- Whether an empty slice is nil: either may be. -/
theorem WR_nilq {rest : List Oper} {K : St → Prop} {d : Nat} {x y : Operand} {ty tz : TypeId} {xs : List PV} (ho : o.op = .binOp .eql ty x y tz) (hk : slK1 P ty = true) (hx : evalO t x = some (.slice 0 xs)) (hy : evalO t y = some (.raw (.slice none 0 0))) (hd : o.dst = some d) (hw : wantB ops t o = some true) (hN : Nat.blt d N = true)
    (h : ∀ b, WR P N L ops rest ⟨(d, .raw (.bool b)) :: t, σ⟩ K) : WR P N L ops (o :: rest) ⟨t, σ⟩ K := by
  refine WR_step hw fun F base E a w hs next Q hn => ?_
  obtain ⟨e, hu⟩ := slK1_spec hk
  have h1 := evalO_rep (isEval a) hs.tmp hx
  have h2 := evalO_rep (isEval a) hs.tmp hy
  generalize hz : a.eval x = z at h1
  generalize hz' : a.eval y = z' at h2
  cases h2
  obtain ⟨p, c, rfl, _, _⟩ := rep_cap h1
  have hrun := Lib.run_eql_slice_nil w ty e p 0 c 0 0 hu
  have hg : ∀ a n c b m d, (eqGuard .eql ty x y (.slice a n c) (.slice b m d)).run P w = .ok () w := fun _ _ _ _ _ _ => rfl
  have hU : StepUpon P w (fun v w' => Rep E w' v (.raw (.bool p.isNone))) ((execOp a.eval o).run P w) := by
    simp only [execOp, ho, hz, hz', Sem.run_bind, Sem.run_pure, Result.andThen_ok, hg, hrun]
    exact upon_val (.raw _)
  refine upon_of hU fun v w' hE hv => hn _ _ _ E (h p.isNone) ?_ (.ext hE) (Below.ofExt hE hs.sat.bl)
  rw [hd]
  exact hs.put (hs.sat.ext hE) (.ext hE) hN hv
/-- A slice with a bound on its capacity. -/
theorem y_sliceMax {ty e s n h : Nat} {x hi' mx : Operand} {xs : List PV} {k k' : IntKind} {hii mi : Int} (ho : o.op = .slice ty x none (some hi') (some mx)) (he : elK P ty = some (e, s)) (hx : evalO t x = some (.slice n xs)) (hhi : evalO t hi' = some (.raw (.int k hii))) (hmx : evalO t mx = some (.raw (.int k' mi))) (hxl : xs.length = n * s) (hli : hii = (h : Int)) (hmi : mi = (h : Int)) (hl : h ≤ n) :
    Yield P σ t o (.slice h (xs.take (h * s))) := by
  intro F base E ρ w hρ hS hT
  have h1 := evalO_rep hρ hT hx
  have h2 := evalO_rep hρ hT hhi
  have h3 := evalO_rep hρ hT hmx
  obtain ⟨hu, i, hi, hs⟩ := elK_spec he
  generalize hz : ρ x = v at h1
  generalize hz' : ρ hi' = u at h2
  generalize hz2 : ρ mx = u2 at h3
  cases h2
  cases h3
  subst hli
  subst hmi
  obtain ⟨a, c, rfl, hc1, hc2⟩ := rep_cap h1
  have hR := rep_sliced (s := s) (l := 0) h1 hxl (Nat.zero_le _) hl (Nat.le_refl h) (Nat.le_trans hl hc1)
  have hrun : (Instr.sliceAt ty (.slice a n c) none (some (.int k (h : Int))) (some (.int k' (h : Int)))).run P w = .ok (.slice (if h = 0 then a else a.map (·.add (0 * s))) (h - 0) (h - 0)) w := by
    have : h ≤ c := Nat.le_trans hl hc1
    simp [Instr.sliceAt, run_underlying hu, Instr.slice, Instr.sliceBounds, Instr.sliceBound, asIntOf, this, sizeOf, typeInfo, hi]
  simp only [execOp, ho, hz, hz', hz2, Option.map_some, Option.map_none, Sem.run_bind, hrun, Result.andThen_ok, Sem.run_pure]
  refine upon_val ?_
  simpa using hR
end
theorem slS : slK1 Tryz.prog 45 = true := by kernel_rfl
set_option maxRecDepth 10000 in
set_option maxHeartbeats 1000000 in
theorem sclone_can (l : List Seg) (hl : l.length ≤ 1000) : Can Tryz.prog 73 [segsV l] (· = segsV l) := by
  refine can_of Tryz.func73 rfl Tryz.ntmps73 rfl ?_
  refine W_cs (.a 1 rfl <| .k [0] rfl) ?_
  refine W_seq ?_
  refine W_rs (WR.mono (K := fun s => ∃ b : Bool, s = ⟨[(0, segsV l), (4, .raw (.bool b))], []⟩ ∧ (b = true → l = [])) ?_ ?_)
  · cases l with
    | nil => exact WR_a 1 rfl <| WR_nilq rfl slS rfl rfl rfl rfl rfl fun b => WR_k [0, 4] rfl ⟨b, rfl, fun _ => rfl⟩
    | cons a l => exact WR_a 1 rfl <| WR_val (y_notNil rfl slS rfl rfl (Nat.succ_pos _)) rfl rfl rfl <| WR_k [0, 4] rfl ⟨_, rfl, fun h => by cases h⟩
  rintro _ ⟨b, rfl, hb⟩
  refine W_cond rfl (fun hc => ?_) (fun hc => ?_)
  · have : l = [] := hb hc
    subst this
    refine W_cs (.a 1 rfl <| .k [2] rfl) ?_
    refine W_ret ?_
    exact ⟨_, _, ResL.of rfl, Pur.nils, rfl⟩
  · refine W_skip ?_
    refine W_rs ?_
    refine WR_l (l_emptySlice rfl (fok.sl.get rfl)) rfl <| WR_a 1 rfl <| WR_l (l_append rfl (fok.rk.get rfl) rfl rfl rfl (segsP_len l) (by unfold maxLen; omega)) rfl <| WR_a 1 rfl <| WR_k [2] rfl ?_
    refine W_ret ?_
    refine ⟨_, _, ResL.of rfl, Pur.ownL (xs := segsP l) (ys := segsP l) rfl PurL.pure, ?_⟩
    rw [Nat.zero_add]; rfl
theorem y_segTail {P : Program} {σ : Sto} {t : Tms} {o : Oper} {ty : TypeId} {x lo : Operand} {s : Seg} {l : List Seg} {k : IntKind} (ho : o.op = .slice ty x (some lo) none none) (he : elK P ty = some (53, 2)) (hx : evalO t x = some (.slice (s :: l).length (segsP (s :: l)))) (hlo : evalO t lo = some (.raw (.int k 1))) : Yield P σ t o (.slice l.length (segsP l)) := by
  have h := y_sliceLo (l := 1) (σ := σ) ho he hx hlo (segsP_len _) rfl (by simp)
  have e : ((segsP (s :: l)).drop (1 * 2)).take (((s :: l).length - 1) * 2) = segsP l := by
    show (segsP l).take _ = _
    refine List.take_of_length_le ?_
    rw [segsP_len]; simp
  rw [e] at h
  exact h
theorem ent_err {T : Topo} {D : List Bool} {n d : Int} (h : spE T D n d ≠ 0) : entX T D n d = ⟨[], false, []⟩ := ent_no fun hh => h hh.1
theorem sp_node {T : Topo} {D : List Bool} {n d : Int} (h : spE T D n d ≠ 0) (h' : spE T D n d ≠ 11) : nodeE T D n d = spE T D n d := by
  unfold spE at *
  split at h <;> simp_all
theorem sp_err {T : Topo} {D : List Bool} {n d : Int} (h : spE T D n d = 0 ∨ spE T D n d = 11) : nodeE T D n d = 0 := by
  unfold spE at h
  split at h
  · assumption
  · rename_i hh
    rcases h with h | h
    · exact h
    · exfalso
      unfold nodeE chkE at h
      split at h <;> (try split at h) <;> (try split at h) <;> omega
def entE (e : Int) (x : Ent) : PV := .tuple [entV x, num e]
set_option maxRecDepth 10000 in
set_option maxHeartbeats 1000000 in
theorem pent_can (T : Topo) (D : List Bool) (n d : Int) (hlk : T.links.length ≤ 256) (h12 : T.nodes ≤ 12) : Can Tryz.prog 35 [topoV T, boolsV D, num n, num d] (· = entE (nodeE T D n d) (entX T D n d)) := by
  obtain ⟨c1, hc1⟩ : ∃ q, decide (spE T D n d ≠ 0) = q := ⟨_, rfl⟩
  obtain ⟨c2, hc2⟩ : ∃ q, decide (spE T D n d ≠ 11) = q := ⟨_, rfl⟩
  refine can_of Tryz.func35 rfl Tryz.ntmps35 rfl ?_
  refine W_rs ?_
  refine WR_a 3 rfl <| WR_k [1, 2, 3, 4, 8] rfl ?_
  refine W_cs (.a 4 rfl <| .c rfl (pcpath_can T D n d) rfl <| .a 5 rfl <| .k [1, 2, 4, 8, 10, 11] rfl) ?_
  refine W_seq ?_
  refine W_csK 27 (.raw (.bool (c1 && c2))) [1, 2, 4, 8, 10, 11] rfl ?_ ?_
  · refine .a 1 rfl <| .v (y_q rfl (hc1)) rfl <| .a 1 rfl <| ?_
    cases c1
    · exact .a 3 rfl <| .k [27, 1, 2, 4, 8, 10, 11] rfl
    · exact .a 1 rfl <| .v (y_q rfl (hc2)) rfl <| .a 1 rfl <| .k [27, 1, 2, 4, 8, 10, 11] rfl
  refine W_cond rfl (fun h1 => ?_) (fun h1 => ?_)
  · obtain ⟨rfl, rfl⟩ := Bool.and_eq_true_iff.1 h1
    have e1 := tt hc1
    rw [ent_err e1, sp_node e1 (tt hc2)]
    refine W_rs ?_
    refine WR_a 4 rfl <| WR_k [8, 9] rfl ?_
    refine W_ret ?_
    exact ⟨_, _, ResL.of rfl, Pur.tupleL (PurL.cons (Pur.aggL (PurL.cons Pur.nils <| PurL.cons Pur.pure <| PurL.cons Pur.nils PurL.nil)) (PurL.cons Pur.pure PurL.nil)), rfl⟩
  · have e2 : spE T D n d = 0 ∨ spE T D n d = 11 := by
      rcases Bool.and_eq_false_iff.1 h1 with h | h
      · subst h; exact .inl (Classical.byContradiction (ff hc1))
      · subst h; exact .inr (Classical.byContradiction (ff hc2))
    rw [sp_err e2]
    clear h1 hc1 hc2
    obtain ⟨P, hP⟩ : ∃ P, (if spE T D n d = 0 then spathL T D n.toNat d.toNat else []) = P := ⟨_, rfl⟩
    rw [hP]
    refine W_skip ?_
    refine W_seq ?_
    refine W_cs (.a 3 rfl <| .k [1, 2, 4, 8, 10, 32] rfl) ?_
    refine W_cond rfl (fun h2 => ?_) (fun h2 => ?_)
    · have hno : ¬ (spE T D n d = 0 ∧ n ≠ d) := by
        rintro ⟨h3, h4⟩
        rw [if_pos h3] at hP
        obtain ⟨a, b, rfl, rfl, hp⟩ := pth_of h3 h4
        have := tt h2
        have := hp.pos
        rw [← hP] at *
        simp only [Int.toNat_natCast] at *
        omega
      rw [ent_no hno]
      refine W_rs ?_
      refine WR_a 3 rfl <| WR_k [8, 9] rfl ?_
      refine W_ret ?_
      exact ⟨_, _, ResL.of rfl, Pur.tupleL (PurL.cons (Pur.aggL (PurL.cons Pur.nils <| PurL.cons Pur.pure <| PurL.cons Pur.nils PurL.nil)) (PurL.cons Pur.pure PurL.nil)), rfl⟩
    · obtain ⟨p0, q, rfl⟩ : ∃ p0 q, P = p0 :: q := by
        cases P with
        | nil => exact absurd rfl (ff h2)
        | cons p0 q => exact ⟨_, _, rfl⟩
      have h3 : spE T D n d = 0 := by
        rcases e2 with h | h
        · exact h
        · rw [h] at hP; simp at hP
      rw [if_pos h3] at hP
      have h4 : n ≠ d := by
        rintro rfl
        obtain ⟨a, b, ha, hb, _, _, hv', hsp⟩ := spE_facts h3
        have : a = b := by omega
        subst this
        have := hsp.self
        rw [this] at hP
        cases hP
      obtain ⟨a, b, rfl, rfl, hp⟩ := pth_of h3 h4
      simp only [Int.toNat_natCast] at hP
      have hent := ent_yes hp
      rw [hP] at hp hent
      have hpl := hp.len
      obtain ⟨s, l, hl, hs⟩ := lst_head (T := T) (n := (a : Int)) hp.pos
      have hll := hp.lst.2
      rw [hl] at hent hll
      have hsl := slist_can T D (p0 :: q) a (by simp only [List.length_cons] at hpl ⊢; omega) hlk h12
      rw [hl] at hsl
      unfold segsE at hsl
      rw [hp.zero, if_pos rfl] at hsl
      clear h2 e2 hl hs hp hP h3 h4
      simp only [List.length_cons] at hll hpl
      rw [show (p0 :: q).getD 0 0 = p0 from rfl] at hent
      refine W_skip ?_
      refine W_cs (.a 4 rfl <| .c rfl (hsl) rfl <| .a 5 rfl <| .k [8, 10, 12] rfl) ?_
      refine W_seq ?_
      refine W_cs (.a 1 rfl <| .v (y_ix (0) rfl (by omega) (by simp only [List.length_cons]; omega)) rfl <| .a 1 rfl <| .v (y_ld rfl ((show (segsP (s :: l))[0]? = some (num s.kind) from rfl))) rfl <| .a 1 rfl <| .k [8, 10, 12, 46] rfl) ?_
      refine W_cond rfl (fun h5 => ?_) (fun h5 => ?_)
      · have hc : cutL (s :: l) = l := if_pos (tt h5)
        rw [hc] at hent
        have hlm : l.length ≤ 32 := by omega
        refine W_chain (.a 1 rfl <| .v (y_segTail rfl (fok.el.get rfl) rfl rfl) rfl <| .a 1 rfl <| .k [8, 10, 12] rfl) ?_
        refine W_seq ?_
        refine W_cs (.a 3 rfl <| .k [8, 10, 12, 51] rfl) ?_
        refine W_cond rfl (fun h6 => ?_) (fun h6 => ?_)
        · exact absurd (tt h6) (by omega)
        · clear h6
          refine W_skip ?_
          refine W_dfs 5 8 mixed (
            .val [10] rfl (y_a rfl) rfl rfl <|
            .val [53] rfl (y_sliceMax (h := 1) rfl (fok.el.get rfl) rfl rfl rfl (show (intsP (p0 :: q)).length = _ by simp [intsP]) rfl rfl (by simp)) rfl rfl <|
            .val [12] rfl (y_a rfl) rfl rfl <|
            .val [55] rfl (y_c rfl (sclone_can _ (by omega))) rfl rfl <|
            .val [54, 56] rfl (y_a rfl) rfl rfl <|
            .nil) (by kernel_rfl) rfl rfl (keepT_sub (ks := [8, 57]) rfl) ?_
          refine WR_a 2 rfl <| WR_k [8, 9] rfl ?_
          refine W_ret ?_
          exact ⟨_, _, ResL.of rfl, Pur.tupleL (PurL.cons (Pur.aggL (PurL.cons (Pur.pure (p := intsV [p0])) <| PurL.cons Pur.pure <| PurL.cons (Pur.pure (p := segsV _)) PurL.nil)) (PurL.cons Pur.pure PurL.nil)), by rw [hent]; rfl⟩
      · have hc : cutL (s :: l) = s :: l := if_neg (ff h5)
        rw [hc] at hent
        have hlm : (s :: l).length ≤ 32 := by simp only [List.length_cons]; omega
        refine W_skip ?_
        refine W_seq ?_
        refine W_cs (.a 3 rfl <| .k [8, 10, 12, 51] rfl) ?_
        refine W_cond rfl (fun h6 => ?_) (fun h6 => ?_)
        · exact absurd (tt h6) (by omega)
        · clear h6
          refine W_skip ?_
          refine W_dfs 5 8 mixed (
            .val [10] rfl (y_a rfl) rfl rfl <|
            .val [53] rfl (y_sliceMax (h := 1) rfl (fok.el.get rfl) rfl rfl rfl (show (intsP (p0 :: q)).length = _ by simp [intsP]) rfl rfl (by simp)) rfl rfl <|
            .val [12] rfl (y_a rfl) rfl rfl <|
            .val [55] rfl (y_c rfl (sclone_can _ (by omega))) rfl rfl <|
            .val [54, 56] rfl (y_a rfl) rfl rfl <|
            .nil) (by kernel_rfl) rfl rfl (keepT_sub (ks := [8, 57]) rfl) ?_
          refine WR_a 2 rfl <| WR_k [8, 9] rfl ?_
          refine W_ret ?_
          exact ⟨_, _, ResL.of rfl, Pur.tupleL (PurL.cons (Pur.aggL (PurL.cons (Pur.pure (p := intsV [p0])) <| PurL.cons Pur.pure <| PurL.cons (Pur.pure (p := segsV _)) PurL.nil)) (PurL.cons Pur.pure PurL.nil)), by rw [hent]; rfl⟩
end PW
end Go.Proofs.YtbpgndbjbaoolaaGreat

/- A call that makes blocks of its own, in a caller that has some: the frame rule of the pure walk. No program in sight. -/
namespace Go.Proofs.YtbpgndbjbaoolaaGreat
set_option linter.unusedVariables false
set_option linter.unusedSimpArgs false
namespace PW
open Go.RowKit Reg Mem

/-- Other numbers: k blocks lie in front. -/
inductive Up (k : Nat) : PV → PV → Prop
  | pure {p : PV} [IsPure p] : Up k p p
  | own {i j : Nat} : j = k + i → Up k (.own i) (.own j)
  | ptr {i j o : Nat} : j = k + i → Up k (.ptr i o) (.ptr j o)
  | agg {xs ys : List PV} (hl : ys.length = xs.length) (hs : ∀ (j : Nat) x y, xs[j]? = some x → ys[j]? = some y → Up k x y) : Up k (.agg xs) (.agg ys)
  | tuple {xs ys : List PV} (hl : ys.length = xs.length) (hs : ∀ (j : Nat) x y, xs[j]? = some x → ys[j]? = some y → Up k x y) : Up k (.tuple xs) (.tuple ys)
  | func {f : FuncId} {xs ys : List PV} (hl : ys.length = xs.length) (hs : ∀ (j : Nat) x y, xs[j]? = some x → ys[j]? = some y → Up k x y) : Up k (.func f xs) (.func f ys)
def UpL (k : Nat) (xs ys : List PV) : Prop := ys.length = xs.length ∧ ∀ (j : Nat) x y, xs[j]? = some x → ys[j]? = some y → Up k x y
theorem UpL.nil {k : Nat} : UpL k [] [] := ⟨rfl, fun j x y h => by simp at h⟩
theorem UpL.cons {k : Nat} {x y : PV} {xs ys : List PV} (h : Up k x y) (hs : UpL k xs ys) : UpL k (x :: xs) (y :: ys) := ⟨by simp [hs.1], fun j a b h1 h2 => by
  cases j with
  | zero => simp at h1 h2; subst h1; subst h2; exact h
  | succ j => exact hs.2 j a b (by simpa using h1) (by simpa using h2)⟩
theorem UpL.pure {k : Nat} {xs : List PV} [h : IsPureL xs] : UpL k xs xs := ⟨rfl, fun j x y h1 h2 => by
  rw [h1] at h2; cases h2
  haveI := h.out j x h1
  exact Up.pure⟩
theorem Up.aggL {k : Nat} {xs ys : List PV} (h : UpL k xs ys) : Up k (.agg xs) (.agg ys) := .agg h.1 h.2
theorem Up.tupleL {k : Nat} {xs ys : List PV} (h : UpL k xs ys) : Up k (.tuple xs) (.tuple ys) := .tuple h.1 h.2
theorem Up.funcL {k : Nat} {f : FuncId} {xs ys : List PV} (h : UpL k xs ys) : Up k (.func f xs) (.func f ys) := .func h.1 h.2
inductive BUp (k : Nat) : Blk → Blk → Prop
  | cells {ty : TypeId} {xs ys : List PV} : UpL k xs ys → BUp k (.cells ty xs) (.cells ty ys)
  | row {e s n : Nat} {xs ys : List PV} : UpL k xs ys → BUp k (.row e s n xs) (.row e s n ys)
  | mp {kv : List (Value × PV)} [IsPureL (kv.map (·.2))] : BUp k (.mp kv) (.mp kv)
def BUpL (k : Nat) (xs ys : List Blk) : Prop := ys.length = xs.length ∧ ∀ (j : Nat) x y, xs[j]? = some x → ys[j]? = some y → BUp k x y
theorem BUpL.nil {k : Nat} : BUpL k [] [] := ⟨rfl, fun j x y h => by simp at h⟩
theorem BUpL.cons {k : Nat} {x y : Blk} {xs ys : List Blk} (h : BUp k x y) (hs : BUpL k xs ys) : BUpL k (x :: xs) (y :: ys) := ⟨by simp [hs.1], fun j a b h1 h2 => by
  cases j with
  | zero => simp at h1 h2; subst h1; subst h2; exact h
  | succ j => exact hs.2 j a b (by simpa using h1) (by simpa using h2)⟩
section
variable {E E1 E2 : Env} {w : World} {k : Nat}
theorem Up.rep (hat : ∀ i, i < E1.L → E2.at_ (k + i) = E1.at_ i ∧ k + i < E2.L) (hM : ∀ b, E2.M b → E1.M b) {p q : PV} (h : Up k p q) : ∀ v, Rep E1 w v p → Rep E2 w v q := by
  induction h with
  | @pure p hp =>
    intro v h
    have := hp.out E1 E2.M w v hM h
    exact this.goes (E := EF E2.M) (E' := E2) (w := w) (w' := w) ⟨Nat.zero_le _, fun i hi => absurd hi (Nat.not_lt_zero i), fun _ _ h => h, Nat.le_refl _, fun _ _ _ => rfl⟩
  | @own i j hij =>
    intro v h
    subst hij
    cases h with
    | own _ hi _ h hs => exact .own _ (hat i hi).2 v ((hat i hi).1.trans h) hs
  | @ptr i j o hij =>
    intro v h
    subst hij
    cases h with
    | ptr _ _ b hi h => exact .ptr _ o b (hat i hi).2 (by rw [(hat i hi).1]; exact h)
  | @agg xs ys hl _ ih =>
    intro v h
    cases h with
    | agg cs _ hl' hr => exact .agg cs ys (hl'.trans hl.symm) (fun j c u h1 h2 => by
        have hj : j < xs.length := by rw [← hl]; exact (List.getElem?_eq_some_iff.1 h2).1
        exact ih j xs[j] u (by simp [hj]) h2 c (hr j c _ h1 (by simp [hj])))
  | @tuple xs ys hl _ ih =>
    intro v h
    cases h with
    | tuple cs _ hl' hr => exact .tuple cs ys (hl'.trans hl.symm) (fun j c u h1 h2 => by
        have hj : j < xs.length := by rw [← hl]; exact (List.getElem?_eq_some_iff.1 h2).1
        exact ih j xs[j] u (by simp [hj]) h2 c (hr j c _ h1 (by simp [hj])))
  | @func f xs ys hl _ ih =>
    intro v h
    cases h with
    | func _ cs _ hl' hr => exact .func f cs ys (hl'.trans hl.symm) (fun j c u h1 h2 => by
        have hj : j < xs.length := by rw [← hl]; exact (List.getElem?_eq_some_iff.1 h2).1
        exact ih j xs[j] u (by simp [hj]) h2 c (hr j c _ h1 (by simp [hj])))
theorem UpL.rep (hat : ∀ i, i < E1.L → E2.at_ (k + i) = E1.at_ i ∧ k + i < E2.L) (hM : ∀ b, E2.M b → E1.M b) {xs ys : List PV} (h : UpL k xs ys) {cs : List Value} (hs : RepL E1 w cs xs) : RepL E2 w cs ys := ⟨hs.1.trans h.1.symm, fun j c u h1 h2 => by
  have hj : j < xs.length := by rw [← h.1]; exact (List.getElem?_eq_some_iff.1 h2).1
  exact (h.2 j xs[j] u (by simp [hj]) h2).rep hat hM c (hs.2 j c _ h1 (by simp [hj]))⟩
theorem BUp.sat {base base' : Nat} (hb : base' ≤ base) (hat : ∀ i, i < E1.L → E2.at_ (k + i) = E1.at_ i ∧ k + i < E2.L) (hM : ∀ b, E2.M b → E1.M b) {v : Value} {x y : Blk} (h : BUp k x y) (hs : BlkSat base E1 w v x) : BlkSat base' E2 w v y := by
  cases h with
  | cells h1 =>
    obtain ⟨b, cs, h2, h3, h4, h5⟩ := hs
    exact ⟨b, cs, h2, by omega, h4, h1.rep hat hM h5⟩
  | row h1 =>
    obtain ⟨cs, h2, h3⟩ := hs
    refine ⟨cs, ⟨h2.1, ?_⟩, h1.rep hat hM h3⟩
    rcases h2.2 with h | ⟨g, cap, cur, a1, a2, a3⟩
    · exact .inl h
    · exact .inr ⟨g, cap, cur, a1, by omega, a3⟩
  | @mp kv hp =>
    obtain ⟨r, es, ck, h2, h3, h4, h5, h6⟩ := hs
    exact ⟨r, es, ck, h2, by omega, h4, h5, UpL.pure (k := k).rep hat hM h6⟩
end
/-- The frame rule. -/
theorem CanS.frame {P : Program} {f : FuncId} {ps : List PV} {σ : Sto} {R : PV → Sto → Prop} [IsPureL ps]
    (h : CanS P f ps [] (fun r σ1 => ∃ bs, σ1 = bs.map some ∧ ∃ r' bs', Up σ.length r r' ∧ BUpL σ.length bs bs' ∧ R r' (σ ++ bs'.map some))) : CanS P f ps σ R := fun F base E w vs hS hR => by
  refine (h E.M w.heap.size (EF E.M) w vs (Sat.start E.M w (fun b hb => hS.lt hb) hS.gl) (hR.pure (fun _ h => h))).mono ?_
  rintro e w' ⟨v, r, σ1, E1, rfl, ⟨bs, rfl, r', bs', hu, hbu, hRr⟩, hS1, hg1, hB1, hv⟩
  have hE : Ext w w' := hB1
  have hL1 : E1.L = bs.length := by rw [hS1.len]; simp
  have hlen : ((List.range bs.length).map E1.at_).length = bs'.length := by rw [List.length_map, List.length_range, hbu.1]
  have hget : ∀ (i : Nat) v, ((List.range bs.length).map E1.at_)[i]? = some v → i < bs.length ∧ v = E1.at_ i := fun i v hi => by
    have hi' : i < bs.length := by have := (List.getElem?_eq_some_iff.1 hi).1; simpa using this
    rw [List.getElem?_map, List.getElem?_range hi'] at hi
    cases hi
    exact ⟨hi', rfl⟩
  have hbk : ∀ i, i < bs.length → ∃ x, bs[i]? = some x ∧ (bs.map some)[i]? = some (some x) := fun i hi => ⟨bs[i], by simp [hi], by simp [hi]⟩
  have hat : ∀ i, i < E1.L → (E.pushAll ((List.range bs.length).map E1.at_)).at_ (σ.length + i) = E1.at_ i ∧ σ.length + i < (E.pushAll ((List.range bs.length).map E1.at_)).L := fun i hi => by
    rw [hL1] at hi
    refine ⟨?_, ?_⟩
    · simp only [Env.pushAll, hS.len]
      rw [if_neg (by omega), Nat.add_sub_cancel_left, List.getD_eq_getElem?_getD, List.getElem?_map, List.getElem?_range hi]
      rfl
    · simp only [Env.pushAll, hS.len, List.length_map, List.length_range]; omega
  have hM : ∀ b, (E.pushAll ((List.range bs.length).map E1.at_)).M b → E1.M b := fun b hb => by
    rcases hb with hb | ⟨v, hv1, hv2⟩
    · exact (hS1.mm b).2 (.inl hb)
    · obtain ⟨i, hi⟩ := List.getElem?_of_mem hv1
      obtain ⟨hi1, rfl⟩ := hget i v hi
      obtain ⟨x, _, hx⟩ := hbk i hi1
      exact (hS1.mm b).2 (.inr ⟨i, x, hx, hv2⟩)
  have hp := hS.pushAll hE ((List.range bs.length).map E1.at_) bs' hlen
    (fun v hv1 b hb => by
      obtain ⟨i, hi⟩ := List.getElem?_of_mem hv1
      obtain ⟨hi1, rfl⟩ := hget i v hi
      obtain ⟨x, _, hx⟩ := hbk i hi1
      exact ((hS1.blk i x hx).lt hb).1)
    (fun i j u v b hi hj hu hv => by
      obtain ⟨hi1, rfl⟩ := hget i u hi
      obtain ⟨hj1, rfl⟩ := hget j v hj
      obtain ⟨x, _, hx⟩ := hbk i hi1
      obtain ⟨y, _, hy⟩ := hbk j hj1
      exact hS1.inj i j x y b hx hy hu hv)
    (fun i v blk hi hb => by
      obtain ⟨hi1, rfl⟩ := hget i v hi
      obtain ⟨x, hx0, hx⟩ := hbk i hi1
      exact (hbu.2 i x blk hx0 hb).sat hS.bl hat hM (hS1.blk i x hx))
  exact ⟨v, r', _, _, rfl, hRr, hp.1, hp.2, Below.ofExt hE hS.bl, hu.rep hat hM v hv⟩
end PW
end Go.Proofs.YtbpgndbjbaoolaaGreat

/- Distances from a node and to a node: which nodes are reached, as plain mathematics. -/
namespace Go.Proofs.YtbpgndbjbaoolaaGreat
set_option linter.unusedVariables false
set_option linter.unusedSimpArgs false
namespace PW
open Go.RowKit Reg Mem Net

section
variable {T : Topo} {D : List Bool}
theorem Ch.snoc {d n : Nat} {q : List Int} (h : Ch T D d n q) : ∀ {a x : Nat}, (q = [] ∨ overN T d = false) → a < 2 * T.links.length → tailN T a = (d : Int) → downN D a = false → headN T a = (x : Int) → Ch T D x n (q ++ [(a : Int)]) := by
  induction h with
  | nil => intro a x _ h1 h2 h3 h4; exact .cons h1 h2 h3 h4 (.inl rfl) .nil
  | @cons n b m p hb ht hu hm ho hp ih =>
    intro a x hov h1 h2 h3 h4
    have hov' : overN T d = false := by rcases hov with h | h; cases h; exact h
    refine .cons hb ht hu hm ?_ (ih (.inr hov') h1 h2 h3 h4)
    rcases ho with h | h
    · have := hp.to h
      subst this
      exact .inr hov'
    · exact .inr h
theorem fwd_ch (hv : validB T = true) {n : Nat} (hn : (n : Int) < T.nodes) {d m : Nat} {p : List Int} (h : Ch T D d m p) (h0 : 0 ≤ at' (distL T D n true) (m : Int)) (ho : p = [] ∨ m = n ∨ overN T m = false) : 0 ≤ at' (distL T D n true) (d : Int) := by
  have hI := distL_is (sound_of hv) D true hn
  induction h with
  | nil => exact h0
  | @cons m a m' p ha ht hu hm hov hp ih =>
    have hw := hI.closed a ha ⟨hu, by simp only [arcY, if_true]; rw [ht]; exact h0, by
      simp only [arcY, if_true]; rw [ht]
      rcases ho with h | h | h
      · cases h
      · exact .inl (by rw [h])
      · exact .inr (by simpa using h)⟩
    simp only [arcX, if_true] at hw
    rw [hm] at hw
    refine ih hw.1 ?_
    rcases hov with h | h
    · exact .inl h
    · exact .inr (.inr h)
theorem fwd_to (hv : validB T = true) {n : Nat} (hn : (n : Int) < T.nodes) : ∀ (k x : Nat), (x : Int) < T.nodes → 0 ≤ at' (distL T D n true) (x : Int) → at' (distL T D n true) (x : Int) ≤ k → 0 ≤ dN T D x n := by
  have hS := sound_of hv
  have hI := distL_is hS D true hn
  intro k
  induction k with
  | zero =>
    intro x hx h0 hk
    rcases hI.supp x hx h0 with h | ⟨a, ha, hX, hW, hs⟩
    · subst h; rw [dN_self hv hn]; exact Int.le_refl _
    · have := (hS.cost a ha).1
      have := hW.2.1
      omega
  | succ k ih =>
    intro x hx h0 hk
    rcases hI.supp x hx h0 with h | ⟨a, ha, hX, hW, hs⟩
    · subst h; rw [dN_self hv hn]; exact Int.le_refl _
    · simp only [arcX, arcY, if_true] at hX hs
      obtain ⟨hu, hy0, hyo⟩ := hW
      simp only [arcY, if_true] at hy0 hyo
      have hc := (hS.cost a ha).1
      have ht := hS.tail a ha
      obtain ⟨y, hy⟩ := Int.eq_ofNat_of_zero_le ht.1
      rw [hy] at hy0 hyo hs ht
      have hyN : (y : Int) < T.nodes := ht.2
      have h1 := ih y hyN hy0 (by omega)
      have hsp := spath_sp (D := D) hv hyN hn h1
      have hc2 := hsp.ch.snoc (a := a) (x := x) (by
        rcases hyo with h | h
        · have : y = n := by omega
          subst this
          exact .inl hsp.self
        · exact .inr (by simpa using h)) ha hy hu hX
      exact (hc2.le hv hx).1
theorem fwd_iff (hv : validB T = true) {n d : Nat} (hn : (n : Int) < T.nodes) (hd : (d : Int) < T.nodes) : 0 ≤ (distL T D n true).getD d 0 ↔ 0 ≤ dN T D d n := by
  have hS := sound_of hv
  have hI := distL_is hS D true hn
  have hl := hI.len
  have e : (distL T D n true).getD d 0 = at' (distL T D n true) (d : Int) := by
    unfold at'
    rw [Int.toNat_natCast, List.getD_eq_getElem?_getD, List.getD_eq_getElem?_getD, List.getElem?_eq_getElem (by omega)]
    rfl
  rw [e]
  constructor
  · intro h0
    exact fwd_to hv hn (at' (distL T D n true) (d : Int)).toNat d hd h0 (by have := Int.toNat_of_nonneg h0; omega)
  · intro h0
    have hsp := spath_sp (D := D) hv hd hn h0
    refine fwd_ch hv hn hsp.ch ?_ (.inr (.inl rfl))
    rw [hI.root]
    exact Int.le_refl _
end
end PW
end Go.Proofs.YtbpgndbjbaoolaaGreat

/- Assumed components, and the tables of the state Repair, as plain mathematics. -/
namespace Go.Proofs.YtbpgndbjbaoolaaGreat
set_option linter.unusedVariables false
set_option linter.unusedSimpArgs false
namespace PW
open Go.RowKit Reg Mem Net Rng

def grpN (T : Topo) (a : Nat) : Int := (lnk T.links (a / 2)).grp
/-- Whether a node reaches another one. -/
noncomputable def rchB (T : Topo) (D : List Bool) (n d : Int) : Bool := decide (spE T D n d = 0)
/-- The assumed component of an arc and a destination. -/
noncomputable def asmF (T : Topo) (a : Nat) (d : Int) : Int × Int :=
  if (decide (0 < grpN T a) && rchB T (maskL T 3 (grpN T a)) (tailN T a) d) = true then (3, grpN T a)
  else if (decide (headN T a ≠ d) && rchB T (maskL T 2 (headN T a)) (tailN T a) d) = true then (2, headN T a)
  else (1, ((a / 2 : Nat) : Int))
/-- The arcs of a mask that begin at a node. -/
def ownM (T : Topo) (M : List Bool) (n : Int) : List Bool := (List.range (2 * T.links.length)).map fun a => downN M a && decide (tailN T a = n)
def orM (T : Topo) (D E : List Bool) : List Bool := (List.range (2 * T.links.length)).map fun a => downN D a || downN E a
theorem map_fits {T : Topo} {f : Nat → Bool} : fitsB T ((List.range (2 * T.links.length)).map f) = true := by simp [fitsB]
theorem mask_fits (T : Topo) (k x : Int) : fitsB T (maskL T k x) = true := map_fits
theorem or_fits (T : Topo) (D E : List Bool) : fitsB T (orM T D E) = true := map_fits
theorem rch_iff {T : Topo} {D : List Bool} {x y : Nat} (hv : validB T = true) (hf : fitsB T D = true) (hx : (x : Int) < T.nodes) (hy : (y : Int) < T.nodes) : rchB T D x y = true ↔ 0 ≤ dN T D y x := by
  unfold rchB
  rw [decide_eq_true_eq, spE_zero hv hf hx hy]
  split <;> omega
theorem grp_range {T : Topo} (hv : validB T = true) {a : Nat} (ha : a < 2 * T.links.length) : 0 ≤ grpN T a ∧ grpN T a ≤ 64 := by
  have h := valid_link hv (a / 2) (by omega)
  unfold grpN
  unfold linkOK at h
  rw [Bool.and_eq_true] at h
  unfold withinB at h
  exact of_decide_eq_true h.2
theorem asm_comp {T : Topo} (hv : validB T = true) {a : Nat} (ha : a < 2 * T.links.length) (d : Int) : compB T (asmF T a d).1 (asmF T a d).2 = true := by
  have hg := grp_range hv ha
  unfold asmF
  split
  · rename_i h
    rw [Bool.and_eq_true, decide_eq_true_eq] at h
    show compB T 3 (grpN T a) = true
    unfold compB
    simp only [if_neg (show ¬ (3 : Int) = 1 by decide), if_neg (show ¬ (3 : Int) = 2 by decide), if_true, Bool.and_eq_true, decide_eq_true_eq]
    exact ⟨by omega, by omega⟩
  · split
    · obtain ⟨h0, h1⟩ := (sound_of hv).head a ha
      show compB T 2 (headN T a) = true
      unfold compB
      simp only [if_neg (show ¬ (2 : Int) = 1 by decide), if_true]
      exact nodeB_iff.2 ⟨h0, h1⟩
    · show compB T 1 ((a / 2 : Nat) : Int) = true
      unfold compB
      simp only [if_true, Bool.and_eq_true, decide_eq_true_eq]
      exact ⟨by omega, by omega⟩
/-- The first arc of a list that is in a mask. -/
def hitL (own : List Bool) (l : List Int) : Option Int := l.find? fun a => downN own a.toNat
noncomputable def mixM (T : Topo) (own : List Bool) (n d : Int) (a : Nat) : List Bool :=
  if rchB T (orM T (maskL T (asmF T a d).1 (asmF T a d).2) own) n d = true then orM T (maskL T (asmF T a d).1 (asmF T a d).2) own else own
/-- The entry in the state Repair. -/
noncomputable def repX (T : Topo) (own : List Bool) (n d : Nat) : Ent := match hitL own (nextL T [] n d) with
  | none => ⟨nextL T [] n d, false, []⟩
  | some a => entX T (mixM T own n d a.toNat) n d
noncomputable def repL (T : Topo) (own : List Bool) (n k : Nat) : List Ent := (List.range k).map fun d => repX T own n d
theorem repL_step (T : Topo) (own : List Bool) (n k : Nat) : repL T own n (k + 1) = repL T own n k ++ [repX T own n k] := by simp [repL, List.range_succ]
theorem repL_len (T : Topo) (own : List Bool) (n k : Nat) : (repL T own n k).length = k := by simp [repL]
noncomputable def repT (T : Topo) (M : List Bool) (n : Nat) : Tab := ⟨n, repL T (ownM T M n) n T.nodes.toNat, downL M (outL T n)⟩
section
variable {T : Topo} {M own : List Bool} {n d : Nat}
theorem mix_fits (hf : fitsB T own = true) (a : Nat) : fitsB T (mixM T own n d a) = true := by
  unfold mixM; split
  · exact or_fits _ _ _
  · exact hf
end
end PW
end Go.Proofs.YtbpgndbjbaoolaaGreat

/- Package table: Routes. -/
namespace Go.Proofs.YtbpgndbjbaoolaaGreat
set_option linter.unusedVariables false
set_option linter.unusedSimpArgs false
namespace PW
open Go.RowKit Reg Mem Net

end PW
end Go.Proofs.YtbpgndbjbaoolaaGreat

/- Package transition and the reference of layer 30: Old, Table, Final. -/
namespace Go.Proofs.YtbpgndbjbaoolaaGreat
set_option linter.unusedVariables false
set_option linter.unusedSimpArgs false
namespace PW
open Go.RowKit Reg Mem Net Rng

/-- A table, or an error. -/
def tabE (e : Int) (x : Tab) : PV := .tuple [tabV (if e = 0 then x else ⟨0, [], []⟩), num e]
theorem entE_zero {T : Topo} {D : List Bool} {n d : Int} (hv : validB T = true) (hf : fitsB T D = true) (hn : nodeB T n = true) (hd : nodeB T d = true) : nodeE T D n d = 0 := by
  unfold nodeE chkE
  rw [hv, hf, hn]
  simp [hd]
theorem downN_get {M : List Bool} {a : Nat} : M.getD a false = downN M a := by
  unfold downN
  by_cases h : M.length = 0
  · have : M = [] := List.eq_nil_of_length_eq_zero h
    subst this; simp
  · first
      | rfl
      | simp [h]
end PW
end Go.Proofs.YtbpgndbjbaoolaaGreat

/- Pure walks: a region that draws its order, whose operations on the store stand in one order among themselves. No program in sight. -/
namespace Go.Proofs.YtbpgndbjbaoolaaGreat
set_option linter.unusedVariables false
set_option linter.unusedSimpArgs false
namespace PW
open Go.RowKit Reg Mem

/-- Of an operation: what it leaves; its place among those that change the store; between which stores it may stand. -/
structure GD where
  p : PV
  r : Option Nat
  lo : Nat
  hi : Nat
section
variable {P : Program} {N L : Nat}
inductive GK (P : Program) (N : Nat) (ops : Array Oper) (σs : List Sto) (T : Tms) (o : Oper) : GD → Prop
  | val {p : PV} {d lo hi : Nat} (ks : List Nat) (hks : (ks.all fun k => (o.looksAt ops).contains k) = true) (hw : wantB ops T o = some true) (hy : ∀ r σ, lo ≤ r → r ≤ hi → σs[r]? = some σ → Yield P σ (pickT T ks) o p) (hd : o.dst = some d) (hN : Nat.blt d N = true) : GK P N ops σs T o ⟨p, none, lo, hi⟩
  | skip {d lo hi : Nat} (hw : wantB ops T o = some false) (hd : o.dst = some d) (hN : Nat.blt d N = true) : GK P N ops σs T o ⟨.raw undef, none, lo, hi⟩
  | loud {p : PV} {d r lo hi : Nat} {σ σ' : Sto} (ks : List Nat) (hks : (ks.all fun k => (o.looksAt ops).contains k) = true) (hw : wantB ops T o = some true) (h1 : σs[r]? = some σ) (h2 : σs[r + 1]? = some σ') (hy : Loud P σ (pickT T ks) o p σ') (hd : o.dst = some d) (hN : Nat.blt d N = true) : GK P N ops σs T o ⟨p, some r, lo, hi⟩
  | loud0 {p : PV} {r lo hi : Nat} {σ σ' : Sto} (ks : List Nat) (hks : (ks.all fun k => (o.looksAt ops).contains k) = true) (hw : wantB ops T o = some true) (h1 : σs[r]? = some σ) (h2 : σs[r + 1]? = some σ') (hy : Loud P σ (pickT T ks) o p σ') (hd : o.dst = none) : GK P N ops σs T o ⟨p, some r, lo, hi⟩
inductive GL (P : Program) (N : Nat) (ops : Array Oper) (σs : List Sto) (T : Tms) : List Oper → List GD → Prop
  | nil : GL P N ops σs T [] []
  | cons {o : Oper} {g : GD} {l : List Oper} {gs : List GD} : GK P N ops σs T o g → GL P N ops σs T l gs → GL P N ops σs T (o :: l) (g :: gs)
theorem GL.get {ops : Array Oper} {σs : List Sto} {T : Tms} : ∀ {l : List Oper} {gs : List GD}, GL P N ops σs T l gs → gs.length = l.length ∧ ∀ (i : Nat) o g, l[i]? = some o → gs[i]? = some g → GK P N ops σs T o g
  | _, _, .nil => ⟨rfl, fun i o g h => by simp at h⟩
  | _, _, .cons h hs => by
    obtain ⟨h1, h2⟩ := hs.get
    refine ⟨by simp [h1], fun i o g ho hg => ?_⟩
    cases i with
    | zero => simp at ho hg; subst ho; subst hg; exact h
    | succ i => exact h2 i o g (by simpa using ho) (by simpa using hg)
def rkOf (gs : List GD) (i : Nat) : Option Nat := (gs[i]?).bind (·.r)
/-- The form of such a region; m: how many operations change the store. -/
def grdB (ops : Array Oper) (f m : Nat) (gs : List GD) : Bool :=
  Nat.beq gs.length ops.size &&
  ((List.range ops.size).all fun i => (aft ops i).all fun k => decide (k < i)) &&
  ((List.range ops.size).all fun i => (List.range i).all fun j => (dstOf ops i).isNone || dstOf ops i != dstOf ops j) &&
  ((List.range ops.size).all fun j => (looksOf ops j).all fun k => (List.range ops.size).all fun i => dstOf ops i != some k || reachB ops f j i) &&
  ((List.range ops.size).all fun i => match gs[i]? with
    | some ⟨_, some r, _, _⟩ => decide (r < m) && (Nat.beq r 0 || (List.range ops.size).any fun j => rkOf gs j == some (r - 1) && reachB ops f i j)
    | some ⟨_, none, lo, hi⟩ => (Nat.beq lo 0 || (List.range ops.size).any fun j => rkOf gs j == some (lo - 1) && reachB ops f i j) && (Nat.ble m hi || (List.range ops.size).any fun j => rkOf gs j == some hi && reachB ops f j i)
    | none => false) &&
  ((List.range ops.size).all fun i => (List.range i).all fun j => (rkOf gs i).isNone || rkOf gs i != rkOf gs j) &&
  ((List.range m).all fun r => (List.range ops.size).any fun j => rkOf gs j == some r)
structure Grd (ops : Array Oper) (f m : Nat) (gs : List GD) : Prop where
  len : gs.length = ops.size
  aft : ∀ i, i < ops.size → ∀ k ∈ aft ops i, k < i
  ss : ∀ i j d, i < ops.size → j < ops.size → dstOf ops i = some d → dstOf ops j = some d → i = j
  rd : ∀ j, j < ops.size → ∀ k ∈ looksOf ops j, ∀ i, i < ops.size → dstOf ops i = some k → reachB ops f j i = true
  loud : ∀ (i : Nat) g r, gs[i]? = some g → g.r = some r → r < m ∧ (r = 0 ∨ ∃ j, j < ops.size ∧ rkOf gs j = some (r - 1) ∧ reachB ops f i j = true)
  quiet : ∀ (i : Nat) g, gs[i]? = some g → g.r = none → (g.lo = 0 ∨ ∃ j, j < ops.size ∧ rkOf gs j = some (g.lo - 1) ∧ reachB ops f i j = true) ∧ (m ≤ g.hi ∨ ∃ j, j < ops.size ∧ rkOf gs j = some g.hi ∧ reachB ops f j i = true)
  one : ∀ i j r, i < ops.size → j < ops.size → rkOf gs i = some r → rkOf gs j = some r → i = j
  has : ∀ r, r < m → ∃ j, j < ops.size ∧ rkOf gs j = some r
theorem grdB_grd {ops : Array Oper} {f m : Nat} {gs : List GD} (h : grdB ops f m gs = true) : Grd ops f m gs := by
  unfold grdB at h
  simp only [Bool.and_eq_true] at h
  obtain ⟨⟨⟨⟨⟨⟨h1, h2⟩, h3⟩, h4⟩, h5⟩, h6⟩, h7⟩ := h
  have hl : gs.length = ops.size := Nat.eq_of_beq_eq_true h1
  have all : ∀ {n : Nat} {p : Nat → Bool}, (List.range n).all p = true → ∀ i, i < n → p i = true := fun h i hi => List.all_eq_true.1 h i (List.mem_range.2 hi)
  have any : ∀ {n : Nat} {p : Nat → Bool}, (List.range n).any p = true → ∃ i, i < n ∧ p i = true := fun h => by
    obtain ⟨i, hi, hp⟩ := List.any_eq_true.1 h
    exact ⟨i, List.mem_range.1 hi, hp⟩
  have s3 : ∀ i j d, i < ops.size → j < i → dstOf ops i = some d → dstOf ops j = some d → False := fun i j d hi hj e1 e2 => by
    have := all (all h3 i hi) j hj
    rw [e1, e2] at this
    simp at this
  have s6 : ∀ i j r, i < ops.size → j < i → rkOf gs i = some r → rkOf gs j = some r → False := fun i j r hi hj e1 e2 => by
    have := all (all h6 i hi) j hj
    rw [e1, e2] at this
    simp at this
  refine ⟨hl, fun i hi k hk => ?_, fun i j d hi hj e1 e2 => ?_, fun j hj k hk i hi hd => ?_, fun i g r hg hr => ?_, fun i g hg hr => ?_, fun i j r hi hj e1 e2 => ?_, fun r hr => ?_⟩
  · have := List.all_eq_true.1 (all h2 i hi) k hk; simpa using this
  · rcases Nat.lt_trichotomy i j with h | h | h
    · exact (s3 j i d hj h e2 e1).elim
    · exact h
    · exact (s3 i j d hi h e1 e2).elim
  · have := all (List.all_eq_true.1 (all h4 j hj) k hk) i hi
    rw [hd] at this
    simpa using this
  · have hi : i < ops.size := by rw [← hl]; exact (List.getElem?_eq_some_iff.1 hg).1
    have := all h5 i hi
    obtain ⟨p, r', lo, hi'⟩ := g
    simp only at hr
    subst hr
    rw [hg] at this
    simp only [Bool.and_eq_true, decide_eq_true_eq, Bool.or_eq_true] at this
    refine ⟨this.1, ?_⟩
    rcases this.2 with h | h
    · exact .inl (Nat.eq_of_beq_eq_true h)
    · obtain ⟨j, hj, h'⟩ := any h
      simp only [Bool.and_eq_true, beq_iff_eq] at h'
      exact .inr ⟨j, hj, h'.1, h'.2⟩
  · have hi : i < ops.size := by rw [← hl]; exact (List.getElem?_eq_some_iff.1 hg).1
    have := all h5 i hi
    obtain ⟨p, r', lo, hi'⟩ := g
    simp only at hr
    subst hr
    rw [hg] at this
    simp only [Bool.and_eq_true, Bool.or_eq_true] at this
    refine ⟨?_, ?_⟩
    · rcases this.1 with h | h
      · exact .inl (Nat.eq_of_beq_eq_true h)
      · obtain ⟨j, hj, h'⟩ := any h
        simp only [Bool.and_eq_true, beq_iff_eq] at h'
        exact .inr ⟨j, hj, h'.1, h'.2⟩
    · rcases this.2 with h | h
      · exact .inl (Nat.ble_eq.mp h)
      · obtain ⟨j, hj, h'⟩ := any h
        simp only [Bool.and_eq_true, beq_iff_eq] at h'
        exact .inr ⟨j, hj, h'.1, h'.2⟩
  · rcases Nat.lt_trichotomy i j with h | h | h
    · exact (s6 j i r hj h e2 e1).elim
    · exact h
    · exact (s6 i j r hi h e1 e2).elim
  · obtain ⟨j, hj, h⟩ := any (all h7 r hr)
    exact ⟨j, hj, by simpa using h⟩
/-- On the way through such a region. -/
structure Grg (base N : Nat) (F : Nat → Prop) (l : List Oper) (gs : List GD) (σs : List Sto) (t : Tms) (ls : Array Bool) (r : Nat) (E : Env) (a : Act) (w : World) : Prop where
  size : ls.size = l.length
  down : Down l.toArray ls
  rk : ∀ i s, i < l.length → rkOf gs i = some s → (ls.getD i true = true ↔ s < r)
  sat : ∃ σ, σs[r]? = some σ ∧ Sat F base σ E w
  dfr : a.defers = []
  tmps : a.tmps.size = N
  t0 : RepT E w a.eval t
  got : ∀ j d g, j < l.length → ls.getD j true = true → dstOf l.toArray j = some d → gs[j]? = some g → Rep E w (a.eval (.tmp d)) g.p
theorem ls_get (ls : Array Bool) (i j : Nat) (b : Bool) (hi : i < ls.size) : (ls.setIfInBounds i true).getD j b = if j = i then true else ls.getD j b := by
  by_cases e : j = i
  · subst e; simp [hi]
  · rw [if_neg e]
    simp only [Array.getD_eq_getD_getElem?, Array.getElem?_setIfInBounds_ne (Ne.symm e)]
theorem ls_irr {ls : Array Bool} {i : Nat} (hi : i < ls.size) (b c : Bool) : ls.getD i b = ls.getD i c := by simp [hi]
section
variable {l : List Oper} {gs : List GD} {σs : List Sto} {t T : Tms} {f m base : Nat} {F : Nat → Prop}
theorem Grg.reach (hG : Grd l.toArray f m gs) {ls : Array Bool} {r : Nat} {E : Env} {a : Act} {w : World} (h : Grg base N F l gs σs t ls r E a w) {i j : Nat} (hi : i < l.length) (hr : reachB l.toArray f i j = true) (hk : ∀ k ∈ aft l.toArray i, ls.getD k false = true) : ls.getD j true = true := by
  have := reach_listed (by rw [h.size]; simp) h.down (fun i hi => hG.aft i hi) f i j (by simpa using hi) hr hk
  by_cases hj : j < ls.size
  · rw [ls_irr hj true false]; exact this
  · simp [hj]
theorem Grg.looks (hG : Grd l.toArray f m gs) (hT : addT l (gs.map (·.p)) t = T) {ls : Array Bool} {r : Nat} {E : Env} {a : Act} {w : World} (h : Grg base N F l gs σs t ls r E a w) {i : Nat} (hi : i < l.length) (hk : ∀ k ∈ aft l.toArray i, ls.getD k false = true) :
    ∀ k ∈ looksOf l.toArray i, ∀ p, look k T = some p → Rep E w (a.eval (.tmp k)) p := fun k hks p hp => by
  rw [← hT] at hp
  rcases look_add _ _ _ k p hp with ⟨j, o, h1, h2, h3⟩ | h'
  · rw [List.getElem?_map, Option.map_eq_some_iff] at h3
    obtain ⟨g, hg, rfl⟩ := h3
    have hj : j < l.length := (List.getElem?_eq_some_iff.1 h1).1
    have hd : dstOf l.toArray j = some k := by simp only [dstOf, List.getElem?_toArray, h1, Option.bind_some, h2]
    have hr := hG.rd i (by simpa using hi) k hks j (by simpa using hj) hd
    exact h.got j k g hj (h.reach hG hi hr hk) hd hg
  · exact h.t0 k p h'
/-- One operation more. -/
theorem Grg.put (hG : Grd l.toArray f m gs) (hfr : ∀ i d, i < l.length → dstOf l.toArray i = some d → look d t = none) {ls : Array Bool} {r r' : Nat} {E E' : Env} {a : Act} {w w' : World} (h : Grg base N F l gs σs t ls r E a w) {i : Nat} {g : GD} {v : Value} (hi : i < l.length) (hu : ls.getD i true = false) (hk : ∀ k ∈ aft l.toArray i, ls.getD k false = true) (hg : gs[i]? = some g) (hgo : Goes E w E' w')
    (hs : ∃ σ, σs[r']? = some σ ∧ Sat F base σ E' w') (hr : (g.r = none ∧ r' = r) ∨ (g.r = some r ∧ r' = r + 1)) {o : Oper} (ho : l[i]? = some o) (hdN : ∀ d, o.dst = some d → d < N) (hv : ∀ d, o.dst = some d → Rep E' w' v g.p) :
    Grg base N F l gs σs t (ls.setIfInBounds i true) r' E' (a.put o.dst v) w' := by
  have hil : i < ls.size := by rw [h.size]; exact hi
  have hrk : rkOf gs i = g.r := by simp only [rkOf, hg, Option.bind_some]
  have hdi : dstOf l.toArray i = o.dst := by simp only [dstOf, List.getElem?_toArray, ho, Option.bind_some]
  refine ⟨by simpa using h.size, fun j hj hjs k hkj => ?_, fun j s hj hs' => ?_, hs, by cases o.dst <;> simpa [Act.put] using h.dfr, by cases o.dst <;> simpa [Act.put] using h.tmps, fun k p hkp => ?_, fun j d g' hj hjl hd hg' => ?_⟩
  · rw [ls_get _ _ _ _ hil] at hj ⊢
    split
    · rfl
    · by_cases e : j = i
      · subst e; exact hk k hkj
      · rw [if_neg e] at hj
        exact h.down j hj hjs k hkj
  · rw [ls_get _ _ _ _ hil]
    by_cases e : j = i
    · subst e
      rw [if_pos rfl]
      rw [hrk] at hs'
      rcases hr with ⟨h1, _⟩ | ⟨h1, h2⟩
      · rw [h1] at hs'; cases hs'
      · rw [h1] at hs'; cases hs'; exact ⟨fun _ => by omega, fun _ => rfl⟩
    · rw [if_neg e, h.rk j s hj hs']
      rcases hr with ⟨_, h2⟩ | ⟨h1, h2⟩
      · rw [h2]
      · have : s ≠ r := fun e' => e (hG.one j i r (by simpa using hj) (by simpa using hi) (by rw [hs', e']) (by rw [hrk, h1]))
        omega
  · have hne : ∀ d, o.dst = some d → k ≠ d := fun d hd e => by
      subst e
      rw [hfr i k hi (by rw [hdi, hd])] at hkp; cases hkp
    have : (a.put o.dst v).eval (.tmp k) = a.eval (.tmp k) := Act.eval_put fun d hd heq => by cases heq; exact hne _ hd rfl
    rw [this]
    exact (h.t0 k p hkp).goes hgo
  · rw [ls_get _ _ _ _ hil] at hjl
    by_cases e : j = i
    · subst e
      rw [hdi] at hd
      rw [hg] at hg'; cases hg'
      rw [hd, put_eval a (by rw [h.tmps]; exact hdN d hd), if_pos rfl]
      exact hv d hd
    · rw [if_neg e] at hjl
      have hne : ∀ d', o.dst = some d' → d ≠ d' := fun d' hd' e' => by
        subst e'
        exact e (hG.ss j i d (by simpa using hj) (by simpa using hi) hd (by rw [hdi, hd']))
      have : (a.put o.dst v).eval (.tmp d) = a.eval (.tmp d) := Act.eval_put fun d' hd' heq => by cases heq; exact hne _ hd' rfl
      rw [this]
      exact (h.got j d g' hj hjl hd hg').goes hgo
theorem grd_any (hG : Grd l.toArray f m gs) (hT : addT l (gs.map (·.p)) t = T) (hfr : ∀ i d, i < l.length → dstOf l.toArray i = some d → look d t = none) (hL : GL P N l.toArray σs T l gs) {σm : Sto} (hm : σs[m]? = some σm) {Q : Exit → Act → World → Prop} {E₀ : Env} {w₀ : World} (hq : ∀ a' w' E', Sat F base σm E' w' → RepT E' w' a'.eval T → a'.defers = [] → a'.tmps.size = N → Goes E₀ w₀ E' w' → Below base w₀ w' → Q .normal a' w') :
    ∀ (fuel : Nat) (ls : Array Bool) (r : Nat) (E : Env) (a : Act) (w : World), Grg base N F l gs σs t ls r E a w → unlisted ls l.length = fuel → Goes E₀ w₀ E w → Below base w₀ w → r ≤ m → wpAny P .any l.toArray Q fuel ls a w := by
  obtain ⟨hgl, hget⟩ := hL.get
  intro fuel
  induction fuel with
  | zero =>
    intro ls r E a w h hu hgo hb hrm
    have hall := unlisted_zero hu
    have hrm' : r = m := by
      rcases Nat.lt_or_ge r m with h' | h'
      · obtain ⟨j, hj, hjr⟩ := hG.has r h'
        have hj : j < l.length := by simpa using hj
        have := (h.rk j r hj hjr).1 (hall j hj)
        omega
      · omega
    subst hrm'
    refine ⟨List.eq_nil_iff_forall_not_mem.2 fun i hi => ?_, ?_⟩
    · obtain ⟨h1, h2, _⟩ := ready_iff.1 hi
      rw [hall i (by simpa using h1)] at h2; cases h2
    · obtain ⟨σ, hσ, hs⟩ := h.sat
      rw [hm] at hσ; cases hσ
      refine hq a w E hs (fun k p hkp => ?_) h.dfr h.tmps hgo hb
      rw [← hT] at hkp
      rcases look_add _ _ _ k p hkp with ⟨j, o, h1, h2, h3⟩ | h'
      · rw [List.getElem?_map, Option.map_eq_some_iff] at h3
        obtain ⟨g, hg, rfl⟩ := h3
        have hj : j < l.length := (List.getElem?_eq_some_iff.1 h1).1
        exact h.got j k g hj (hall j hj) (by simp only [dstOf, List.getElem?_toArray, h1, Option.bind_some, h2]) hg
      · exact h.t0 k p h'
  | succ fuel ih =>
    intro ls r E a w h hu hgo hb hrm
    obtain ⟨i0, hi0, hi1, hi2⟩ := unlisted_pos (ls := ls) (m := l.length) (by omega)
    have hi0r : i0 ∈ Region.ready .any l.toArray ls := ready_iff.2 ⟨by simpa using hi0, hi1, fun k hk => by
      have := hG.aft i0 (by simpa using hi0) k hk
      rw [ls_irr (by rw [h.size]; omega) false true]; exact hi2 k this⟩
    refine ⟨fun h0 => absurd hi0r (by rw [h0]; simp), fun i hi => ?_⟩
    obtain ⟨h1, h2, h3⟩ := ready_iff.1 hi
    have hil : i < l.length := by simpa using h1
    have ho : l[i]? = some l[i] := by simp [hil]
    have hgi : gs[i]? = some (gs[i]'(by omega)) := by simp
    have hK := hget i _ _ ho hgi
    generalize hgg : gs[i]'(by omega) = g at hgi hK
    generalize hoo : l[i] = o at ho hK
    have hlk := h.looks hG hT hil h3
    have hlo : looksOf l.toArray i = o.looksAt l.toArray := by simp only [looksOf, List.getElem?_toArray, ho]
    rw [hlo] at hlk
    have hpk : ∀ ks : List Nat, (ks.all fun k => (o.looksAt l.toArray).contains k) = true → RepT E w a.eval (pickT T ks) := fun ks hks k p hkp => by
      obtain ⟨e1, e2⟩ := look_pick ks k p hkp
      exact hlk k (by have := List.all_eq_true.1 hks k e1; simpa using this) p e2
    have hwant : ∀ b, wantB l.toArray T o = some b → Region.wanted o (yielded l.toArray a.tmps) = b := fun b hb => by
      rw [wantedR_eval]; exact wantB_looks (fun k hk p hp => hlk k hk p hp) hb
    have hun : unlisted (ls.setIfInBounds i true) l.length = fuel := by have := unlisted_set h2 hil (by rw [h.size]; omega); omega
    unfold wpOp
    have ho' : l.toArray[i]? = some o := by simpa using ho
    simp only [ho']
    have hrk : rkOf gs i = g.r := by simp only [rkOf, hgi, Option.bind_some]
    cases hK with
    | @val p d lo hi ks hks hw hy hd hN =>
      rw [hwant true hw, if_pos rfl]
      left
      obtain ⟨σ, hσ, hs⟩ := h.sat
      obtain ⟨q1, q2⟩ := hG.quiet i _ hgi rfl
      have hlo' : lo ≤ r := by
        rcases q1 with e | ⟨j, hj, hj1, hj2⟩
        · simp only at e; omega
        · have := (h.rk j _ (by simpa using hj) hj1).1 (h.reach hG hil hj2 h3)
          simp only at this; omega
      have hhi' : r ≤ hi := by
        rcases q2 with e | ⟨j, hj, hj1, hj2⟩
        · simp only at e; omega
        · rcases Nat.lt_or_ge hi r with h' | h'
          · have hjl : j < l.length := by simpa using hj
            have e1 := (h.rk j _ hjl hj1).2 h'
            have e2 := h.reach hG hjl hj2 (h.down j e1 hj)
            rw [h2] at e2; cases e2
          · exact h'
      refine upon_of (hy r σ hlo' hhi' hσ F base E a.eval w (isEval a) hs (hpk ks hks)) fun v w' hE hv => ?_
      exact ih _ r E _ w' (h.put hG hfr hil h2 h3 hgi (.ext hE) ⟨σ, hσ, hs.ext hE⟩ (.inl ⟨rfl, rfl⟩) ho (fun d' hd' => by rw [hd] at hd'; cases hd'; exact Nat.blt_eq.mp hN) (fun _ _ => hv)) hun (hgo.trans (.ext hE)) (hb.trans (Below.ofExt hE hs.bl)) hrm
    | @skip d lo hi hw hd hN =>
      rw [hwant false hw, if_neg (by simp)]
      exact ih _ r E _ w (h.put hG hfr hil h2 h3 hgi (Goes.refl _ _) h.sat (.inl ⟨rfl, rfl⟩) ho (fun d' hd' => by rw [hd] at hd'; cases hd'; exact Nat.blt_eq.mp hN) (fun _ _ => .raw _)) hun hgo hb hrm
    | @loud p d r0 lo hi σ σ' ks hks hw e1 e2 hy hd hN =>
      rw [hwant true hw, if_pos rfl]
      left
      obtain ⟨q1, q2⟩ := hG.loud i _ r0 hgi rfl
      have hr0 : r0 = r := by
        have n1 : ¬ r0 < r := fun h' => by
          have := (h.rk i r0 hil hrk).2 h'
          rw [h2] at this; cases this
        rcases q2 with e | ⟨j, hj, hj1, hj2⟩
        · omega
        · have := (h.rk j _ (by simpa using hj) hj1).1 (h.reach hG hil hj2 h3)
          omega
      subst hr0
      obtain ⟨σ0, hσ, hs⟩ := h.sat
      rw [e1] at hσ; cases hσ
      obtain ⟨v, w', E', hr, k1, k2, k3, k4⟩ := hy F base E a.eval w (isEval a) hs (hpk ks hks)
      have hn' := ih _ (r0 + 1) E' (a.put o.dst v) w' (h.put hG hfr hil h2 h3 hgi k2 ⟨σ', e2, k1⟩ (.inr ⟨rfl, rfl⟩) ho (fun d' hd' => by rw [hd] at hd'; cases hd'; exact Nat.blt_eq.mp hN) (fun _ _ => k4)) hun (hgo.trans k2) (hb.trans k3) (by omega)
      unfold Oper.wp
      rcases hr with hr | ⟨rfl, hr⟩
      · rw [hr]; exact hn'
      · rw [hr]; exact hn'
    | @loud0 p r0 lo hi σ σ' ks hks hw e1 e2 hy hd =>
      rw [hwant true hw, if_pos rfl]
      left
      obtain ⟨q1, q2⟩ := hG.loud i _ r0 hgi rfl
      have hr0 : r0 = r := by
        have n1 : ¬ r0 < r := fun h' => by
          have := (h.rk i r0 hil hrk).2 h'
          rw [h2] at this; cases this
        rcases q2 with e | ⟨j, hj, hj1, hj2⟩
        · omega
        · have := (h.rk j _ (by simpa using hj) hj1).1 (h.reach hG hil hj2 h3)
          omega
      subst hr0
      obtain ⟨σ0, hσ, hs⟩ := h.sat
      rw [e1] at hσ; cases hσ
      obtain ⟨v, w', E', hr, k1, k2, k3, k4⟩ := hy F base E a.eval w (isEval a) hs (hpk ks hks)
      have hn' := ih _ (r0 + 1) E' (a.put o.dst v) w' (h.put hG hfr hil h2 h3 hgi k2 ⟨σ', e2, k1⟩ (.inr ⟨rfl, rfl⟩) ho (fun d' hd' => by rw [hd] at hd'; cases hd') (fun d' hd' => by rw [hd] at hd'; cases hd')) hun (hgo.trans k2) (hb.trans k3) (by omega)
      unfold Oper.wp
      rcases hr with hr | ⟨rfl, hr⟩
      · rw [hr]; exact hn'
      · rw [hr]; exact hn'
end
theorem unlisted_all : ∀ (n k : Nat), k ≤ n → unlisted (Array.replicate n false) k = k
  | n, 0, _ => rfl
  | n, k + 1, h => by
    simp only [unlisted]
    rw [unlisted_all n k (by omega)]
    simp [show k < n by omega]
theorem W_grd {id : Nat} {l : List Oper} {t t' : Tms} {σ σm : Sto} {Q : Exit → St → Prop} (f m : Nat) (σs : List Sto) (gs : List GD) (T : Tms) (hm : P.follows .mixedOrders = true) (hB : grdB l.toArray f m gs = true) (hT : addT l (gs.map (·.p)) t = T) (hfr : (l.all fun o => o.dst.all fun d => (look d t).isNone) = true) (h0 : σs[0]? = some σ) (h1 : σs[m]? = some σm)
    (hL : GL P N l.toArray σs T l gs) (hsub : Sub T t') (hq : Q .normal ⟨t', σm⟩) : W P N L (.region id l.toArray true) ⟨t, σ⟩ Q := fun F base E₀ w₀ E a w hc hs => by
  have hG := grdB_grd hB
  have hE : Ext w { w with drawn := w.drawn + 1 } := ⟨rfl, rfl, rfl, Nat.le_refl _, fun _ _ => rfl⟩
  refine wp_region_any hm ?_
  have hfr' : ∀ i d, i < l.length → dstOf l.toArray i = some d → look d t = none := fun i d hi hd => by
    have ho : l[i]? = some l[i] := by simp [hi]
    simp only [dstOf, List.getElem?_toArray, ho, Option.bind_some] at hd
    have := List.all_eq_true.1 hfr _ (List.mem_of_getElem? ho)
    rw [hd] at this
    simpa using this
  have hg0 : Grg base N F l gs σs t (Array.replicate l.length false) 0 E a { w with drawn := w.drawn + 1 } := by
    have hrep : ∀ i, i < l.length → (Array.replicate l.length false).getD i true = false := fun i hi => by simp [hi]
    refine ⟨by simp, fun i hi hi' => ?_, fun i s hi _ => ?_, ⟨σ, h0, hs.sat.ext hE⟩, hs.dfr, hs.size, hs.tmp.goes (.ext hE), fun j d g hj hjl => ?_⟩
    · rw [hrep i (by simpa using hi')] at hi; cases hi
    · rw [hrep i hi]; simp
    · rw [hrep j hj] at hjl; cases hjl
  have := grd_any (Q := fun e a' w' => Post F base N E₀ w₀ (Q e) a' w') hG hT hfr' hL h1 (E₀ := E₀) (w₀ := w₀) (fun a' w' E' k1 k2 k3 k4 k5 k6 => ⟨⟨t', σm⟩, E', hq, ⟨k1, k2.sub hsub, k3, k4⟩, k5, k6⟩) l.length _ 0 E a _ hg0 (unlisted_all _ _ (Nat.le_refl _)) (hc.g.trans (.ext hE)) (hc.b.trans (Below.ofExt hE hs.sat.bl)) (Nat.zero_le _)
  simpa using this
/-- Proofs for each store between two. -/
theorem yz {P : Program} {σs : List Sto} {t : Tms} {o : Oper} {p : PV} {lo hi : Nat} (h : ∀ σ ∈ (σs.drop lo).take (hi + 1 - lo), Yield P σ t o p) : ∀ r σ, lo ≤ r → r ≤ hi → σs[r]? = some σ → Yield P σ t o p := fun r σ h1 h2 hs => by
  refine h σ (List.mem_of_getElem? (i := r - lo) ?_)
  rw [List.getElem?_take, if_pos (by omega), List.getElem?_drop, show lo + (r - lo) = r by omega]
  exact hs
theorem ya0 {α : Type} {p : α → Prop} : ∀ x ∈ ([] : List α), p x := fun _ h => by cases h
theorem ya1 {α : Type} {p : α → Prop} {a : α} {l : List α} (h : p a) (hs : ∀ x ∈ l, p x) : ∀ x ∈ a :: l, p x := fun x hx => by
  rcases List.mem_cons.1 hx with rfl | h'
  · exact h
  · exact hs x h'
end
end PW
end Go.Proofs.YtbpgndbjbaoolaaGreat

/- The reference of layer 29: Component, entry, Table. -/
namespace Go.Proofs.YtbpgndbjbaoolaaGreat
set_option linter.unusedVariables false
set_option linter.unusedSimpArgs false
namespace PW
open Go.RowKit Reg Mem Net Rng

theorem W_midM {P : Program} {N L : Nat} {x : Code} {st : St} {Q : Exit → St → Prop} {Q1 : St → Prop} (h : W P N L x st (onlyQ Q1)) (k : ∀ s, Q1 s → Q .normal s) : W P N L x st Q :=
  h.mono fun e s hq => by cases e <;> first | exact k s hq | exact hq.elim
theorem nextL_len {T : Topo} (hv : validB T = true) (D : List Bool) (n d : Nat) : (nextL T D n d).length ≤ 512 := by
  have hl := links_le hv
  unfold nextL
  split
  · simp
  · exact Nat.le_trans (List.length_filter_le _ _) (Nat.le_trans (outTo_len T n _) (by omega))
/-- The mask of a component, none where it is not valid. -/
def maskX (T : Topo) (k x : Int) : List Bool := if maskE T k x = 0 then maskL T k x else []
theorem maskX_ok {T : Topo} {k x : Int} (h : (validB T && compB T k x) = true) : maskX T k x = maskL T k x := by
  unfold maskX maskE
  rw [if_pos h, if_pos rfl]
theorem asm_grp {T : Topo} (hv : validB T = true) {a : Nat} (ha : a < 2 * T.links.length) (h : 0 < grpN T a) : (validB T && compB T 3 (grpN T a)) = true := by
  have := grp_range hv ha
  rw [hv]
  unfold compB
  simp only [if_neg (show ¬ (3 : Int) = 1 by decide), if_neg (show ¬ (3 : Int) = 2 by decide), if_true, Bool.true_and, Bool.and_eq_true, decide_eq_true_eq]
  exact ⟨by omega, by omega⟩
theorem asm_node {T : Topo} (hv : validB T = true) {a : Nat} (ha : a < 2 * T.links.length) : (validB T && compB T 2 (headN T a)) = true := by
  obtain ⟨h0, h1⟩ := (sound_of hv).head a ha
  rw [hv]
  unfold compB
  simp only [if_neg (show ¬ (2 : Int) = 1 by decide), if_true, Bool.true_and]
  exact nodeB_iff.2 ⟨h0, h1⟩
def orTo (T : Topo) (D E : List Bool) (k : Nat) : List Bool := (List.range (2 * T.links.length)).map fun a => if a < k then downN D a || downN E a else downN D a
theorem orTo_len (T : Topo) (D E : List Bool) (k : Nat) : (orTo T D E k).length = 2 * T.links.length := by simp [orTo]
theorem orTo_get {T : Topo} {D E : List Bool} {k i : Nat} (h : i < (orTo T D E k).length) : (orTo T D E k)[i] = if i < k then downN D i || downN E i else downN D i := by simp [orTo]
theorem downN_getE {M : List Bool} {a : Nat} (h : a < M.length) : downN M a = M[a] := by rw [← downN_get]; simp [h]
theorem orTo_zero {T : Topo} {D E : List Bool} (h : D.length = 2 * T.links.length) : orTo T D E 0 = D := by
  apply List.ext_getElem (by rw [orTo_len, h])
  intro i h1 h2
  rw [orTo_get, if_neg (by omega), downN_getE h2]
theorem orTo_all (T : Topo) (D E : List Bool) : orTo T D E (2 * T.links.length) = orM T D E := by
  unfold orTo orM
  exact List.map_congr_left fun a ha => if_pos (List.mem_range.1 ha)
theorem orTo_step (T : Topo) (D E : List Bool) (k : Nat) : (orTo T D E k).set k (downN D k || downN E k) = orTo T D E (k + 1) := by
  apply List.ext_getElem (by simp [orTo])
  intro i h1 h2
  rw [List.getElem_set, orTo_get, orTo_get]
  by_cases e : k = i
  · subst e; rw [if_pos rfl, if_pos (by omega)]
  · rw [if_neg e]
    by_cases h : i < k
    · rw [if_pos h, if_pos (by omega)]
    · rw [if_neg h, if_neg (by omega)]
theorem orTo_at {T : Topo} {D E : List Bool} {k : Nat} (h : k < 2 * T.links.length) : (orTo T D E k).getD k false = downN D k := by
  have hk : k < (orTo T D E k).length := by rw [orTo_len]; exact h
  rw [List.getD_eq_getElem?_getD, List.getElem?_eq_getElem hk, Option.getD_some, orTo_get, if_neg (by omega)]
end PW
end Go.Proofs.YtbpgndbjbaoolaaGreat

/- Package spf: From. -/
namespace Go.Proofs.YtbpgndbjbaoolaaGreat
set_option linter.unusedVariables false
set_option linter.unusedSimpArgs false
namespace PW
open Go.RowKit Reg Mem Net

set_option maxRecDepth 10000 in
set_option maxHeartbeats 1000000 in
theorem from1_can (rs : List (List Int)) (i : Nat) (hi : i < rs.length) : Can Tryz.prog 125 ([num i] ++ [.pin [rowsV rs] 0]) (· = intsV (rs.getD i [])) := by
  refine can_of Tryz.func125 rfl Tryz.ntmps125 rfl ?_
  refine W_cs (.a 1 rfl <| .k [0, 1] rfl) ?_
  refine W_cs (.a 2 rfl <| .v (y_ix (i) rfl) rfl <| .v (y_ld rfl ((show (rs.map intsV)[i]? = some (intsV (rs.getD i [])) by simp [hi]))) rfl <| .a 1 rfl <| .k [3] rfl) ?_
  refine W_ret ?_
  exact ⟨_, _, ResL.of rfl, Pur.pure, rfl⟩
set_option maxRecDepth 10000 in
set_option maxHeartbeats 1000000 in
theorem from2_can (T : Topo) (a : Nat) (ha : a < 2 * T.links.length) (hl : T.links.length ≤ 4611686018427387902) : Can Tryz.prog 126 ([num a] ++ [.pin (topoP T) 0]) (· = num (headN T a)) := by
  refine can_of Tryz.func126 rfl Tryz.ntmps126 rfl ?_
  refine W_cs (.a 1 rfl <| .k [0, 1] rfl) ?_
  refine W_cs (.a 2 rfl <| .c rfl (head_can T a ha hl) rfl <| .a 1 rfl <| .k [3] rfl) ?_
  refine W_ret ?_
  exact ⟨_, _, ResL.of rfl, Pur.pure, rfl⟩

set_option maxRecDepth 10000 in
set_option maxHeartbeats 1000000 in
theorem from_can (T : Topo) (D : List Bool) (d : Int) : Can Tryz.prog 88 [topoV T, boolsV D, num d] (· = intsE (chkE T D [d]) (distL T D d.toNat true)) := by
  refine can_of Tryz.func88 rfl Tryz.ntmps88 rfl ?_
  refine W_cs (.a 3 rfl <| .k [1, 2, 3] rfl) ?_
  refine W_seq ?_
  refine W_cs (.a 4 rfl <| .c rfl (check_can T D [d] (by simp)) rfl <| .a 1 rfl <| .k [1, 2, 3, 8] rfl) ?_
  refine W_cs (.a 2 rfl <| .k [1, 2, 3, 8, 17] rfl) ?_
  refine W_cond rfl (fun hc => ?_) (fun hc => ?_)
  · have he : chkE T D [d] ≠ 0 := of_decide_eq_true hc
    refine W_cs (.a 3 rfl <| .k [6, 7] rfl) ?_
    refine W_ret ?_
    exact ⟨_, _, ResL.of rfl, Pur.tupleL (PurL.cons Pur.nils (PurL.cons Pur.pure PurL.nil)), by unfold intsE; rw [if_neg he]; rfl⟩
  · have he : chkE T D [d] = 0 := by have := of_decide_eq_false hc; omega
    have hok : (validB T && fitsB T D) = true ∧ nodeB T d = true := by
      unfold chkE at he
      split at he
      · rename_i h1
        split at he
        · rename_i h2; exact ⟨h1, by simpa using h2⟩
        · omega
      · omega
    obtain ⟨hvf, hnd⟩ := hok
    obtain ⟨hv, hf⟩ := Bool.and_eq_true_iff.1 hvf
    have hd : 0 ≤ d ∧ d < T.nodes := by simpa [nodeB] using hnd
    obtain ⟨n, rfl⟩ := Int.eq_ofNat_of_zero_le hd.1
    have hS := sound_of hv
    refine W_skip ?_
    refine W_rs ?_
    refine WR_a 1 rfl <| WR_c rfl (leaving_can T hv) rfl <| WR_a 2 rfl <| WR_k [1, 2, 3, 9] rfl ?_
    refine W_rs ?_
    refine WR_a 3 rfl <| WR_v (y_makeFunc rfl rfl) rfl <| WR_a 4 rfl <| WR_k [10] rfl ?_
    refine W_freeze (.cons 10 rfl (Pur.ptrL rfl (PurL.cons Pur.pure <| PurL.cons Pur.pure <| PurL.cons Pur.pure <| PurL.cons Pur.pure <| PurL.cons Pur.pure <| PurL.cons (Pur.funcL (PurL.cons (Pur.ptrL rfl (PurL.cons Pur.pure PurL.nil)) PurL.nil)) <| PurL.cons Pur.pure PurL.nil)) .nil) ?_
    refine W_cs (.a 1 rfl <| .c rfl (run_can T D n true 125 126 [.pin [rowsV (rowsL (tailN T) T.nodes.toNat (2 * T.links.length))] 0] [.pin (topoP T) 0] hv hf hd.2 (by kernel_rfl) (by kernel_rfl) (fun i hi => by have h := from1_can (rowsL (tailN T) T.nodes.toNat (2 * T.links.length)) i (by rw [rowsL_len]; omega); rw [rowsL_get _ _ _ _ (by omega)] at h; exact h) (fun a ha => from2_can T a ha (by have := links_le hv; omega))) rfl <| .a 2 rfl <| .k [6, 7] rfl) ?_
    refine W_ret ?_
    exact ⟨_, _, ResL.of rfl, Pur.pure, by unfold intsE; rw [if_pos he, he]; rfl⟩
end PW
end Go.Proofs.YtbpgndbjbaoolaaGreat
