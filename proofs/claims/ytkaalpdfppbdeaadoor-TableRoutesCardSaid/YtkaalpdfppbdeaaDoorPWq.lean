/- Pure walks, second part: what each quiet operation leaves. No program in sight. -/
import Derived.Test.YtkaalpdfppbdeaaDoorPW
import Derived.WalkKit
import Derived.ProofKit
namespace Go.Proofs.YtkaalpdfppbdeaaDoor
namespace PW
open Go.RowKit Reg Mem

section
variable {P : Program} {σ : Sto} {t : Tms} {o : Oper}

theorem upon_val {w : World} {Φ : Know} {v : Value} (h : Φ v w) : StepUpon P w Φ (.ok (.value v) w) := ⟨Ext.refl _, h⟩

theorem y_move {x : Operand} {p : PV} (ho : o.op = .move x) (hx : evalO t x = some p) : Yield P σ t o p := by
  intro F base E ρ w hρ _ hT
  have h := evalO_rep hρ hT hx
  simp only [execOp, ho, Sem.run_pure]
  exact upon_val h
theorem y_assign {x : Operand} {p : PV} (ho : o.op = .assign x) (hx : evalO t x = some p) : Yield P σ t o p := by
  intro F base E ρ w hρ _ hT
  have h := evalO_rep hρ hT hx
  simp only [execOp, ho, Sem.run_pure]
  exact upon_val h
theorem y_pickT {c a b : Operand} {p : PV} (ho : o.op = .pick c a b) (hc : evalO t c = some (.raw (.bool true))) (hx : evalO t a = some p) : Yield P σ t o p := by
  intro F base E ρ w hρ _ hT
  have h := evalO_rep hρ hT hx
  have h1 := evalO_rep hρ hT hc
  generalize hz : ρ c = z at h1
  cases h1
  simp only [execOp, ho, hz, asBool, Sem.run_bind, Sem.run_pure, Result.andThen_ok, if_true]
  exact upon_val h
theorem y_pickF {c a b : Operand} {p : PV} (ho : o.op = .pick c a b) (hc : evalO t c = some (.raw (.bool false))) (hx : evalO t b = some p) : Yield P σ t o p := by
  intro F base E ρ w hρ _ hT
  have h := evalO_rep hρ hT hx
  have h1 := evalO_rep hρ hT hc
  generalize hz : ρ c = z at h1
  cases h1
  simp only [execOp, ho, hz, asBool, Sem.run_bind, Sem.run_pure, Result.andThen_ok]
  exact upon_val h
theorem y_not {x : Operand} {ty : TypeId} {q : Bool} (ho : o.op = .unOp .not ty x) (hx : evalO t x = some (.raw (.bool q))) : Yield P σ t o (.raw (.bool (!q))) := by
  intro F base E ρ w hρ _ hT
  have h1 := evalO_rep hρ hT hx
  generalize hz : ρ x = z at h1
  cases h1
  simp only [execOp, ho, hz, Op.unary, Sem.run_bind, Sem.run_pure, Result.andThen_ok]
  exact upon_val (.raw _)
theorem y_int {op : BinOp} {x y : Operand} {ty tz : TypeId} {k : IntKind} {a b : Int} {v : Value} (ho : o.op = .binOp op ty x y tz) (hx : evalO t x = some (.raw (.int k a))) (hy : evalO t y = some (.raw (.int k b)))
    (hv : ∀ w, (binOp op ty (.int k a) (.int k b)).run P w = .ok v w) : Yield P σ t o (.raw v) := by
  intro F base E ρ w hρ _ hT
  have h1 := evalO_rep hρ hT hx
  have h2 := evalO_rep hρ hT hy
  generalize hz : ρ x = z at h1
  generalize hz' : ρ y = z' at h2
  cases h1
  cases h2
  have hg : ∀ w, (eqGuard op ty x y (.int k a) (.int k b)).run P w = .ok () w := by
    intro w; unfold eqGuard; split <;> rfl
  simp only [execOp, ho, hz, hz', Sem.run_bind, Sem.run_pure, Result.andThen_ok, hg, hv]
  exact upon_val (.raw _)
theorem y_lss {x y : Operand} {ty tz : TypeId} {k : IntKind} {a b : Int} {q : Bool} (ho : o.op = .binOp .lss ty x y tz) (hx : evalO t x = some (.raw (.int k a))) (hy : evalO t y = some (.raw (.int k b))) (hq : decide (a < b) = q) : Yield P σ t o (.raw (.bool q)) :=
  y_int ho hx hy fun w => by simp [binOp, Op.intCmp, hq]
theorem y_leq {x y : Operand} {ty tz : TypeId} {k : IntKind} {a b : Int} {q : Bool} (ho : o.op = .binOp .leq ty x y tz) (hx : evalO t x = some (.raw (.int k a))) (hy : evalO t y = some (.raw (.int k b))) (hq : decide (a ≤ b) = q) : Yield P σ t o (.raw (.bool q)) :=
  y_int ho hx hy fun w => by simp [binOp, Op.intCmp, hq]
theorem y_gtr {x y : Operand} {ty tz : TypeId} {k : IntKind} {a b : Int} {q : Bool} (ho : o.op = .binOp .gtr ty x y tz) (hx : evalO t x = some (.raw (.int k a))) (hy : evalO t y = some (.raw (.int k b))) (hq : decide (b < a) = q) : Yield P σ t o (.raw (.bool q)) :=
  y_int ho hx hy fun w => by simp [binOp, Op.intCmp, hq]
theorem y_geq {x y : Operand} {ty tz : TypeId} {k : IntKind} {a b : Int} {q : Bool} (ho : o.op = .binOp .geq ty x y tz) (hx : evalO t x = some (.raw (.int k a))) (hy : evalO t y = some (.raw (.int k b))) (hq : decide (b ≤ a) = q) : Yield P σ t o (.raw (.bool q)) :=
  y_int ho hx hy fun w => by simp [binOp, Op.intCmp, hq]
theorem y_eql {x y : Operand} {ty tz : TypeId} {k : IntKind} {a b : Int} {q : Bool} (ho : o.op = .binOp .eql ty x y tz) (hx : evalO t x = some (.raw (.int k a))) (hy : evalO t y = some (.raw (.int k b))) (hq : decide (a = b) = q) : Yield P σ t o (.raw (.bool q)) :=
  y_int ho hx hy fun w => by subst hq; simp [binOp, Op.intCmp]; exact Bool.eq_iff_iff.2 (by simp)
theorem y_neq {x y : Operand} {ty tz : TypeId} {k : IntKind} {a b : Int} {q : Bool} (ho : o.op = .binOp .neq ty x y tz) (hx : evalO t x = some (.raw (.int k a))) (hy : evalO t y = some (.raw (.int k b))) (hq : decide (a ≠ b) = q) : Yield P σ t o (.raw (.bool q)) :=
  y_int ho hx hy fun w => by subst hq; simp [binOp, Op.intCmp]; exact Bool.eq_iff_iff.2 (by simp)
def In64 (n : Int) : Prop := -9223372036854775808 ≤ n ∧ n ≤ 9223372036854775807
theorem wrap_in {n : Int} (h : In64 n) : IntKind.i64.wrap n = n := IntWalk.i64_in n (by unfold In64 at h; omega)
theorem y_add {x y : Operand} {ty tz : TypeId} {a b c : Int} (ho : o.op = .binOp .add ty x y tz) (hx : evalO t x = some (.raw (.int .i64 a))) (hy : evalO t y = some (.raw (.int .i64 b))) (hc : a + b = c) (hn : In64 c) : Yield P σ t o (.raw (.int .i64 c)) :=
  y_int ho hx hy fun w => by simp [binOp, Op.intArith, hc, wrap_in hn]
theorem y_sub {x y : Operand} {ty tz : TypeId} {a b c : Int} (ho : o.op = .binOp .sub ty x y tz) (hx : evalO t x = some (.raw (.int .i64 a))) (hy : evalO t y = some (.raw (.int .i64 b))) (hc : a - b = c) (hn : In64 c) : Yield P σ t o (.raw (.int .i64 c)) :=
  y_int ho hx hy fun w => by simp [binOp, Op.intArith, hc, wrap_in hn]
theorem y_mul {x y : Operand} {ty tz : TypeId} {a b c : Int} (ho : o.op = .binOp .mul ty x y tz) (hx : evalO t x = some (.raw (.int .i64 a))) (hy : evalO t y = some (.raw (.int .i64 b))) (hc : a * b = c) (hn : In64 c) : Yield P σ t o (.raw (.int .i64 c)) :=
  y_int ho hx hy fun w => by simp [binOp, Op.intArith, hc, wrap_in hn]
theorem y_quo {x y : Operand} {ty tz : TypeId} {a b c : Int} (ho : o.op = .binOp .quo ty x y tz) (hx : evalO t x = some (.raw (.int .i64 a))) (hy : evalO t y = some (.raw (.int .i64 b))) (hb : b ≠ 0) (hc : a.tdiv b = c) (hn : In64 c) : Yield P σ t o (.raw (.int .i64 c)) :=
  y_int ho hx hy fun w => by simp [binOp, Op.intDiv, hb, hc, wrap_in hn]
theorem y_rem {x y : Operand} {ty tz : TypeId} {a b c : Int} (ho : o.op = .binOp .rem ty x y tz) (hx : evalO t x = some (.raw (.int .i64 a))) (hy : evalO t y = some (.raw (.int .i64 b))) (hb : b ≠ 0) (hc : a.tmod b = c) : Yield P σ t o (.raw (.int .i64 c)) :=
  y_int ho hx hy fun w => by simp [binOp, Op.intDiv, hb, hc]
/-- Operators on other plain values (strings, bools ..). -/
theorem y_bin {op : BinOp} {x y : Operand} {ty tz : TypeId} {a b v : Value} (ho : o.op = .binOp op ty x y tz) (hx : evalO t x = some (.raw a)) (hy : evalO t y = some (.raw b))
    (hv : ∀ w, (do eqGuard op ty x y a b; binOp op ty a b : Sem Value).run P w = .ok v w) : Yield P σ t o (.raw v) := by
  intro F base E ρ w hρ _ hT
  have h1 := evalO_rep hρ hT hx
  have h2 := evalO_rep hρ hT hy
  generalize hz : ρ x = z at h1
  generalize hz' : ρ y = z' at h2
  cases h1
  cases h2
  have hv' := hv w
  simp only [execOp, ho, hz, hz', Sem.run_bind] at hv' ⊢
  rw [hv']
  exact upon_val (.raw _)
theorem y_nilPin {x : Operand} {xs : List PV} {off : Nat} (ho : o.op = .nilCheck x) (hx : evalO t x = some (.pin xs off)) : Yield P σ t o (.pin xs off) := by
  intro F base E ρ w hρ _ hT
  have h1 := evalO_rep hρ hT hx
  have h2 := h1
  generalize hz : ρ x = z at h1 h2
  cases h1
  simp only [execOp, ho, hz, Sem.run_pure]
  exact upon_val h2
theorem y_nilPtr {x : Operand} {i off : Nat} (ho : o.op = .nilCheck x) (hx : evalO t x = some (.ptr i off)) : Yield P σ t o (.ptr i off) := by
  intro F base E ρ w hρ _ hT
  have h1 := evalO_rep hρ hT hx
  have h2 := h1
  generalize hz : ρ x = z at h1 h2
  cases h1
  simp only [execOp, ho, hz, Sem.run_pure]
  exact upon_val h2
theorem y_nilFunc {x : Operand} {f : FuncId} {cap : List PV} (ho : o.op = .nilCheck x) (hx : evalO t x = some (.func f cap)) : Yield P σ t o (.func f cap) := by
  intro F base E ρ w hρ _ hT
  have h1 := evalO_rep hρ hT hx
  have h2 := h1
  generalize hz : ρ x = z at h1 h2
  cases h1
  simp only [execOp, ho, hz, Sem.run_pure]
  exact upon_val h2

/-- The place of a field. -/
def fieldOff (P : Program) (s f : Nat) : Option Nat :=
  match P.underlying s with
  | some (.struct fs) => match (fs[f]? : Option Field) with
    | some fl => match P.info? fl.type with
      | some i => if i.size = 0 then none else some fl.offset
      | none => none
    | none => none
  | _ => none
theorem run_fieldAt {s f off : Nat} (h : fieldOff P s f = some off) (b o : Nat) (w : World) : (Instr.fieldAt s (.pointer (some ⟨b, o, none⟩)) f).run P w = .ok (.pointer (some ⟨b, o + off, none⟩)) w := by
  unfold fieldOff at h
  split at h
  · rename_i fs hu
    split at h
    · rename_i fl hf
      split at h
      · rename_i i hi
        split at h
        · cases h
        · rename_i hs
          cases h
          simp [Instr.fieldAt, run_underlying hu, hf, Instr.sureAddr, fieldPlace, sizeOf, typeInfo, hi, hs, Addr.add_lit, program, Sem.run]
      · cases h
    · cases h
  · cases h
theorem y_fieldPin {s f off : Nat} {x : Operand} {xs : List PV} {k : Nat} (ho : o.op = .fieldAddr s x f) (hf : fieldOff P s f = some off) (hx : evalO t x = some (.pin xs k)) : Yield P σ t o (.pin xs (k + off)) := by
  intro F base E ρ w hρ _ hT
  have h1 := evalO_rep hρ hT hx
  generalize hz : ρ x = z at h1
  cases h1 with
  | pin b o' _ cs _ hb hM hc hl hr =>
    simp only [execOp, ho, hz, Sem.run_bind, run_fieldAt hf, Result.andThen_ok, Sem.run_pure]
    refine upon_val ?_
    rw [Nat.add_assoc]
    exact .pin b o' _ cs xs hb hM hc hl hr
theorem y_fieldPtr {s f off : Nat} {x : Operand} {i k : Nat} (ho : o.op = .fieldAddr s x f) (hf : fieldOff P s f = some off) (hx : evalO t x = some (.ptr i k)) : Yield P σ t o (.ptr i (k + off)) := by
  intro F base E ρ w hρ _ hT
  have h1 := evalO_rep hρ hT hx
  generalize hz : ρ x = z at h1
  cases h1 with
  | ptr _ _ b hi h =>
    simp only [execOp, ho, hz, Sem.run_bind, run_fieldAt hf, Result.andThen_ok, Sem.run_pure]
    exact upon_val (.ptr i _ b hi h)

/-- How many cells a variable of a type has; none: one cell, which is no part of a larger value. -/
def tyK (P : Program) (ty : TypeId) : Option (Option Nat) :=
  match P.underlying ty, P.info? ty with
  | some d, some i => match d with
    | .struct _ | .array _ _ => some (some i.size)
    | _ => if i.size = 1 then some none else none
  | _, _ => none
theorem run_loadCellsFrom (a : Addr) (ha : a.spot = none) : ∀ (cs : List Value) (i : Nat) (acc : Array Value) (w : World), (∀ j x, cs[j]? = some x → w.cell? ⟨a.block, a.off + (i + j), none⟩ = some x) →
    (loadCellsFrom a i cs.length acc).run P w = .ok (acc ++ cs.toArray) w
  | [], i, acc, w, _ => by simp [loadCellsFrom]
  | c :: cs, i, acc, w, h => by
    have h0 := h 0 c rfl
    have ea : a.add i = ⟨a.block, a.off + i, none⟩ := by
      unfold Addr.add; split
      · rename_i hi; subst hi; cases a; simp at ha; subst ha; rfl
      · rfl
    have ih := run_loadCellsFrom a ha cs (i + 1) (acc.push c) w (fun j x hx => by
      have := h (j + 1) x (by simpa using hx)
      rw [show i + 1 + j = i + (j + 1) by omega]; exact this)
    simp only [List.length_cons, loadCellsFrom, Sem.run_bind, load, Sem.run, ea]
    rw [show a.off + (i + 0) = a.off + i by omega] at h0
    rw [h0]
    simp only [Result.andThen_ok, ih]
    simp
theorem run_loadAgg {ty n b off : Nat} {cs : List Value} {w : World} (hk : tyK P ty = some (some n)) (hl : cs.length = n) (hc : ∀ (j : Nat) x, cs[j]? = some x → w.cell? ⟨b, off + j, none⟩ = some x) :
    (Instr.loadAt ty (.pointer (some ⟨b, off, none⟩))).run P w = .ok (.agg cs.toArray) w := by
  have hlc := run_loadCellsFrom (P := P) ⟨b, off, none⟩ rfl cs 0 #[] w (fun j x hx => by rw [Nat.zero_add]; exact hc j x hx)
  rw [hl] at hlc
  unfold tyK at hk
  split at hk
  · rename_i d i hu hi
    split at hk
    · cases hk
      simp [Instr.loadAt, Instr.sureAddr, loadVar, isAgg, run_underlying hu, sizeOf, typeInfo, hi, program, Sem.run, loadCells, hlc]
    · cases hk
      simp [Instr.loadAt, Instr.sureAddr, loadVar, isAgg, run_underlying hu, sizeOf, typeInfo, hi, program, Sem.run, loadCells, hlc]
    · split at hk <;> cases hk
  · cases hk
theorem run_loadOne {ty b off : Nat} {c : Value} {w : World} (hk : tyK P ty = some none) (hc : w.cell? ⟨b, off, none⟩ = some c) :
    (Instr.loadAt ty (.pointer (some ⟨b, off, none⟩))).run P w = .ok c w := by
  unfold tyK at hk
  split at hk
  · rename_i d i hu hi
    split at hk
    · cases hk
    · cases hk
    · rename_i h1 h2
      have ha : ∀ w, (isAgg ty).run P w = .ok false w := by
        intro w
        unfold isAgg
        simp only [Sem.run_bind, run_underlying hu, Result.andThen_ok]
        rfl
      simp only [Instr.loadAt, Instr.sureAddr, loadVar, Sem.run_bind, Sem.run_pure, Result.andThen_ok, ha]
      simp [load, Sem.run, hc]
  · cases hk
theorem y_loadPin {ty : TypeId} {x : Operand} {xs : List PV} {k : Nat} {p : PV} (ho : o.op = .load ty x) (hk : tyK P ty = some none) (hx : evalO t x = some (.pin xs k)) (hp : xs[k]? = some p) : Yield P σ t o p := by
  intro F base E ρ w hρ _ hT
  have h1 := evalO_rep hρ hT hx
  generalize hz : ρ x = z at h1
  cases h1 with
  | pin b o' _ cs _ hb hM hc hl hr =>
    obtain ⟨c, hcc, hcr⟩ := RepL.get (E := E) (w := w) ⟨hl, hr⟩ hp
    simp only [execOp, ho, hz, Sem.run_bind, run_loadOne hk (hc k c hcc), Result.andThen_ok, Sem.run_pure]
    exact upon_val hcr
theorem y_loadPinAgg {ty n : Nat} {x : Operand} {xs ys : List PV} {k : Nat} (ho : o.op = .load ty x) (hk : tyK P ty = some (some n)) (hx : evalO t x = some (.pin xs k)) (hp : (xs.drop k).take n = ys) (hn : ys.length = n) : Yield P σ t o (.agg ys) := by
  intro F base E ρ w hρ _ hT
  have h1 := evalO_rep hρ hT hx
  generalize hz : ρ x = z at h1
  cases h1 with
  | pin b o' _ cs _ hb hM hc hl hr =>
    have hR : RepL E w ((cs.drop k).take n) ys := by rw [← hp]; exact (RepL.drop (E := E) (w := w) ⟨hl, hr⟩ k).take n
    have := run_loadAgg (P := P) (w := w) (b := b) (off := o' + k) (cs := (cs.drop k).take n) hk (by rw [hR.1, hn]) (fun j x hx => by
      rw [List.getElem?_take] at hx
      split at hx
      · rw [List.getElem?_drop] at hx; rw [Nat.add_assoc]; exact hc _ x hx
      · cases hx)
    simp only [execOp, ho, hz, Sem.run_bind, this, Result.andThen_ok, Sem.run_pure]
    exact upon_val (.agg _ ys (by simpa using hR.1) (fun i x u h1 h2 => hR.2 i x u (by simpa using h1) h2))
/-- The cells of a local block. -/
def Blk.xs : Blk → List PV
  | .cells _ xs => xs
  | .row _ _ _ xs => xs
theorem Sat.cells {F : Nat → Prop} {base : Nat} {E : Env} {w : World} (h : Sat F base σ E w) {i b : Nat} {blk : Blk} (hi : σ[i]? = some (some blk)) (hb : E.at_ i = .pointer (some ⟨b, 0, none⟩) ∨ ∃ n c, E.at_ i = .slice (some ⟨b, 0, none⟩) n c) :
    ∃ cs, RepL E w cs blk.xs ∧ ∀ (j : Nat) x, cs[j]? = some x → w.cell? ⟨b, j, none⟩ = some x := by
  have hB := h.blk i blk hi
  cases blk with
  | cells ty xs =>
    obtain ⟨b', cs, he, h1, h2, h3⟩ := hB
    have : b = b' := by
      rcases hb with hb | ⟨n, c, hb⟩
      · rw [hb] at he; simpa using he
      · rw [hb] at he; cases he
    subst this
    exact ⟨cs.toList, h3, fun j x hx => by simp only [World.cell?, h2]; simpa using hx⟩
  | row e size n xs =>
    obtain ⟨cs, h1, h2⟩ := hB
    refine ⟨cs, h2, fun j x hx => ?_⟩
    have := h1.cells (g := b) (by
      rcases hb with hb | ⟨n, c, hb⟩
      · have := own_block h1; rw [hb] at this ⊢; simp [blockOf] at this; rw [← this]
      · rw [hb]; rfl) j x hx
    rw [Addr.add_lit] at this
    simpa using this
theorem y_loadPtr {ty : TypeId} {x : Operand} {i k : Nat} {blk : Blk} {p : PV} (ho : o.op = .load ty x) (hk : tyK P ty = some none) (hx : evalO t x = some (.ptr i k)) (hi : σ[i]? = some (some blk)) (hp : blk.xs[k]? = some p) : Yield P σ t o p := by
  intro F base E ρ w hρ hS hT
  have h1 := evalO_rep hρ hT hx
  generalize hz : ρ x = z at h1
  cases h1 with
  | ptr _ _ b hiL h =>
    obtain ⟨cs, hR, hc⟩ := hS.cells hi h
    obtain ⟨c, hcc, hcr⟩ := hR.get hp
    simp only [execOp, ho, hz, Sem.run_bind, run_loadOne hk (hc k c hcc), Result.andThen_ok, Sem.run_pure]
    exact upon_val hcr
theorem y_loadPtrAgg {ty n : Nat} {x : Operand} {i k : Nat} {blk : Blk} {ys : List PV} (ho : o.op = .load ty x) (hk : tyK P ty = some (some n)) (hx : evalO t x = some (.ptr i k)) (hi : σ[i]? = some (some blk)) (hp : (blk.xs.drop k).take n = ys) (hn : ys.length = n) : Yield P σ t o (.agg ys) := by
  intro F base E ρ w hρ hS hT
  have h1 := evalO_rep hρ hT hx
  generalize hz : ρ x = z at h1
  cases h1 with
  | ptr _ _ b hiL h =>
    obtain ⟨cs, hR', hc⟩ := hS.cells hi h
    have hR : RepL E w ((cs.drop k).take n) ys := by rw [← hp]; exact (hR'.drop k).take n
    have := run_loadAgg (P := P) (w := w) (b := b) (off := k) (cs := (cs.drop k).take n) hk (by rw [hR.1, hn]) (fun j x hx => by
      rw [List.getElem?_take] at hx
      split at hx
      · rw [List.getElem?_drop] at hx; exact hc _ x hx
      · cases hx)
    simp only [execOp, ho, hz, Sem.run_bind, this, Result.andThen_ok, Sem.run_pure]
    exact upon_val (.agg _ ys (by simpa using hR.1) (fun i x u h1 h2 => hR.2 i x u (by simpa using h1) h2))

theorem y_loadPinAll {ty n : Nat} {x : Operand} {xs : List PV} (ho : o.op = .load ty x) (hk : tyK P ty = some (some n)) (hx : evalO t x = some (.pin xs 0)) (hn : xs.length = n) : Yield P σ t o (.agg xs) :=
  y_loadPinAgg ho hk hx (by rw [List.drop_zero, ← hn, List.take_length]) hn
theorem y_loadPtrAll {ty n : Nat} {x : Operand} {i : Nat} {blk : Blk} (ho : o.op = .load ty x) (hk : tyK P ty = some (some n)) (hx : evalO t x = some (.ptr i 0)) (hi : σ[i]? = some (some blk)) (hn : blk.xs.length = n) : Yield P σ t o (.agg blk.xs) :=
  y_loadPtrAgg ho hk hx hi (by rw [List.drop_zero, ← hn, List.take_length]) hn
/-- The elements of a slice type: their type and their number of cells. -/
def elK (P : Program) (ty : TypeId) : Option (TypeId × Nat) :=
  match P.underlying ty with
  | some (.slice e) => match P.info? e with
    | some i => some (e, i.size)
    | none => none
  | _ => none
theorem elK_spec {ty e s : Nat} (h : elK P ty = some (e, s)) : P.underlying ty = some (.slice e) ∧ ∃ i, P.info? e = some i ∧ i.size = s := by
  unfold elK at h
  split at h
  · rename_i e' hu
    split at h
    · rename_i i hi; cases h; exact ⟨hu, i, hi, rfl⟩
    · cases h
  · cases h
theorem run_indexAt {ty e s b off n c : Nat} {k : IntKind} {i : Int} {w : World} (h : elK P ty = some (e, s)) (hi : 0 ≤ i) (hn : i < n) :
    (Instr.indexAt ty (.slice (some ⟨b, off, none⟩) n c) (.int k i)).run P w = .ok (.pointer (some ⟨b, off + i.toNat * s, none⟩)) w := by
  obtain ⟨hu, inf, hinf, hs⟩ := elK_spec h
  simp [Instr.indexAt, asIntOf, run_underlying hu, hi, hn, sizeOf, typeInfo, hinf, hs, Addr.add_lit, program, Sem.run]
theorem y_indexSlice {ty e s n : Nat} {x ix : Operand} {xs : List PV} {k : IntKind} {i : Int} {j : Nat} (ho : o.op = .indexAddr ty x ix) (he : elK P ty = some (e, s)) (hx : evalO t x = some (.slice n xs)) (hix : evalO t ix = some (.raw (.int k i))) (hi : 0 ≤ i) (hn : i < n) (hj : i.toNat * s = j) : Yield P σ t o (.pin xs j) := by
  intro F base E ρ w hρ _ hT
  have h1 := evalO_rep hρ hT hx
  have h2 := evalO_rep hρ hT hix
  generalize hz : ρ x = z at h1
  generalize hz' : ρ ix = z' at h2
  cases h2
  cases h1 with
  | nils => omega
  | empty a c h => omega
  | slice b off _ c cs _ h0 h1 h2 hb hM hc hl hr =>
    simp only [execOp, ho, hz, hz', Sem.run_bind, run_indexAt he hi hn, Result.andThen_ok, Sem.run_pure, hj]
    exact upon_val (.pin b off j cs xs hb hM hc hl hr)
theorem y_indexOwn {ty e s n e' s' : Nat} {x ix : Operand} {xs : List PV} {k : IntKind} {i : Int} {m j : Nat} (ho : o.op = .indexAddr ty x ix) (he : elK P ty = some (e, s)) (hx : evalO t x = some (.own m)) (hm : σ[m]? = some (some (.row e' s' n xs))) (hix : evalO t ix = some (.raw (.int k i))) (hi : 0 ≤ i) (hn : i < n) (hj : i.toNat * s = j) : Yield P σ t o (.ptr m j) := by
  intro F base E ρ w hρ hS hT
  have h1 := evalO_rep hρ hT hx
  have h2 := evalO_rep hρ hT hix
  generalize hz : ρ x = z at h1
  generalize hz' : ρ ix = z' at h2
  cases h2
  cases h1 with
  | own _ hmL _ h _ =>
    obtain ⟨cs, k1, k2⟩ := hS.blk m _ hm
    rcases k1.2 with ⟨_, h0⟩ | ⟨g, cap, cur, hv, _⟩
    · omega
    · rw [hv] at h
      subst h
      simp only [execOp, ho, hz, hz', Sem.run_bind, run_indexAt he hi hn, Result.andThen_ok, Sem.run_pure, hj, Nat.zero_add]
      exact upon_val (.ptr m j g hmL (.inr ⟨_, _, hv⟩))
/-- The elements of an array type. -/
def arK (P : Program) (ty : TypeId) : Option (Nat × Nat) :=
  match P.underlying ty with
  | some (.array n e) => match P.info? e with
    | some i => some (n, i.size)
    | none => none
  | _ => none
theorem run_indexArr {ty n s b off : Nat} {k : IntKind} {i : Int} {w : World} (h : arK P ty = some (n, s)) (hi : 0 ≤ i) (hn : i < n) :
    (Instr.indexAt ty (.pointer (some ⟨b, off, none⟩)) (.int k i)).run P w = .ok (.pointer (some ⟨b, off + i.toNat * s, none⟩)) w := by
  unfold arK at h
  split at h
  · rename_i n' e hu
    split at h
    · rename_i inf hinf; cases h
      simp [Instr.indexAt, asIntOf, run_underlying hu, hi, hn, sizeOf, typeInfo, hinf, Addr.add_lit, program, Sem.run, Instr.sureAddr]
    · cases h
  · cases h
theorem y_indexArrPin {ty s n : Nat} {x ix : Operand} {xs : List PV} {k : IntKind} {i : Int} {off j : Nat} (ho : o.op = .indexAddr ty x ix) (he : arK P ty = some (n, s)) (hx : evalO t x = some (.pin xs off)) (hix : evalO t ix = some (.raw (.int k i))) (hi : 0 ≤ i) (hn : i < n) (hj : i.toNat * s = j) : Yield P σ t o (.pin xs (off + j)) := by
  intro F base E ρ w hρ _ hT
  have h1 := evalO_rep hρ hT hx
  have h2 := evalO_rep hρ hT hix
  generalize hz : ρ x = z at h1
  generalize hz' : ρ ix = z' at h2
  cases h2
  cases h1 with
  | pin b o' _ cs _ hb hM hc hl hr =>
    simp only [execOp, ho, hz, hz', Sem.run_bind, run_indexArr he hi hn, Result.andThen_ok, Sem.run_pure, hj]
    refine upon_val ?_
    rw [Nat.add_assoc]
    exact .pin b o' _ cs xs hb hM hc hl hr
theorem y_field {s f off : Nat} {x : Operand} {xs : List PV} {p : PV} (ho : o.op = .field s x f) (hf : ∃ fs fl, P.underlying s = some (.struct fs) ∧ fs[f]? = some fl ∧ fl.offset = off ∧ tyK P fl.type = some none) (hx : evalO t x = some (.agg xs)) (hp : xs[off]? = some p) : Yield P σ t o p := by
  intro F base E ρ w hρ _ hT
  have h1 := evalO_rep hρ hT hx
  generalize hz : ρ x = z at h1
  cases h1 with
  | agg cs _ hl hr =>
    obtain ⟨fs, fl, hu, hfl, hoff, hk⟩ := hf
    obtain ⟨c, hcc, hcr⟩ := RepL.get (E := E) (w := w) (cs := cs.toList) ⟨by simpa using hl, fun i x u h1 h2 => hr i x u (by simpa using h1) h2⟩ hp
    have hag : ∀ w, (isAgg fl.type).run P w = .ok false w := by
      intro w
      unfold tyK at hk
      split at hk
      · rename_i d i hu' hi'
        split at hk
        · cases hk
        · cases hk
        · rename_i h1 h2
          unfold isAgg
          simp only [Sem.run_bind, run_underlying hu', Result.andThen_ok]
          rfl
      · cases hk
    have hcc' : cs[fl.offset]? = some c := by rw [hoff]; simpa using hcc
    simp only [execOp, ho, hz, Instr.field, Sem.run_bind, run_underlying hu, Result.andThen_ok, hfl, asAgg, Sem.run_pure, part, hag, hcc']
    simp only [Bool.false_eq_true, if_false, Sem.run_pure]
    exact upon_val hcr
theorem y_extract {x : Operand} {k : Nat} {xs : List PV} {p : PV} (ho : o.op = .extract x k) (hx : evalO t x = some (.tuple xs)) (hp : xs[k]? = some p) : Yield P σ t o p := by
  intro F base E ρ w hρ _ hT
  have h1 := evalO_rep hρ hT hx
  generalize hz : ρ x = z at h1
  cases h1 with
  | tuple cs _ hl hr =>
    obtain ⟨c, hcc, hcr⟩ := RepL.get (E := E) (w := w) (cs := cs.toList) ⟨by simpa using hl, fun i x u h1 h2 => hr i x u (by simpa using h1) h2⟩ hp
    have hcc' : cs[k]? = some c := by simpa using hcc
    simp only [execOp, ho, hz, Instr.extract, hcc', Sem.run_bind, Sem.run_pure, Result.andThen_ok]
    exact upon_val hcr
theorem y_makeFunc {f : FuncId} {cs : Array Operand} {xs : List PV} (ho : o.op = .makeFunc (.func f) #[] cs) (hx : evalL t cs.toList = some xs) : Yield P σ t o (.func f xs) := by
  intro F base E ρ w hρ _ hT
  simp only [execOp, ho, Instr.makeFunc, Sem.run_bind, Sem.run_pure, Result.andThen_ok]
  refine upon_val ?_
  have : (Array.map ρ #[] : Array Value) = #[] := by simp
  rw [this]
  have h := evalL_rep hρ hT hx
  exact .func f _ xs (by simpa using h.1) (fun i x u h1 h2 => h.2 i x u (by simpa using h1) h2)

/-- A contract on plain values. -/
def Can (P : Program) (f : FuncId) (ps : List PV) (R : PV → Prop) : Prop :=
  ∀ F w (vs : Array Value), (∀ b, F b → b < w.heap.size) → RepL (EF F) w vs.toList ps → Calls P f vs w (Ret (fun v w' => ∃ r, R r ∧ Rep (EF F) w' v r) w)
/-- A function with a body of its own. -/
def enters (P : Program) (f : FuncId) : Bool :=
  match P.funcs[f]? with
  | some fn => fn.name != "runtime.NumGoroutine" && fn.body.isSome
  | none => false
theorem run_callFunc {f : FuncId} (h : enters P f = true) (args : Array Value) (w : World) : (callFunc f args).run P w = .ok (.enter f args) w := by
  unfold enters at h
  split at h
  · rename_i fn hf
    simp only [Bool.and_eq_true, bne_iff_ne, ne_eq] at h
    obtain ⟨h1, h2⟩ := h
    have h3 : ¬ fn.body = none := by intro hb; rw [hb] at h2; cases h2
    simp [callFunc, program, Sem.run, hf, h1, h3]
  · cases h
theorem run_callValue {f : FuncId} {x : Operand} {args : Array Operand} {ats : Array TypeId} {ρ : Operand → Value} {cap : Array Value} (h : enters P f = true) (ho : o.op = .call { callee := .value x, args, argTypes := ats }) (hx : ρ x = .func (.func f) #[] cap) (w : World) :
    (execOp ρ o).run P w = .ok (.enter f (args.map ρ ++ cap)) w := by
  have := run_callFunc h (args.map ρ ++ cap) w
  simp [execOp, ho, resolve, hx, Deferred.ofValue, invoke, this]
/-- A call by a contract. -/
theorem y_call {f : FuncId} {x : Operand} {args : Array Operand} {ats : Array TypeId} {cap ps : List PV} {r : PV} (ho : o.op = .call { callee := .value x, args, argTypes := ats }) (hf : enters P f = true) (hx : evalO t x = some (.func f cap)) (ha : evalL t args.toList = some ps)
    (hc : Can P f (ps ++ cap) (· = r)) [IsPureL (ps ++ cap)] : Yield P σ t o r := by
  intro F base E ρ w hρ hS hT
  have h1 := evalO_rep hρ hT hx
  have h2 := evalL_rep hρ hT ha
  generalize hz : ρ x = z at h1
  cases h1 with
  | func _ cs _ hl hr =>
    rw [run_callValue hf ho hz w]
    refine ⟨Ext.refl _, ?_⟩
    have h3 : RepL E w (args.map ρ ++ cs).toList (ps ++ cap) := by
      rw [Array.toList_append, Array.toList_map]
      exact h2.append ⟨by simpa using hl, fun i x u k1 k2 => hr i x u (by simpa using k1) k2⟩
    refine (hc E.M w _ (fun b hb => hS.lt hb) (h3.pure (fun _ h => h))).mono ?_
    rintro e w' ⟨v, rfl, hE, r', rfl, hv⟩
    exact ⟨v, rfl, hE, hv.back⟩
/-- The same, where less is known of the arguments than the contract asks for, or more. -/
theorem RepL.le {E : Env} {w : World} {cs : List Value} {xs ys : List PV} (h : RepL E w cs xs) (hl : xs.length = ys.length) (hle : ∀ (i : Nat) x y, xs[i]? = some x → ys[i]? = some y → PLe x y) : RepL E w cs ys := by
  refine ⟨h.1.trans hl, fun i c u h1 h2 => ?_⟩
  have hi : i < xs.length := by rw [hl]; exact (List.getElem?_eq_some_iff.1 h2).1
  exact hle i xs[i] u (by simp [hi]) h2 E w c (h.2 i c _ h1 (by simp [hi]))
/-- The reading of local blocks as plain values. -/
inductive Pur (σ : Sto) : PV → PV → Prop
  | pure {p : PV} [IsPure p] : Pur σ p p
  | nils : Pur σ (.raw (.slice none 0 0)) (.slice 0 [])
  | own {i e s n : Nat} {xs ys : List PV} (h : σ[i]? = some (some (.row e s n xs))) (hl : xs.length = ys.length) (hs : ∀ (j : Nat) x y, xs[j]? = some x → ys[j]? = some y → Pur σ x y) : Pur σ (.own i) (.slice n ys)
  | ptr {i k : Nat} {blk : Blk} {ys : List PV} (h : σ[i]? = some (some blk)) (hl : blk.xs.length = ys.length) (hs : ∀ (j : Nat) x y, blk.xs[j]? = some x → ys[j]? = some y → Pur σ x y) : Pur σ (.ptr i k) (.pin ys k)
  | agg {xs ys : List PV} (hl : xs.length = ys.length) (hs : ∀ (j : Nat) x y, xs[j]? = some x → ys[j]? = some y → Pur σ x y) : Pur σ (.agg xs) (.agg ys)
  | tuple {xs ys : List PV} (hl : xs.length = ys.length) (hs : ∀ (j : Nat) x y, xs[j]? = some x → ys[j]? = some y → Pur σ x y) : Pur σ (.tuple xs) (.tuple ys)
  | func {f : FuncId} {xs ys : List PV} (hl : xs.length = ys.length) (hs : ∀ (j : Nat) x y, xs[j]? = some x → ys[j]? = some y → Pur σ x y) : Pur σ (.func f xs) (.func f ys)
def PurL (σ : Sto) (xs ys : List PV) : Prop := xs.length = ys.length ∧ ∀ (j : Nat) x y, xs[j]? = some x → ys[j]? = some y → Pur σ x y
theorem PurL.nil : PurL σ [] [] := ⟨rfl, fun j x y h => by simp at h⟩
theorem PurL.cons {x y : PV} {xs ys : List PV} (h : Pur σ x y) (hs : PurL σ xs ys) : PurL σ (x :: xs) (y :: ys) := ⟨by simp [hs.1], fun j a b h1 h2 => by
  cases j with
  | zero => simp at h1 h2; subst h1; subst h2; exact h
  | succ j => exact hs.2 j a b (by simpa using h1) (by simpa using h2)⟩
theorem PurL.pure {xs : List PV} [h : IsPureL xs] : PurL σ xs xs := ⟨rfl, fun j x y h1 h2 => by
  rw [h1] at h2; cases h2
  haveI := h.out j x h1
  exact Pur.pure⟩
theorem PurL.append {xs ys zs us : List PV} (h : PurL σ xs ys) (k : PurL σ zs us) : PurL σ (xs ++ zs) (ys ++ us) := ⟨by simp [h.1, k.1], fun j a b h1 h2 => by
  by_cases hj : j < xs.length
  · rw [List.getElem?_append_left hj] at h1
    rw [List.getElem?_append_left (by rw [← h.1]; exact hj)] at h2
    exact h.2 j a b h1 h2
  · rw [List.getElem?_append_right (by omega)] at h1
    rw [List.getElem?_append_right (by rw [← h.1]; omega), ← h.1] at h2
    exact k.2 _ a b h1 h2⟩
theorem Pur.aggL {xs ys : List PV} (h : PurL σ xs ys) : Pur σ (.agg xs) (.agg ys) := .agg h.1 h.2
theorem Pur.tupleL {xs ys : List PV} (h : PurL σ xs ys) : Pur σ (.tuple xs) (.tuple ys) := .tuple h.1 h.2
theorem Pur.funcL {f : FuncId} {xs ys : List PV} (h : PurL σ xs ys) : Pur σ (.func f xs) (.func f ys) := .func h.1 h.2
theorem Pur.ownL {i e s n : Nat} {xs ys : List PV} (h : σ[i]? = some (some (.row e s n xs))) (hs : PurL σ xs ys) : Pur σ (.own i) (.slice n ys) := .own h hs.1 hs.2
theorem Pur.ptrL {i k : Nat} {blk : Blk} {ys : List PV} (h : σ[i]? = some (some blk)) (hs : PurL σ blk.xs ys) : Pur σ (.ptr i k) (.pin ys k) := .ptr h hs.1 hs.2
/-- G: blocks that the reader must not meet. -/
theorem Pur.rep {F : Nat → Prop} {base : Nat} {E : Env} {w : World} (hS : Sat F base σ E w) {G : Nat → Prop} (hG : ∀ b, G b → E.M b) (hG' : ∀ b, G b → ∀ i blk, σ[i]? = some (some blk) → blockOf (E.at_ i) ≠ some b) {p q : PV} (hp : Pur σ p q) : ∀ v, Rep E w v p → Rep (EF G) w v q := by
  induction hp with
  | pure => intro v h; exact IsPure.out E G w v hG h
  | nils => intro v h; cases h; exact .nils
  | @own i e s n xs ys hs hl _ ih =>
    intro v h
    cases h with
    | own _ hi _ h _ =>
      obtain ⟨cs, k1, k2⟩ := hS.blk i _ hs
      have k3 : RepL (EF G) w cs ys := ⟨k2.1.trans hl, fun j c u h1 h2 => by
        have hj : j < xs.length := by rw [hl]; exact (List.getElem?_eq_some_iff.1 h2).1
        exact ih j xs[j] u (by simp [hj]) h2 c (k2.2 j c _ h1 (by simp [hj]))⟩
      have k4 := k1
      rcases k1.2 with ⟨hv', h0⟩ | ⟨g, cap, cur, hv', hb, hg, hn, hc, hs', ht⟩
      · rw [hv'] at h; subst h; subst h0
        have : ys = [] := by
          have := k4.1; simp at this; subst this
          exact List.eq_nil_of_length_eq_zero k3.1.symm
        subst this
        exact .nils
      · rw [hv'] at h; subst h
        by_cases h0 : n = 0
        · subst h0
          have : ys = [] := by
            have := k4.1; simp at this; subst this
            exact List.eq_nil_of_length_eq_zero k3.1.symm
          subst this
          exact .empty _ _ hc
        · refine .slice g 0 n cap cs ys (by omega) hn hc (Array.getElem?_eq_some_iff.1 hg).1 (fun hGg => hG' g hGg i _ hs (by rw [hv']; rfl)) (fun j x hx => ?_) k3.1 k3.2
          have := k4.cells (g := g) (by rw [hv']; rfl) j x hx
          rw [Addr.add_lit] at this
          exact this
  | @ptr i k blk ys hs hl _ ih =>
    intro v h
    cases h with
    | ptr _ _ b hi h =>
      obtain ⟨cs, k2, k3⟩ := hS.cells hs h
      have k4 : RepL (EF G) w cs ys := ⟨k2.1.trans hl, fun j c u h1 h2 => by
        have hj : j < blk.xs.length := by rw [hl]; exact (List.getElem?_eq_some_iff.1 h2).1
        exact ih j blk.xs[j] u (by simp [hj]) h2 c (k2.2 j c _ h1 (by simp [hj]))⟩
      have hbk : blockOf (E.at_ i) = some b := by
        rcases h with h | ⟨n, c, h⟩ <;> rw [h] <;> rfl
      have := Rep.pin (E := EF G) (w := w) b 0 k cs ys ((hS.blk i blk hs).lt hbk).2 (fun hGg => hG' b hGg i _ hs hbk) (fun j x hx => by rw [Nat.zero_add]; exact k3 j x hx) k4.1 k4.2
      rw [Nat.zero_add] at this
      exact this
  | @agg xs ys hl _ ih =>
    intro v h
    cases h with
    | agg cs _ hl' hr => exact .agg cs ys (hl'.trans hl) (fun j c u h1 h2 => by
        have hj : j < xs.length := by rw [hl]; exact (List.getElem?_eq_some_iff.1 h2).1
        exact ih j xs[j] u (by simp [hj]) h2 c (hr j c _ h1 (by simp [hj])))
  | @tuple xs ys hl _ ih =>
    intro v h
    cases h with
    | tuple cs _ hl' hr => exact .tuple cs ys (hl'.trans hl) (fun j c u h1 h2 => by
        have hj : j < xs.length := by rw [hl]; exact (List.getElem?_eq_some_iff.1 h2).1
        exact ih j xs[j] u (by simp [hj]) h2 c (hr j c _ h1 (by simp [hj])))
  | @func f xs ys hl _ ih =>
    intro v h
    cases h with
    | func _ cs _ hl' hr => exact .func f cs ys (hl'.trans hl) (fun j c u h1 h2 => by
        have hj : j < xs.length := by rw [hl]; exact (List.getElem?_eq_some_iff.1 h2).1
        exact ih j xs[j] u (by simp [hj]) h2 c (hr j c _ h1 (by simp [hj])))
theorem PurL.rep {F : Nat → Prop} {base : Nat} {E : Env} {w : World} (hS : Sat F base σ E w) {G : Nat → Prop} (hG : ∀ b, G b → E.M b) (hG' : ∀ b, G b → ∀ i blk, σ[i]? = some (some blk) → blockOf (E.at_ i) ≠ some b) {cs : List Value} {ps qs : List PV} (hp : PurL σ ps qs) (h : RepL E w cs ps) : RepL (EF G) w cs qs :=
  ⟨h.1.trans hp.1, fun j c u h1 h2 => by
    have hj : j < ps.length := by rw [hp.1]; exact (List.getElem?_eq_some_iff.1 h2).1
    exact (hp.2 j ps[j] u (by simp [hj]) h2).rep hS hG hG' c (h.2 j c _ h1 (by simp [hj]))⟩
theorem Pur.plain {E : Env} {w : World} {p q : PV} (hp : Pur [] p q) : ∀ v, Rep E w v p → Rep (EF E.M) w v q := by
  induction hp with
  | pure => intro v h; exact IsPure.out E E.M w v (fun _ h => h) h
  | nils => intro v h; cases h; exact .nils
  | own h => simp at h
  | ptr h => simp at h
  | @agg xs ys hl _ ih =>
    intro v h
    cases h with
    | agg cs _ hl' hr => exact .agg cs ys (hl'.trans hl) (fun j c u h1 h2 => by
        have hj : j < xs.length := by rw [hl]; exact (List.getElem?_eq_some_iff.1 h2).1
        exact ih j xs[j] u (by simp [hj]) h2 c (hr j c _ h1 (by simp [hj])))
  | @tuple xs ys hl _ ih =>
    intro v h
    cases h with
    | tuple cs _ hl' hr => exact .tuple cs ys (hl'.trans hl) (fun j c u h1 h2 => by
        have hj : j < xs.length := by rw [hl]; exact (List.getElem?_eq_some_iff.1 h2).1
        exact ih j xs[j] u (by simp [hj]) h2 c (hr j c _ h1 (by simp [hj])))
  | @func f xs ys hl _ ih =>
    intro v h
    cases h with
    | func _ cs _ hl' hr => exact .func f cs ys (hl'.trans hl) (fun j c u h1 h2 => by
        have hj : j < xs.length := by rw [hl]; exact (List.getElem?_eq_some_iff.1 h2).1
        exact ih j xs[j] u (by simp [hj]) h2 c (hr j c _ h1 (by simp [hj])))
/-- A call that only reads local blocks, with a result that leads into no memory. -/
theorem y_callV {f : FuncId} {x : Operand} {args : Array Operand} {ats : Array TypeId} {cap ps qs : List PV} {r : PV} (ho : o.op = .call { callee := .value x, args, argTypes := ats }) (hf : enters P f = true) (hx : evalO t x = some (.func f cap)) (ha : evalL t args.toList = some ps)
    (hq : PurL σ (ps ++ cap) qs) (hc : Can P f qs (· = r)) [hfl : IsFlat r] : Yield P σ t o r := by
  intro F base E ρ w hρ hS hT
  have h1 := evalO_rep hρ hT hx
  have h2 := evalL_rep hρ hT ha
  generalize hz : ρ x = z at h1
  cases h1 with
  | func _ cs _ hl hr =>
    rw [run_callValue hf ho hz w]
    refine ⟨Ext.refl _, ?_⟩
    have h3 : RepL E w (args.map ρ ++ cs).toList (ps ++ cap) := by
      rw [Array.toList_append, Array.toList_map]
      exact h2.append ⟨by simpa using hl, fun i x u k1 k2 => hr i x u (by simpa using k1) k2⟩
    refine (hc (fun _ => False) w _ (fun b hb => hb.elim) (hq.rep hS (fun _ h => h.elim) (fun _ h => h.elim) h3)).mono ?_
    rintro e w' ⟨v', rfl, hE, r', rfl, hv⟩
    exact ⟨_, rfl, hE, hfl.out _ _ _ _ _ hv⟩
/-- A call of which the result may lead to what the arguments lead to: these are plain. -/
theorem y_callP {f : FuncId} {x : Operand} {args : Array Operand} {ats : Array TypeId} {cap ps qs : List PV} {r : PV} (ho : o.op = .call { callee := .value x, args, argTypes := ats }) (hf : enters P f = true) (hx : evalO t x = some (.func f cap)) (ha : evalL t args.toList = some ps)
    (hq : PurL [] (ps ++ cap) qs) (hc : Can P f qs (· = r)) : Yield P σ t o r := by
  intro F base E ρ w hρ hS hT
  have h1 := evalO_rep hρ hT hx
  have h2 := evalL_rep hρ hT ha
  generalize hz : ρ x = z at h1
  cases h1 with
  | func _ cs _ hl hr =>
    rw [run_callValue hf ho hz w]
    refine ⟨Ext.refl _, ?_⟩
    have h3 : RepL E w (args.map ρ ++ cs).toList (ps ++ cap) := by
      rw [Array.toList_append, Array.toList_map]
      exact h2.append ⟨by simpa using hl, fun i x u k1 k2 => hr i x u (by simpa using k1) k2⟩
    have h4 : RepL (EF E.M) w (args.map ρ ++ cs).toList qs := ⟨h3.1.trans hq.1, fun j c u k1 k2 => by
      have hj : j < (ps ++ cap).length := by rw [hq.1]; exact (List.getElem?_eq_some_iff.1 k2).1
      exact (hq.2 j (ps ++ cap)[j] u (by simp) k2).plain c (h3.2 j c _ k1 (by simp))⟩
    refine (hc E.M w _ (fun b hb => hS.lt hb) h4).mono ?_
    rintro e w' ⟨v, rfl, hE, r', rfl, hv⟩
    exact ⟨v, rfl, hE, hv.back⟩

/-- The length of a slice. -/
theorem y_lenSlice {ty e s n : Nat} {x : Operand} {xs : List PV} (ho : o.op = .call { callee := .builtin .len, args := #[x], argTypes := #[ty] }) (he : elK P ty = some (e, s)) (hx : evalO t x = some (.slice n xs)) : Yield P σ t o (.raw (.int .i64 n)) := by
  intro F base E ρ w hρ _ hT
  have h1 := evalO_rep hρ hT hx
  obtain ⟨hu, _⟩ := elK_spec he
  generalize hz : ρ x = z at h1
  have : ∃ a c, z = .slice a n c := by
    cases h1
    · exact ⟨_, _, rfl⟩
    · exact ⟨_, _, rfl⟩
    · exact ⟨_, _, rfl⟩
  obtain ⟨a, c, rfl⟩ := this
  simp [execOp, ho, resolve, invoke, builtin, Builtin.len_, hz, run_underlying hu, goInt]
  exact upon_val (.raw _)
theorem y_lenNil {ty e s : Nat} {x : Operand} (ho : o.op = .call { callee := .builtin .len, args := #[x], argTypes := #[ty] }) (he : elK P ty = some (e, s)) (hx : evalO t x = some (.raw (.slice none 0 0))) : Yield P σ t o (.raw (.int .i64 0)) := by
  intro F base E ρ w hρ _ hT
  have h1 := evalO_rep hρ hT hx
  obtain ⟨hu, _⟩ := elK_spec he
  generalize hz : ρ x = z at h1
  cases h1
  simp [execOp, ho, resolve, invoke, builtin, Builtin.len_, hz, run_underlying hu, goInt]
  exact upon_val (.raw _)
theorem y_lenOwn {ty e s n e' s' : Nat} {x : Operand} {m : Nat} {xs : List PV} (ho : o.op = .call { callee := .builtin .len, args := #[x], argTypes := #[ty] }) (he : elK P ty = some (e, s)) (hx : evalO t x = some (.own m)) (hm : σ[m]? = some (some (.row e' s' n xs))) : Yield P σ t o (.raw (.int .i64 n)) := by
  intro F base E ρ w hρ hS hT
  have h1 := evalO_rep hρ hT hx
  obtain ⟨hu, _⟩ := elK_spec he
  generalize hz : ρ x = z at h1
  have : ∃ a c, z = .slice a n c := by
    cases h1 with
    | own _ hmL _ h _ =>
      obtain ⟨cs, k1, k2⟩ := hS.blk m _ hm
      rcases k1.2 with ⟨hv, h0⟩ | ⟨g, cap, cur, hv, _⟩
      · rw [hv] at h; subst h; subst h0; exact ⟨_, _, rfl⟩
      · rw [hv] at h; subst h; exact ⟨_, _, rfl⟩
  obtain ⟨a, c, rfl⟩ := this
  simp [execOp, ho, resolve, invoke, builtin, Builtin.len_, hz, run_underlying hu, goInt]
  exact upon_val (.raw _)
end
end PW
end Go.Proofs.YtkaalpdfppbdeaaDoor
