/- Segments are compared. -/
import Derived.Test.YtkaalpdfppbdeaaDoorRefR
import Derived.Laws.StructEq
namespace Go.Proofs.YtkaalpdfppbdeaaDoor
namespace PW
open Go.RowKit Reg Mem Net

theorem run_eqSeg (a b c d : Int) (w : World) : (Op.equalIn 10000 42 (.agg #[.int .i64 a, .int .i64 b]) (.agg #[.int .i64 c, .int .i64 d])).run Tryd.prog w = .ok (a == c && b == d) w := by
  have u3 := Tryd.underlying3
  have a3 := Tryd.isAgg3
  have z3 := Tryd.sizeOf3
  have hS : Tryd.prog.underlying 42 = some (.struct (Tryd.prog.fieldsOf 42)) := by kernel_rfl
  rw [show (10000 : Nat) = 9999 + 1 from rfl, run_equalIn_agg w 9999 42 _ _ hS (by kernel_rfl)]
  simp only [Program.fieldsOf, Tryd.underlying42]
  go_simp
  by_cases h1 : a = c <;> by_cases h2 : b = d <;> simp [h1, h2]
theorem rep_seg {E : Env} {w : World} {v : Value} {s : Seg} (h : Rep E w v (segV s)) : v = .agg #[.int .i64 s.kind, .int .i64 s.num] := by
  unfold segV segP at h
  cases h with
  | agg cs _ hl hr =>
    obtain ⟨l⟩ := cs
    match l, hl, hr with
    | [x, y], _, hr =>
      have h0 := rep_raw (hr 0 x _ rfl rfl)
      have h1 := rep_raw (hr 1 y _ rfl rfl)
      subst h0; subst h1; rfl
    | [], hl, _ => simp at hl
    | [_], hl, _ => simp at hl
    | _ :: _ :: _ :: _, hl, _ => simp at hl
theorem y_segNeq {σ : Sto} {t : Tms} {o : Oper} {x y : Operand} {tz : TypeId} {a b : Seg} {q : Bool} (ho : o.op = .binOp .neq 42 x y tz) (hx : evalO t x = some (segV a)) (hy : evalO t y = some (segV b)) (hq : decide (a ≠ b) = q) : Yield Tryd.prog σ t o (.raw (.bool q)) := by
  intro F base E ρ w hρ _ hT
  have h1 := rep_seg (evalO_rep hρ hT hx)
  have h2 := rep_seg (evalO_rep hρ hT hy)
  have hb : (!(a.kind == b.kind && a.num == b.num)) = q := by
    rw [← hq]
    obtain ⟨a1, a2⟩ := a
    obtain ⟨b1, b2⟩ := b
    by_cases e1 : a1 = b1 <;> by_cases e2 : a2 = b2 <;> simp [e1, e2]
  simp only [execOp, ho, h1, h2, Sem.run_bind, run_eqGuard_agg w _ _ _ _ _ _ (show Tryd.prog.eqGuardType Tryd.prog.depth 42 = false by kernel_rfl), Result.andThen_ok, run_neq_struct, run_eqSeg, Sem.run_pure, hb]
  exact upon_val (.raw _)
theorem y_segEql {σ : Sto} {t : Tms} {o : Oper} {x y : Operand} {tz : TypeId} {a b : Seg} {q : Bool} (ho : o.op = .binOp .eql 42 x y tz) (hx : evalO t x = some (segV a)) (hy : evalO t y = some (segV b)) (hq : decide (a = b) = q) : Yield Tryd.prog σ t o (.raw (.bool q)) := by
  intro F base E ρ w hρ _ hT
  have h1 := rep_seg (evalO_rep hρ hT hx)
  have h2 := rep_seg (evalO_rep hρ hT hy)
  have hb : (a.kind == b.kind && a.num == b.num) = q := by
    rw [← hq]
    obtain ⟨a1, a2⟩ := a
    obtain ⟨b1, b2⟩ := b
    by_cases e1 : a1 = b1 <;> by_cases e2 : a2 = b2 <;> simp [e1, e2]
  simp only [execOp, ho, h1, h2, Sem.run_bind, run_eqGuard_agg w _ _ _ _ _ _ (show Tryd.prog.eqGuardType Tryd.prog.depth 42 = false by kernel_rfl), Result.andThen_ok, run_eql_struct, run_eqSeg, Sem.run_pure, hb]
  exact upon_val (.raw _)
end PW
end Go.Proofs.YtkaalpdfppbdeaaDoor
