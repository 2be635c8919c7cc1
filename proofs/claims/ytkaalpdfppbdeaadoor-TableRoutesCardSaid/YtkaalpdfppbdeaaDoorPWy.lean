/- Pure walks: regions that draw their order, with operations on temporaries alone that may come late. No program in sight. -/
import Derived.Test.YtkaalpdfppbdeaaDoorPWz
namespace Go.Proofs.YtkaalpdfppbdeaaDoor
namespace PW
open Go.RowKit Reg Mem

/-- Values that are told by the store's book-keeping alone. -/
class IsFix (p : PV) : Prop where
  out : ∀ (E : Env) (w w' : World) (v : Value), Rep E w v p → Rep E w' v p
  det : ∀ (E : Env) (w : World) (v v' : Value), Rep E w v p → Rep E w v' p → v = v'
instance (v : Value) : IsFix (.raw v) := ⟨fun _ _ _ _ h => by cases h; exact .raw _, fun _ _ _ _ h h' => by cases h; cases h'; rfl⟩
instance (i : Nat) : IsFix (.own i) := ⟨fun _ _ _ _ h => by cases h with | own _ hi _ h hs => exact .own i hi _ h hs, fun _ _ _ _ h h' => by
  cases h with
  | own _ _ _ h _ => cases h' with
    | own _ _ _ h' _ => rw [← h, ← h']⟩
instance (i k : Nat) : IsFix (.ptr i k) := ⟨fun _ _ _ _ h => by cases h with | ptr _ _ b hi h => exact .ptr i k b hi h, fun E w v v' h h' => by
  cases h with
  | ptr _ _ b _ h => cases h' with
    | ptr _ _ b' _ h' =>
      have : b = b' := by
        rcases h with h | ⟨n, c, h⟩ <;> rcases h' with h' | ⟨n', c', h'⟩ <;> rw [h] at h' <;> simp at h' <;> first | exact h' | exact h'.1
      rw [this]⟩

section
variable {P : Program} {ops : Array Oper} {N L : Nat}

/-- What an operation on temporaries alone leaves. -/
def YieldR (P : Program) (t : Tms) (o : Oper) (p : PV) : Prop := ∀ E ρ w, IsEval ρ → RepT E w ρ t → ∃ v, (∀ w', (execOp ρ o).run P w' = .ok (.value v) w') ∧ Rep E w v p
theorem r_move {t : Tms} {o : Oper} {x : Operand} {p : PV} (ho : o.op = .move x) (hx : evalO t x = some p) : YieldR P t o p := fun E ρ w hρ hT =>
  ⟨ρ x, fun w' => by simp only [execOp, ho, Sem.run_pure], evalO_rep hρ hT hx⟩
theorem r_int {t : Tms} {o : Oper} {op : BinOp} {x y : Operand} {ty tz : TypeId} {k : IntKind} {a b : Int} {v : Value} (ho : o.op = .binOp op ty x y tz) (hx : evalO t x = some (.raw (.int k a))) (hy : evalO t y = some (.raw (.int k b)))
    (hv : ∀ w, (binOp op ty (.int k a) (.int k b)).run P w = .ok v w) : YieldR P t o (.raw v) := fun E ρ w hρ hT => by
  have h1 := evalO_rep hρ hT hx
  have h2 := evalO_rep hρ hT hy
  generalize hz : ρ x = z at h1
  generalize hz' : ρ y = z' at h2
  cases h1
  cases h2
  have hg : ∀ w, (eqGuard op ty x y (.int k a) (.int k b)).run P w = .ok () w := by
    intro w; unfold eqGuard; split <;> rfl
  exact ⟨v, fun w' => by simp only [execOp, ho, hz, hz', Sem.run_bind, Sem.run_pure, Result.andThen_ok, hg, hv], .raw _⟩
theorem r_add {t : Tms} {o : Oper} {x y : Operand} {ty tz : TypeId} {a b c : Int} (ho : o.op = .binOp .add ty x y tz) (hx : evalO t x = some (.raw (.int .i64 a))) (hy : evalO t y = some (.raw (.int .i64 b))) (hc : a + b = c) (hn : In64 c) : YieldR P t o (.raw (.int .i64 c)) :=
  r_int ho hx hy fun w => by simp [binOp, Op.intArith, hc, wrap_in hn]
theorem r_sub {t : Tms} {o : Oper} {x y : Operand} {ty tz : TypeId} {a b c : Int} (ho : o.op = .binOp .sub ty x y tz) (hx : evalO t x = some (.raw (.int .i64 a))) (hy : evalO t y = some (.raw (.int .i64 b))) (hc : a - b = c) (hn : In64 c) : YieldR P t o (.raw (.int .i64 c)) :=
  r_int ho hx hy fun w => by simp [binOp, Op.intArith, hc, wrap_in hn]
theorem r_mul {t : Tms} {o : Oper} {x y : Operand} {ty tz : TypeId} {a b c : Int} (ho : o.op = .binOp .mul ty x y tz) (hx : evalO t x = some (.raw (.int .i64 a))) (hy : evalO t y = some (.raw (.int .i64 b))) (hc : a * b = c) (hn : In64 c) : YieldR P t o (.raw (.int .i64 c)) :=
  r_int ho hx hy fun w => by simp [binOp, Op.intArith, hc, wrap_in hn]
theorem YieldR.y {t : Tms} {o : Oper} {p : PV} {σ : Sto} (h : YieldR P t o p) : Yield P σ t o p := fun F base E ρ w hρ _ hT => by
  obtain ⟨v, h1, h2⟩ := h E ρ w hρ hT
  rw [h1]; exact upon_val h2

/-- The temporaries behind some operations. -/
def addT : List Oper → List PV → Tms → Tms
  | o :: l, p :: ps, t => addT l ps (match o.dst with | some d => (d, p) :: t | none => t)
  | _, _, t => t
/-- The operations of a region that come first, in the order of the text; fl: those that may come late. -/
inductive ChainF (P : Program) (N : Nat) (ops : Array Oper) (σ : Sto) : List Oper → List PV → List Bool → Tms → Prop
  | nil {t : Tms} : ChainF P N ops σ [] [] [] t
  | val {o : Oper} {rest : List Oper} {t : Tms} {d : Nat} {p : PV} {ps : List PV} {fs : List Bool} (ks : List Nat) : (ks.all fun k => (o.looksAt ops).contains k) = true → Yield P σ (pickT t ks) o p → o.dst = some d → Nat.blt d N = true → ChainF P N ops σ rest ps fs ((d, p) :: t) → ChainF P N ops σ (o :: rest) (p :: ps) (false :: fs) t
  | late {o : Oper} {rest : List Oper} {t : Tms} {d : Nat} {p : PV} {ps : List PV} {fs : List Bool} (ks : List Nat) : (ks.all fun k => (o.looksAt ops).contains k) = true → YieldR P (pickT t ks) o p → IsFix p → o.dst = some d → Nat.blt d N = true → ChainF P N ops σ rest ps fs ((d, p) :: t) → ChainF P N ops σ (o :: rest) (p :: ps) (true :: fs) t
structure Datum (P : Program) (N : Nat) (ops : Array Oper) (σ : Sto) (o : Oper) (p : PV) (fl : Bool) (t : Tms) : Prop where
  dst : ∃ d, o.dst = some d ∧ d < N
  y : ∃ ks, (∀ k ∈ ks, k ∈ o.looksAt ops) ∧ Yield P σ (pickT t ks) o p
  r : fl = true → IsFix p ∧ ∃ ks, (∀ k ∈ ks, k ∈ o.looksAt ops) ∧ YieldR P (pickT t ks) o p
theorem ChainF.data {σ : Sto} {l : List Oper} {ps : List PV} {fs : List Bool} {t : Tms} (h : ChainF P N ops σ l ps fs t) : ps.length = l.length ∧ fs.length = l.length ∧ ∀ (i : Nat) o p f, l[i]? = some o → ps[i]? = some p → fs[i]? = some f → Datum P N ops σ o p f (addT (l.take i) (ps.take i) t) := by
  have mem : ∀ {ks : List Nat} {o : Oper}, (ks.all fun k => (o.looksAt ops).contains k) = true → ∀ k ∈ ks, k ∈ o.looksAt ops := fun h k hk => by
    have := List.all_eq_true.1 h k hk; simpa using this
  induction h with
  | nil => exact ⟨rfl, rfl, fun i o p f h => by simp at h⟩
  | @val o rest t d p ps fs ks hks hy hd hN _ ih =>
    refine ⟨by simp [ih.1], by simp [ih.2.1], fun i o' p' f h1 h2 h3 => ?_⟩
    cases i with
    | zero =>
      simp at h1 h2 h3
      subst h1; subst h2; subst h3
      exact ⟨⟨d, hd, Nat.blt_eq.mp hN⟩, ⟨ks, mem hks, hy⟩, fun e => by cases e⟩
    | succ i =>
      have := ih.2.2 i o' p' f (by simpa using h1) (by simpa using h2) (by simpa using h3)
      simpa [addT, hd] using this
  | @late o rest t d p ps fs ks hks hy hfp hd hN _ ih =>
    refine ⟨by simp [ih.1], by simp [ih.2.1], fun i o' p' f h1 h2 h3 => ?_⟩
    cases i with
    | zero =>
      simp at h1 h2 h3
      subst h1; subst h2; subst h3
      exact ⟨⟨d, hd, Nat.blt_eq.mp hN⟩, ⟨ks, mem hks, hy.y⟩, fun _ => ⟨hfp, ks, mem hks, hy⟩⟩
    | succ i =>
      have := ih.2.2 i o' p' f (by simpa using h1) (by simpa using h2) (by simpa using h3)
      simpa [addT, hd] using this

/-- The form of such a region. fl: which of the first m may come late. -/
def dstOf (ops : Array Oper) (i : Nat) : Option Nat := (ops[i]?).bind (·.dst)
def looksOf (ops : Array Oper) (i : Nat) : List Nat := match ops[i]? with | some o => o.looksAt ops | none => []
def fltB (ops : Array Oper) (f m : Nat) (fl : List Bool) : Bool :=
  decide (m ≤ ops.size) && Nat.beq fl.length m &&
  ((List.range ops.size).all fun i => (aft ops i).all fun k => decide (k < i)) &&
  ((List.range ops.size).all fun i => ((ops[i]?).all fun o => o.guard.isNone)) &&
  ((List.range m).all fun i => (List.range i).all fun j => dstOf ops i != dstOf ops j) &&
  ((List.range m).all fun j => (looksOf ops j).all fun k => (List.range m).all fun i => dstOf ops i != some k || (decide (i < j) && (aft ops j).contains i)) &&
  ((List.range ops.size).all fun i => decide (i < m) || (List.range i).all fun j => fl.getD j false || reachB ops f i j) &&
  ((List.range ops.size).all fun i => decide (i < m) || (List.range m).all fun j => !fl.getD j false || ((dstOf ops j).all fun d => !(looksOf ops i).contains d || reachB ops f i j)) &&
  ((List.range ops.size).all fun i => decide (i < m) || (List.range m).all fun j => !fl.getD j false || ((dstOf ops i).all fun d => dstOf ops j != some d && !(looksOf ops j).contains d))

structure Form (ops : Array Oper) (f m : Nat) (fl : List Bool) : Prop where
  le : m ≤ ops.size
  flen : fl.length = m
  aft : ∀ i, i < ops.size → ∀ k ∈ aft ops i, k < i
  ng : ∀ (i : Nat) (o : Oper), ops[i]? = some o → o.guard = none
  ss : ∀ i j, i < m → j < i → dstOf ops i ≠ dstOf ops j
  rd : ∀ j, j < m → ∀ k ∈ looksOf ops j, ∀ i, i < m → dstOf ops i = some k → i < j ∧ i ∈ PW.aft ops j
  bar : ∀ i, i < ops.size → m ≤ i → ∀ j, j < i → fl.getD j false = false → reachB ops f i j = true
  use : ∀ i, i < ops.size → m ≤ i → ∀ j, j < m → fl.getD j false = true → ∀ d, dstOf ops j = some d → d ∈ looksOf ops i → reachB ops f i j = true
  wr : ∀ i, i < ops.size → m ≤ i → ∀ j, j < m → fl.getD j false = true → ∀ d, dstOf ops i = some d → dstOf ops j ≠ some d ∧ d ∉ looksOf ops j
theorem fltB_form {f m : Nat} {fl : List Bool} (h : fltB ops f m fl = true) : Form ops f m fl := by
  unfold fltB at h
  simp only [Bool.and_eq_true] at h
  obtain ⟨⟨⟨⟨⟨⟨⟨⟨h1, h2⟩, h3⟩, h4⟩, h5⟩, h6⟩, h7⟩, h8⟩, h9⟩ := h
  have all : ∀ {n : Nat} {p : Nat → Bool}, (List.range n).all p = true → ∀ i, i < n → p i = true := fun h i hi => List.all_eq_true.1 h i (List.mem_range.2 hi)
  refine ⟨by simpa using h1, Nat.eq_of_beq_eq_true h2, fun i hi k hk => ?_, fun i o ho => ?_, fun i j hi hj => ?_, fun j hj k hk i hi hd => ?_, fun i hi hm j hj hf => ?_, fun i hi hm j hj hf d hd hl => ?_, fun i hi hm j hj hf d hd => ?_⟩
  · have := List.all_eq_true.1 (all h3 i hi) k hk; simpa using this
  · have hi : i < ops.size := (Array.getElem?_eq_some_iff.1 ho).1
    have := all h4 i hi
    rw [ho] at this
    simpa using this
  · have := all (all h5 i hi) j hj
    simpa using this
  · have := all (List.all_eq_true.1 (all h6 j hj) k hk) i hi
    rw [hd] at this
    simpa using this
  · have := all h7 i hi
    simp only [Bool.or_eq_true, decide_eq_true_eq] at this
    rcases this with h | h
    · omega
    · have := all h j hj
      rw [hf] at this
      simpa using this
  · have := all h8 i hi
    simp only [Bool.or_eq_true, decide_eq_true_eq] at this
    rcases this with h | h
    · omega
    · have := all h j hj
      rw [hf, hd] at this
      simpa [hl] using this
  · have := all h9 i hi
    simp only [Bool.or_eq_true, decide_eq_true_eq] at this
    rcases this with h | h
    · omega
    · have := all h j hj
      rw [hf, hd] at this
      simpa using this

/-- a stands for a₁, but for late operations that are not listed yet. -/
structure Agree (ops : Array Oper) (m : Nat) (fl : List Bool) (ls : Array Bool) (a a₁ : Act) : Prop where
  dfr : a.defers = a₁.defers
  size : a.tmps.size = a₁.tmps.size
  tmp : ∀ k, (∀ j, j < m → fl.getD j false = true → ls.getD j true = false → dstOf ops j ≠ some k) → a.eval (.tmp k) = a₁.eval (.tmp k)
def Fixed (P : Program) (ops : Array Oper) (m : Nat) (fl : List Bool) (a₁ : Act) : Prop :=
  ∀ j o d, j < m → fl.getD j false = true → ops[j]? = some o → o.dst = some d → ∀ w, (execOp a₁.eval o).run P w = .ok (.value (a₁.eval (.tmp d))) w
theorem looks_mem {i : Nat} {o : Oper} (ho : ops[i]? = some o) {k : Nat} (hk : Operand.tmp k ∈ o.op.operands) : k ∈ looksOf ops i := by
  unfold looksOf
  rw [ho]
  exact List.mem_append_left _ (List.mem_filterMap.2 ⟨.tmp k, by simpa using hk, rfl⟩)
theorem exec_agree {i : Nat} {o : Oper} {a a₁ : Act} (ho : ops[i]? = some o) (hs : ∀ cs b, o.op ≠ .select cs b) (h : ∀ k ∈ looksOf ops i, a.eval (.tmp k) = a₁.eval (.tmp k)) : execOp a.eval o = execOp a₁.eval o := by
  refine execOp_congr o hs fun x hx => ?_
  match x, hx with
  | .tmp k, hx => exact h k (looks_mem ho hx)
  | .const v, _ => rfl
  | .global g, _ => rfl
  | .func g, _ => rfl
theorem act_eq {a a₁ : Act} (hd : a.defers = a₁.defers) (hs : a.tmps.size = a₁.tmps.size) (h : ∀ k, a.eval (.tmp k) = a₁.eval (.tmp k)) : a = a₁ := by
  obtain ⟨t, d⟩ := a
  obtain ⟨t', d'⟩ := a₁
  simp only at hd hs
  subst hd
  congr
  apply Array.ext hs
  intro i h1 h2
  have := h i
  simpa [Act.eval, h1, h2] using this
theorem put_eval (a : Act) {d : Nat} (hd : d < a.tmps.size) (v : Value) (k : Nat) : (a.put (some d) v).eval (.tmp k) = if k = d then v else a.eval (.tmp k) := by
  split
  · rename_i e; subst e; simp [Act.put, Act.eval, hd]
  · rename_i e; exact Act.eval_put (fun d' hd' heq => by cases hd'; cases heq; exact e rfl)
def OnlyN (Qn : Act → World → Prop) : Exit → Act → World → Prop
  | .normal, a, w => Qn a w
  | _, _, _ => False
theorem wp_agree {o : Oper} {a a₁ : Act} {w : World} {K K' : Act → World → Prop} {Qn : Act → World → Prop} {Q : Exit → Act → World → Prop} (he : execOp a.eval o = execOp a₁.eval o) (hd : a.defers = a₁.defers) (hh : o.wp P a₁ w K (OnlyN Qn)) (h : ∀ ds v w', K (({ a₁ with defers := ds } : Act).put o.dst v) w' → K' (({ a with defers := ds } : Act).put o.dst v) w') : o.wp P a w K' Q := by
  have h1 : ∀ v w', K (a₁.put o.dst v) w' → K' (a.put o.dst v) w' := fun v w' hk => by
    have := h a₁.defers v w' hk
    rw [← hd] at this
    exact this
  unfold Oper.wp at *
  rw [he]
  generalize (execOp a₁.eval o).run P w = x at *
  cases x with
  | ok n w' =>
    cases n <;> simp only [Oper.upon] at hh ⊢
    case value v => exact h1 _ _ hh
    case skip => exact h1 _ _ hh
    case defer d => rw [hd]; exact h _ _ _ hh
    case enter f args => exact Calls.mono hh (fun e w'' he => by cases e <;> first | exact h1 _ _ he | exact he.elim | exact (he.elim fun _ h => h.elim fun _ h => h.elim))
    case row r args => exact Rows.mono hh (fun _ _ he => h1 _ _ he)
    all_goals exact hh.elim
  | halt x w' => cases x <;> simp only [Oper.upon] at hh ⊢ <;> exact hh.elim

theorem unlisted_le (ls : Array Bool) : ∀ m, unlisted ls m ≤ m
  | 0 => Nat.le_refl _
  | m + 1 => by simp only [unlisted]; have := unlisted_le ls m; split <;> omega
/-- Behind the first of the later operations: late ones may still come. -/
theorem late_any {f m : Nat} {fl : List Bool} (hF : Form ops f m fl) (hsel : ∀ (i : Nat) (o : Oper), ops[i]? = some o → ∀ cs b, o.op ≠ .select cs b) (hfd : ∀ j, j < m → ∃ d, dstOf ops j = some d) {Qn : Act → World → Prop} {Q : Exit → Act → World → Prop} (hQ : ∀ a w, Qn a w → Q .normal a w) :
    ∀ (fuel k r : Nat) (ls : Array Bool) (a a₁ : Act) (w : World), k + r = ops.size → m ≤ k → ls.size = ops.size → (∀ i, k ≤ i → i < ops.size → ls.getD i true = false) → (∀ i, m ≤ i → i < k → ls.getD i true = true) → (∀ i, i < m → fl.getD i false = false → ls.getD i true = true) → Down ops ls → fuel = unlisted ls m + r →
      Agree ops m fl ls a a₁ → Fixed P ops m fl a₁ → (∀ j d, j < m → dstOf ops j = some d → d < a₁.tmps.size) → wpOps P ops (OnlyN Qn) (List.range' k r) a₁ w → wpAny P .any ops Q fuel ls a w := by
  intro fuel
  induction fuel with
  | zero =>
    intro k r ls a a₁ w hk hm hsz hA hB hC hD hfu hag hfx hds h
    have hr : r = 0 := by omega
    subst hr
    have hu : unlisted ls m = 0 := by omega
    have hall : ∀ i, i < ops.size → ls.getD i true = true := fun i hi => by
      rcases Nat.lt_or_ge i m with h' | h'
      · exact unlisted_zero hu i h'
      · exact hB i h' (by omega)
    have hr0 : Region.ready .any ops ls = [] := by
      apply List.eq_nil_iff_forall_not_mem.2
      intro i hi
      obtain ⟨h1, h2, _⟩ := ready_iff.1 hi
      rw [hall i h1] at h2; cases h2
    have : a = a₁ := act_eq hag.dfr hag.size fun k => hag.tmp k fun j hj _ hl => by
      rw [unlisted_zero hu j hj] at hl; cases hl
    subst this
    exact ⟨hr0, hQ a w h⟩
  | succ fuel ih =>
    intro k r ls a a₁ w hk hm hsz hA hB hC hD hfu hag hfx hds h
    have hf : ∀ b c (i : Nat), i < ops.size → ls.getD i b = ls.getD i c := fun b c i hi => by simp [show i < ls.size by omega]
    have hne : Region.ready .any ops ls ≠ [] := by
      rcases Nat.eq_zero_or_pos (unlisted ls m) with hu | hu
      · have hkr : k < ops.size := by omega
        have : k ∈ Region.ready .any ops ls := ready_iff.2 ⟨hkr, hA k (Nat.le_refl _) hkr, fun j hj => by
          have := hF.aft k hkr j hj
          rw [hf false true j (by omega)]
          rcases Nat.lt_or_ge j m with h' | h'
          · exact unlisted_zero hu j h'
          · exact hB j h' this⟩
        intro h0; rw [h0] at this; cases this
      · obtain ⟨i, h1, h2, h3⟩ := unlisted_pos hu
        have hle := hF.le
        have : i ∈ Region.ready .any ops ls := ready_iff.2 ⟨by omega, h2, fun j hj => by
          have := hF.aft i (by omega) j hj
          rw [hf false true j (by omega)]; exact h3 j this⟩
        intro h0; rw [h0] at this; cases this
    refine ⟨fun h0 => absurd h0 hne, fun i hi => ?_⟩
    obtain ⟨hi1, hi2, hi3⟩ := ready_iff.1 hi
    have ho : ops[i]? = some ops[i] := by simp [hi1]
    have hwant : Region.wanted ops[i] (yielded ops a.tmps) = true := by unfold Region.wanted; rw [hF.ng i _ ho]
    have hset : ∀ (j : Nat) b, (ls.setIfInBounds i true).getD j b = if j = i then true else ls.getD j b := fun j b => by
      by_cases e : i = j
      · subst e; simp [show i < ls.size by omega]
      · rw [if_neg (fun h => e h.symm), Array.getD_eq_getD_getElem?, Array.getD_eq_getD_getElem?, Array.getElem?_setIfInBounds_ne e]
    have hdown : Down ops (ls.setIfInBounds i true) := fun j hj hj' q hq => by
      rw [hset]
      split
      · rfl
      · rw [hset] at hj
        split at hj
        · rename_i e; subst e; exact hi3 q hq
        · exact hD j hj hj' q hq
    unfold wpOp
    rw [ho]
    simp only [hwant, if_true]
    rcases Nat.lt_or_ge i m with him | him
    · -- a late operation
      have hfl : fl.getD i false = true := by
        cases hb : fl.getD i false with
        | true => rfl
        | false => rw [hC i him hb] at hi2; cases hi2
      cases hd : (ops[i]).dst with
      | none =>
        obtain ⟨d, hd'⟩ := hfd i him
        simp only [dstOf, ho, Option.bind_some] at hd'
        have := hd.symm.trans hd'
        cases this
      | some d =>
        have hdo : dstOf ops i = some d := by simp only [dstOf, ho, Option.bind_some]; exact hd
        have hrun := hfx i ops[i] d him hfl ho hd w
        have hex : execOp a.eval ops[i] = execOp a₁.eval ops[i] := exec_agree ho (hsel i _ ho) fun q hq => hag.tmp q fun j hj _ hjl hjd => by
          have := (hF.rd i him q hq j hj hjd).2
          have := hi3 j this
          rw [hf false true j (by omega), hjl] at this
          cases this
        left
        unfold Oper.wp
        rw [hex, hrun]
        simp only [Oper.upon]
        rw [hd]
        have hda := hds i d him hdo
        refine ih k r _ _ a₁ w hk hm (by simpa using hsz) (fun j hj hj' => by rw [hset, if_neg (by omega)]; exact hA j hj hj') (fun j hj hj' => by rw [hset, if_neg (by omega)]; exact hB j hj hj') (fun j hj hj' => ?_) hdown ?_ ⟨by simpa [Act.put] using hag.dfr, by simpa [Act.put] using hag.size, fun q hq => ?_⟩ hfx hds h
        · rw [hset]; split
          · rfl
          · exact hC j hj hj'
        · have := unlisted_set hi2 him (by have := hF.le; omega); omega
        · rw [put_eval a (by rw [hag.size]; exact hda)]
          split
          · rename_i e; rw [e]
          · rename_i e
            refine hag.tmp q fun j hj hjf hjl hjd => ?_
            by_cases e2 : j = i
            · subst e2; rw [hdo] at hjd; cases hjd; exact e rfl
            · exact hq j hj hjf (by rw [hset, if_neg e2]; exact hjl) hjd
    · -- the next of the others
      have hik : i = k := by
        rcases Nat.lt_or_ge i k with h' | h'
        · rw [hB i him h'] at hi2; cases hi2
        · rcases Nat.lt_or_ge k i with h'' | h''
          · have hfk : fl.getD k false = false := by
              have := hF.flen
              simp [List.getD_eq_getElem?_getD, List.getElem?_eq_none (show fl.length ≤ k by omega)]
            have := reach_listed hsz hD hF.aft f i k hi1 (hF.bar i hi1 him k h'' hfk) hi3
            rw [hf false true k (by omega), hA k (Nat.le_refl _) (by omega)] at this
            cases this
          · omega
      subst hik
      obtain ⟨r', rfl⟩ : ∃ r', r = r' + 1 := ⟨r - 1, by omega⟩
      rw [List.range'_succ, wpOps_cons] at h
      unfold wpOp at h
      rw [ho] at h
      have hwant' : Region.wanted ops[i] (yielded ops a₁.tmps) = true := by unfold Region.wanted; rw [hF.ng i _ ho]
      simp only [hwant', if_true] at h
      have hh := h.resolve_right (fun ⟨_, _, _, hq⟩ => hq)
      have hex : execOp a.eval ops[i] = execOp a₁.eval ops[i] := exec_agree ho (hsel i _ ho) fun q hq => hag.tmp q fun j hj hjf hjl hjd => by
        have := reach_listed hsz hD hF.aft f i j hi1 (hF.use i hi1 him j hj hjf q hjd hq) hi3
        rw [hf false true j (by have := hF.le; omega), hjl] at this
        cases this
      left
      refine wp_agree hex hag.dfr hh fun ds v w' hK => ?_
      have hdd : ∀ d, (ops[i]).dst = some d → dstOf ops i = some d := fun d hd => by simp only [dstOf, ho, Option.bind_some]; exact hd
      refine ih (i + 1) r' _ _ _ w' (by omega) (by omega) (by simpa using hsz) (fun j hj hj' => by rw [hset, if_neg (by omega)]; exact hA j (by omega) hj') (fun j hj hj' => ?_) (fun j hj hj' => by rw [hset, if_neg (by omega)]; exact hC j hj hj') hdown ?_ ⟨?_, ?_, fun q hq => ?_⟩ (fun j o d hj hjf hjo hjd w'' => ?_) (fun j d hj hjd => ?_) hK
      · rw [hset]; split
        · rfl
        · exact hB j hj (by omega)
      · have : unlisted (ls.setIfInBounds i true) m = unlisted ls m := by
          have : ∀ q, q ≤ m → unlisted (ls.setIfInBounds i true) q = unlisted ls q := by
            intro q
            induction q with
            | zero => intro _; rfl
            | succ q ihq =>
              intro hq
              simp only [unlisted]
              rw [ihq (by omega), hset q true, if_neg (show ¬ q = i by omega)]
          exact this m (Nat.le_refl _)
        omega
      · cases (ops[i]).dst <;> rfl
      · cases (ops[i]).dst <;> simpa [Act.put] using hag.size
      · have hq' : ∀ j, j < m → fl.getD j false = true → ls.getD j true = false → dstOf ops j ≠ some q := fun j hj hjf hjl => hq j hj hjf (by rw [hset, if_neg (by omega)]; exact hjl)
        cases hd : (ops[i]).dst with
        | none => exact hag.tmp q hq'
        | some d =>
          by_cases hsz2 : d < a.tmps.size
          · rw [put_eval _ (by simpa using hsz2), put_eval _ (by rw [← hag.size]; exact hsz2)]
            split
            · rfl
            · exact hag.tmp q hq'
          · have e1 : ({ a with defers := ds } : Act).put (some d) v = { a with defers := ds } := by simp [Act.put, Array.setIfInBounds, hsz2]
            have e2 : ({ a₁ with defers := ds } : Act).put (some d) v = { a₁ with defers := ds } := by simp [Act.put, Array.setIfInBounds, ← hag.size, hsz2]
            rw [e1, e2]
            exact hag.tmp q hq'
      · have hj1 := hfx j o d hj hjf hjo hjd w''
        have hjd' : dstOf ops j = some d := by simp only [dstOf, hjo, Option.bind_some]; exact hjd
        have key : ∀ q, (q ∈ looksOf ops j ∨ q = d) → (({ a₁ with defers := ds } : Act).put (ops[i]).dst v).eval (.tmp q) = a₁.eval (.tmp q) := fun q hq => by
          refine Act.eval_put (a := { a₁ with defers := ds }) fun e he heq => ?_
          cases heq
          have := hF.wr i hi1 him j hj hjf q (hdd q he)
          rcases hq with hq | rfl
          · exact this.2 hq
          · exact this.1 hjd'
        have he2 : execOp (({ a₁ with defers := ds } : Act).put (ops[i]).dst v).eval o = execOp a₁.eval o := exec_agree hjo (hsel j o hjo) fun q hq => key q (.inl hq)
        rw [he2, hj1, key d (.inr rfl)]
      · have := hds j d hj hjd
        cases (ops[i]).dst <;> simpa [Act.put] using this

theorem look_add : ∀ (l : List Oper) (ps : List PV) (t : Tms) (k : Nat) (p : PV), look k (addT l ps t) = some p → (∃ (j : Nat) (o : Oper), l[j]? = some o ∧ o.dst = some k ∧ ps[j]? = some p) ∨ look k t = some p
  | [], _, t, k, p, h => .inr (by simpa [addT] using h)
  | _ :: _, [], t, k, p, h => .inr (by simpa [addT] using h)
  | o :: l, q :: ps, t, k, p, h => by
    simp only [addT] at h
    rcases look_add l ps _ k p h with ⟨j, o', h1, h2, h3⟩ | h'
    · exact .inl ⟨j + 1, o', by simpa using h1, h2, by simpa using h3⟩
    · cases hd : o.dst with
      | none => rw [hd] at h'; exact .inr h'
      | some d =>
        rw [hd] at h'
        simp only [look] at h'
        rw [Bool.cond_eq_ite] at h'
        split at h'
        · rename_i he
          have := Nat.eq_of_beq_eq_true he
          subst this
          cases h'
          exact .inl ⟨0, o, rfl, hd, rfl⟩
        · exact .inr h'
section
variable {F : Nat → Prop} {base : Nat} {E : Env} {σ : Sto} {t : Tms} {l : List Oper} {ps : List PV} {fl : List Bool} {f m : Nat}
/-- What holds while the first operations are carried out. -/
structure Going (N m : Nat) (l : List Oper) (ps : List PV) (E : Env) (t : Tms) (w : World) (dn : Nat → Prop) (a : Act) (w' : World) : Prop where
  ext : Ext w w'
  dfr : a.defers = []
  size : a.tmps.size = N
  t0 : RepT E w' a.eval t
  got : ∀ j, j < m → dn j → ∀ d p, dstOf l.toArray j = some d → ps[j]? = some p → Rep E w' (a.eval (.tmp d)) p
theorem dst_take {i : Nat} {o : Oper} (h : (l.take m)[i]? = some o) : i < m ∧ l.toArray[i]? = some o ∧ dstOf l.toArray i = o.dst := by
  rw [List.getElem?_take] at h
  split at h
  · rename_i hi
    refine ⟨hi, by simpa using h, ?_⟩
    simp only [dstOf]
    have : l.toArray[i]? = some o := by simpa using h
    rw [this]; rfl
  · cases h
/-- The temporaries that an operation looks at. -/
theorem going_rep {dn : Nat → Prop} {a : Act} {w w' : World} (hg : Going N m l ps E t w dn a w') {i : Nat} (hi : i ≤ m) {ks : List Nat} (hdn : ∀ j k, j < i → k ∈ ks → dstOf l.toArray j = some k → dn j) : RepT E w' a.eval (pickT (addT ((l.take m).take i) (ps.take i) t) ks) := fun k p hk => by
  obtain ⟨h1, h2⟩ := look_pick ks k p hk
  rcases look_add _ _ _ k p h2 with ⟨j, o, h3, h4, h5⟩ | h'
  · rw [List.getElem?_take] at h3
    split at h3
    · rename_i hj
      obtain ⟨hjm, h6, h7⟩ := dst_take h3
      rw [List.getElem?_take, if_pos hj] at h5
      exact hg.got j (by omega) (hdn j k hj h1 (by rw [h7]; exact h4)) k p (by rw [h7]; exact h4) h5
    · cases h3
  · exact hg.t0 k p h'
theorem going_put {dn : Nat → Prop} {a : Act} {w w' w'' : World} (hF : Form l.toArray f m fl) (hfr : ∀ i d, i < m → dstOf l.toArray i = some d → look d t = none) (hg : Going N m l ps E t w dn a w') (hE : Ext w' w'') {i d : Nat} {p : PV} (hi : i < m) (hd : dstOf l.toArray i = some d) (hdN : d < N) (hp : ps[i]? = some p) {v : Value} (hv : Rep E w'' v p) :
    Going N m l ps E t w (fun j => dn j ∨ j = i) (a.put (some d) v) w'' := by
  refine ⟨hg.ext.trans hE, by simpa [Act.put] using hg.dfr, by simpa [Act.put] using hg.size, fun k q hk => ?_, fun j hj hdj d' q hd' hq => ?_⟩
  · have hne : k ≠ d := fun e => by subst e; rw [hfr i k hi hd] at hk; cases hk
    rw [put_eval a (by rw [hg.size]; exact hdN), if_neg hne]
    exact (hg.t0 k q hk).ext hE
  · rw [put_eval a (by rw [hg.size]; exact hdN)]
    by_cases e : j = i
    · subst e
      rw [hd] at hd'; cases hd'
      rw [hp] at hq; cases hq
      rw [if_pos rfl]; exact hv
    · have hne : d' ≠ d := fun e' => by
        subst e'
        rcases Nat.lt_or_ge i j with h' | h'
        · exact hF.ss j i hj h' (by rw [hd, hd'])
        · exact hF.ss i j hi (by omega) (by rw [hd, hd'])
      rw [if_neg hne]
      exact (hg.got j hj (hdj.resolve_right e) d' q hd' hq).ext hE
theorem Going.mono {dn dn' : Nat → Prop} {a : Act} {w w' : World} (h : Going N m l ps E t w dn a w') (hd : ∀ j, j < m → dn' j → dn j) : Going N m l ps E t w dn' a w' := ⟨h.ext, h.dfr, h.size, h.t0, fun j hj hj' => h.got j hj (hd j hj hj')⟩
/-- The late operations are thought to be carried out. -/
theorem handover (hF : Form l.toArray f m fl) (hml : m ≤ l.length) (hfr : ∀ i d, i < m → dstOf l.toArray i = some d → look d t = none) (hc : ChainF P N l.toArray σ (l.take m) ps fl t) {ls : Array Bool} {a : Act} {w w' : World} (hg : Going N m l ps E t w (fun j => ls.getD j true = true) a w') (hall : ∀ i, i < m → fl.getD i false = false → ls.getD i true = true) :
    ∃ a₁, Agree l.toArray m fl ls a a₁ ∧ Going N m l ps E t w (fun _ => True) a₁ w' := by
  obtain ⟨hl1, hl2, hdat⟩ := hc.data
  have hlen : (l.take m).length = m := by simp; omega
  have key : ∀ q, q ≤ m → ∃ b, Agree l.toArray m fl ls a b ∧ Going N m l ps E t w (fun j => ls.getD j true = true ∨ j < q) b w' := by
    intro q
    induction q with
    | zero => intro _; exact ⟨a, ⟨rfl, rfl, fun _ _ => rfl⟩, hg.mono fun j _ h => h.resolve_right (by omega)⟩
    | succ q ih =>
      intro hq
      obtain ⟨b, hag, hgb⟩ := ih (by omega)
      cases hb : ls.getD q true with
      | true => exact ⟨b, hag, hgb.mono fun j _ h => by
          rcases h with h | h
          · exact .inl h
          · by_cases e : j = q
            · subst e; exact .inl hb
            · exact .inr (by omega)⟩
      | false =>
        have hfq : fl.getD q false = true := by
          cases hf : fl.getD q false with
          | true => rfl
          | false => rw [hall q (by omega) hf] at hb; cases hb
        have ho : (l.take m)[q]? = some ((l.take m)[q]'(by omega)) := List.getElem?_eq_getElem (by omega)
        obtain ⟨_, hoq, hdq⟩ := dst_take ho
        have hpq : ps[q]? = some (ps[q]'(by omega)) := by simp
        have hff : fl[q]? = some true := by
          have : q < fl.length := by rw [hl2, hlen]; omega
          simp [this] at hfq ⊢; exact hfq
        have D := hdat q _ _ _ ho hpq hff
        obtain ⟨d, hd, hdN⟩ := D.dst
        obtain ⟨_, ks, hks, hR⟩ := D.r rfl
        have hrep := going_rep hgb (i := q) (by omega) (ks := ks) (fun j k hj _ _ => .inr hj)
        obtain ⟨v, _, hv⟩ := hR E b.eval w' (isEval b) hrep
        have hdd : dstOf l.toArray q = some d := by rw [hdq]; exact hd
        refine ⟨b.put (some d) v, ⟨by simpa [Act.put] using hag.dfr, by simpa [Act.put] using hag.size, fun k hk => ?_⟩, (going_put hF hfr hgb (Ext.refl _) (by omega) hdd hdN hpq hv).mono fun j _ h => ?_⟩
        · have hne : k ≠ d := fun e => hk q (by omega) hfq hb (by rw [hdd, e])
          rw [put_eval b (by rw [hgb.size]; exact hdN), if_neg hne]
          exact hag.tmp k hk
        · rcases h with h | h
          · exact .inl (.inl h)
          · by_cases e : j = q
            · exact .inr e
            · exact .inl (.inr (by omega))
  obtain ⟨b, h1, h2⟩ := key m (Nat.le_refl _)
  exact ⟨b, h1, h2.mono fun j hj _ => .inr hj⟩
theorem fixed_of (hml : m ≤ l.length) (hc : ChainF P N l.toArray σ (l.take m) ps fl t) {a : Act} {w w' : World} (hg : Going N m l ps E t w (fun _ => True) a w') : Fixed P l.toArray m fl a := fun j o d hj hf ho hd w'' => by
  obtain ⟨hl1, hl2, hdat⟩ := hc.data
  have hlen : (l.take m).length = m := by simp; omega
  have hoj : (l.take m)[j]? = some o := by rw [List.getElem?_take, if_pos hj]; simpa using ho
  have hpj : ps[j]? = some (ps[j]'(by omega)) := by simp
  have hff : fl[j]? = some true := by
    have : j < fl.length := by rw [hl2, hlen]; omega
    simp [this] at hf ⊢; exact hf
  have D := hdat j _ _ _ hoj hpj hff
  obtain ⟨hfix, ks, hks, hR⟩ := D.r rfl
  have hrep := going_rep hg (i := j) (by omega) (ks := ks) (fun _ _ _ _ _ => trivial)
  obtain ⟨v, hrun, hv⟩ := hR E a.eval w' (isEval a) hrep
  have hdd : dstOf l.toArray j = some d := by rw [(dst_take hoj).2.2]; exact hd
  have := hfix.det E w' _ _ (hg.got j hj trivial d _ hdd hpj) hv
  rw [this]; exact hrun w''
end
theorem W_drawFlt {id : Nat} {l : List Oper} {t t' : Tms} {σ : Sto} {Q : Exit → St → Prop} (m f : Nat) {fl : List Bool} {ps : List PV} (hm : P.follows .mixedOrders = true) (hc : ChainF P N l.toArray σ (l.take m) ps fl t) (hB : (fltB l.toArray f m fl && Region.noSelect l.toArray) = true) (hml : Nat.ble m l.length = true)
    (hfr : ((l.take m).all fun o => o.dst.all fun d => (look d t).isNone) = true) (hsub : Sub (addT (l.take m) ps t) t') (hw : WR P N L l.toArray (l.drop m) ⟨t', σ⟩ (fun s => Q .normal s)) : W P N L (.region id l.toArray true) ⟨t, σ⟩ Q := fun F base E₀ w₀ E a w hcm hs => by
  simp only [Bool.and_eq_true] at hB
  have hF := fltB_form hB.1
  have hmle : m ≤ l.length := Nat.ble_eq.mp hml
  obtain ⟨hl1, hl2, hdat⟩ := hc.data
  have hlen : (l.take m).length = m := by simp; omega
  have hfr' : ∀ i d, i < m → dstOf l.toArray i = some d → look d t = none := fun i d hi hd => by
    have ho : (l.take m)[i]? = some ((l.take m)[i]'(by omega)) := List.getElem?_eq_getElem (by omega)
    have := List.all_eq_true.1 hfr _ (List.mem_of_getElem? ho)
    rw [(dst_take ho).2.2] at hd
    rw [hd] at this
    simpa using this
  have hdst : ∀ i, i < m → ∃ d, dstOf l.toArray i = some d ∧ d < N := fun i hi => by
    have ho : (l.take m)[i]? = some ((l.take m)[i]'(by omega)) := List.getElem?_eq_getElem (by omega)
    have hp : ps[i]? = some (ps[i]'(by omega)) := by simp
    have hf : fl[i]? = some (fl[i]'(by omega)) := by simp
    obtain ⟨d, h1, h2⟩ := (hdat i _ _ _ ho hp hf).dst
    exact ⟨d, by rw [(dst_take ho).2.2]; exact h1, h2⟩
  have hsel : ∀ (i : Nat) (o : Oper), l.toArray[i]? = some o → ∀ cs b, o.op ≠ .select cs b := fun i o ho cs b => Region.noSelect_spec hB.2 i o cs b ho
  have main : ∀ (fuel : Nat) (ls : Array Bool) (a : Act) (w' : World), ls.size = l.toArray.size → (∀ i, m ≤ i → i < l.toArray.size → ls.getD i true = false) → Down l.toArray ls → fuel = unlisted ls m + (l.toArray.size - m) → Going N m l ps E t w (fun j => ls.getD j true = true) a w' →
      wpAny P .any l.toArray (fun e a' w' => Post F base N E₀ w₀ (Q e) a' w') fuel ls a w' := by
    have part1 : ∀ (fuel : Nat) (ls : Array Bool) (a : Act) (w' : World), ls.size = l.toArray.size → (∀ i, m ≤ i → i < l.toArray.size → ls.getD i true = false) → Down l.toArray ls → fuel = unlisted ls m + (l.toArray.size - m) → Going N m l ps E t w (fun j => ls.getD j true = true) a w' →
        (∀ i, i < m → fl.getD i false = false → ls.getD i true = true) → wpAny P .any l.toArray (fun e a' w' => Post F base N E₀ w₀ (Q e) a' w') fuel ls a w' := by
      intro fuel ls a w' hsz hrest hdn hfu hg hall
      obtain ⟨a₁, hag, hg1⟩ := handover hF hmle hfr' hc hg hall
      have hsat : SatSt F base N ⟨t', σ⟩ E a₁ w' := by
        refine ⟨hs.sat.ext hg1.ext, RepT.sub (fun k p hk => ?_) hsub, hg1.dfr, hg1.size⟩
        rcases look_add _ _ _ k p hk with ⟨j, o, h1, h2, h3⟩ | h'
        · obtain ⟨hj, _, h4⟩ := dst_take h1
          exact hg1.got j hj trivial k p (by rw [h4]; exact h2) h3
        · exact hg1.t0 k p h'
      have hops := hw F base E₀ w₀ E a₁ w' (hcm.on (.ext hg1.ext) (Below.ofExt hg1.ext hs.sat.bl)) hsat (OnlyN fun a' w' => Post F base N E₀ w₀ (Q .normal) a' w') m (fun a' w' hp => hp) (fun j => by simp)
      refine late_any hF hsel (fun j hj => (hdst j hj).imp fun _ h => h.1) (fun a w h => h) fuel m (l.toArray.size - m) ls a a₁ w' (by have := hF.le; omega) (Nat.le_refl _) hsz hrest (fun i h1 h2 => by omega) hall hdn hfu hag (fixed_of hmle hc hg1) (fun j d hj hd => ?_) (by simpa using hops)
      obtain ⟨d', h1, h2⟩ := hdst j hj
      rw [hd] at h1; cases h1
      rw [hg1.size]; exact h2
    intro fuel
    induction fuel with
    | zero =>
      intro ls a w' hsz hrest hdn hfu hg
      exact part1 0 ls a w' hsz hrest hdn hfu hg (fun i hi _ => unlisted_zero (m := m) (by omega) i hi)
    | succ fuel ih =>
      intro ls a w' hsz hrest hdn hfu hg
      by_cases hall : ∀ i, i < m → fl.getD i false = false → ls.getD i true = true
      · exact part1 (fuel + 1) ls a w' hsz hrest hdn hfu hg hall
      · have hle := hF.le
        obtain ⟨j0, hj0, hj1, hj2⟩ : ∃ j0, j0 < m ∧ fl.getD j0 false = false ∧ ls.getD j0 true = false := by
          apply Classical.byContradiction
          intro hno
          refine hall fun i hi hf => ?_
          cases hb : ls.getD i true with
          | true => rfl
          | false => exact absurd ⟨i, hi, hf, hb⟩ hno
        have hf : ∀ b c (i : Nat), i < l.toArray.size → ls.getD i b = ls.getD i c := fun b c i hi => by simp only [Array.getD_eq_getD_getElem?]; simp [show i < ls.size by omega]
        have hpos : 0 < unlisted ls m := by
          rcases Nat.eq_zero_or_pos (unlisted ls m) with h | h
          · rw [unlisted_zero h j0 hj0] at hj2; cases hj2
          · exact h
        obtain ⟨i0, hi0, hi1, hi2⟩ := unlisted_pos hpos
        have hne : i0 ∈ Region.ready .any l.toArray ls := ready_iff.2 ⟨by omega, hi1, fun k hk => by
          have := hF.aft i0 (by omega) k hk
          rw [hf false true k (by omega)]; exact hi2 k this⟩
        refine ⟨fun h0 => absurd hne (by rw [h0]; simp), fun i hi => ?_⟩
        obtain ⟨h1, h2, h3⟩ := ready_iff.1 hi
        have him : i < m := by
          rcases Nat.lt_or_ge i m with h' | h'
          · exact h'
          · have := reach_listed hsz hdn hF.aft f i j0 h1 (hF.bar i h1 h' j0 (by omega) hj1) h3
            rw [hf false true j0 (by omega), hj2] at this
            cases this
        have ho : (l.take m)[i]? = some ((l.take m)[i]'(by omega)) := List.getElem?_eq_getElem (by omega)
        obtain ⟨_, hoi, hdi⟩ := dst_take ho
        have hp : ps[i]? = some (ps[i]'(by omega)) := by simp
        have hfi : fl[i]? = some (fl[i]'(by omega)) := by simp
        have D := hdat i _ _ _ ho hp hfi
        obtain ⟨d, hd, hdN⟩ := D.dst
        obtain ⟨ks, hks, hY⟩ := D.y
        have hdd : dstOf l.toArray i = some d := by rw [hdi]; exact hd
        have hrep := going_rep hg (i := i) (by omega) (ks := ks) (fun j k hj hk hjd => by
          have hlk : k ∈ looksOf l.toArray i := by
            unfold looksOf; rw [hoi]; exact hks k hk
          have := h3 j (hF.rd i him k hlk j (by omega) hjd).2
          rw [hf false true j (by omega)] at this
          exact this)
        unfold wpOp
        rw [hoi]
        have hwant : Region.wanted ((l.take m)[i]'(by omega)) (yielded l.toArray a.tmps) = true := by unfold Region.wanted; rw [hF.ng i _ hoi]
        simp only [hwant, if_true]
        left
        refine upon_of (hY F base E a.eval w' (isEval a) (hs.sat.ext hg.ext) hrep) fun v w'' hE hv => ?_
        rw [hd]
        have hset : ∀ (j : Nat) b, (ls.setIfInBounds i true).getD j b = if j = i then true else ls.getD j b := fun j b => by
          by_cases e : i = j
          · subst e; simp [show i < ls.size by omega]
          · rw [if_neg (fun h => e h.symm), Array.getD_eq_getD_getElem?, Array.getD_eq_getD_getElem?, Array.getElem?_setIfInBounds_ne e]
        refine ih _ _ w'' (by simpa using hsz) (fun j hj hj' => by rw [hset j true, if_neg (show ¬ j = i by omega)]; exact hrest j hj hj') (fun j hj hj' q hq => ?_) (by have := unlisted_set h2 him (by omega); omega) ((going_put hF hfr' hg hE him hdd hdN hp hv).mono fun j hj hjj => ?_)
        · rw [hset]
          split
          · rfl
          · rw [hset] at hj
            split at hj
            · rename_i e; subst e; exact h3 q hq
            · exact hdn j hj hj' q hq
        · rw [hset] at hjj
          split at hjj
          · rename_i e; exact .inr e
          · exact .inl hjj
  obtain ⟨arr, ds⟩ := a
  refine wp_region_any hm ?_
  have hE : Ext w { w with drawn := w.drawn + 1 } := ⟨rfl, rfl, rfl, Nat.le_refl _, fun _ _ => rfl⟩
  have hul : ∀ k, k ≤ l.length → unlisted (Array.replicate l.toArray.size false) k = k := by
    intro k
    induction k with
    | zero => intro _; rfl
    | succ k ih =>
      intro hk
      simp only [unlisted]
      rw [ih (by omega), rep_get _ _ (by simp; omega)]
      simp
  refine main l.toArray.size (Array.replicate l.toArray.size false) ⟨arr, ds⟩ _ (by simp) (fun i _ hi => rep_get _ _ hi _) (fun i hi hi' => ?_) (by rw [hul m hmle]; simp; omega) ⟨hE, hs.dfr, hs.size, hs.tmp.goes (.ext hE), fun j hj hjl => ?_⟩
  · rw [rep_get _ _ hi'] at hi; cases hi
  · rw [rep_get _ _ (by simp; omega)] at hjl; cases hjl
theorem W_dfs {id : Nat} {l : List Oper} {y : Code} {t t' : Tms} {σ : Sto} {Q : Exit → St → Prop} (m f : Nat) {fl : List Bool} {ps : List PV} (hm : P.follows .mixedOrders = true) (hc : ChainF P N l.toArray σ (l.take m) ps fl t) (hB : (fltB l.toArray f m fl && Region.noSelect l.toArray) = true) (hml : Nat.ble m l.length = true)
    (hfr : ((l.take m).all fun o => o.dst.all fun d => (look d t).isNone) = true) (hsub : Sub (addT (l.take m) ps t) t') (hw : WR P N L l.toArray (l.drop m) ⟨t', σ⟩ (fun s => W P N L y s Q)) : W P N L (.seq (.region id l.toArray true) y) ⟨t, σ⟩ Q := W_seq (W_drawFlt m f hm hc hB hml hfr hsub hw)
end
end PW
end Go.Proofs.YtkaalpdfppbdeaaDoor
