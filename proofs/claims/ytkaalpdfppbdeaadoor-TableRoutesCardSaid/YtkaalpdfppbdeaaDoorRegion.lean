/- A region that draws its order and whose operations may make new memory, but turn none that is there: one walk of the order of the text, over what each temporary is known to hold, serves every order. Conditions: each operation's result is described by a predicate that new memory does not disturb. -/
import Derived.Deep.Quiet
import Derived.Below
namespace Go.Proofs.YtkaalpdfppbdeaaDoor
namespace Reg
open Go.RowKit

/-- w' has all blocks of w, as they were, and perhaps new ones. -/
def Ext (w w' : World) : Prop := Below w.heap.size w w'
theorem Ext.refl (w : World) : Ext w w := Below.refl _ _
theorem Ext.trans {a b c : World} (h : Ext a b) (k : Ext b c) : Ext a c := Below.trans h (Below.mono k h.size)
theorem Ext.drew {a b : World} (h : Ext a b) : Ext a b.drew := Below.drew h
theorem Ext.alloc {a b : World} (h : Ext a b) (o : Obj) : Ext a (b.alloc o) := Below.alloc h h.size o
theorem Ext.below {a b : World} (h : Ext a b) : Below a.heap.size a b := h
theorem Ext.of {a b : World} (h : Below a.heap.size a b) : Ext a b := h
theorem Ext.lt {w : World} {p : Addr} {v : Value} (h : w.cell? p = some v) : p.block < w.heap.size := by
  rcases Nat.lt_or_ge p.block w.heap.size with h' | h'
  · exact h'
  · simp [World.cell?, Array.getElem?_eq_none h'] at h
theorem Ext.cell {w w' : World} (h : Ext w w') {p : Addr} {v : Value} (hc : w.cell? p = some v) : w'.cell? p = some v := by
  rw [Below.cell h (Ext.lt hc)]; exact hc
theorem Ext.size {a b : World} (h : Ext a b) : a.heap.size ≤ b.heap.size := Below.size h

/-- What a contract says: the call returns a value of which Φ is known, and makes new memory at most. -/
def Ret (Φ : Value → World → Prop) (w : World) (e : Ending) (w' : World) : Prop := ∃ v, e = .returned v ∧ Ext w w' ∧ Φ v w'
theorem ret_same {P : Program} {f : FuncId} {args : Array Value} {w : World} {v : Value} (h : Calls P f args w fun e w' => e = .returned v ∧ w = w') : Calls P f args w (Ret (fun x _ => x = v) w) :=
  h.mono fun _ _ ⟨he, hw⟩ => ⟨v, he, hw ▸ Ext.refl _, rfl⟩
theorem ret_ext {P : Program} {f : FuncId} {args : Array Value} {w : World} {v : Value} (h : Calls P f args w fun e w' => e = .returned v ∧ Ext w w') : Calls P f args w (Ret (fun x _ => x = v) w) :=
  h.mono fun _ _ ⟨he, hw⟩ => ⟨v, he, hw, rfl⟩

/-- What is known of a temporary. -/
abbrev Know := Value → World → Prop
def Mono (Φ : Know) : Prop := ∀ v w w', Ext w w' → Φ v w → Φ v w'
theorem mono_fix (c : Value) : Mono (fun v _ => v = c) := fun _ _ _ _ h => h

def upd (α : Tmp → Know) (d : Option Tmp) (Φ : Know) : Tmp → Know := fun t =>
  match d with
  | some d => bif Nat.beq t d then Φ else α t
  | none => α t
theorem upd_same (α : Tmp → Know) (d : Tmp) (Φ : Know) : upd α (some d) Φ d = Φ := by simp [upd]
theorem upd_ne (α : Tmp → Know) (d : Option Tmp) (Φ : Know) (t : Tmp) (h : ∀ e, d = some e → t ≠ e) : upd α d Φ t = α t := by
  cases d with
  | none => rfl
  | some e =>
    have : Nat.beq t e = false := by
      cases hb : Nat.beq t e with
      | false => rfl
      | true => exact absurd (Nat.eq_of_beq_eq_true hb) (h e rfl)
    simp [upd, this]
theorem upd_comm (α : Tmp → Know) (x y : Option Tmp) (Φ Ψ : Know) (h : ∀ d, x = some d → y ≠ some d) : upd (upd α x Φ) y Ψ = upd (upd α y Ψ) x Φ := by
  funext t
  cases x with
  | none => rfl
  | some d =>
    cases y with
    | none => rfl
    | some e =>
      have hne : d ≠ e := fun he => h d rfl (he ▸ rfl)
      by_cases h1 : t = d
      · subst h1
        rw [upd_same, upd_ne _ _ _ _ (fun e' he => by cases he; exact hne), upd_same]
      · by_cases h2 : t = e
        · subst h2
          rw [upd_same, upd_ne _ _ _ _ (fun e' he => by cases he; exact h1), upd_same]
        · rw [upd_ne _ _ _ _ (fun e' he => by cases he; exact h2), upd_ne _ _ _ _ (fun e' he => by cases he; exact h1), upd_ne _ _ _ _ (fun e' he => by cases he; exact h1), upd_ne _ _ _ _ (fun e' he => by cases he; exact h2)]

/-- What every frame's reading of operands has in common. -/
structure IsEval (ρ : Operand → Value) : Prop where
  const : ∀ v, ρ (.const v) = v
  glob : ∀ g, ρ (.global g) = .pointer (some ⟨g, 0, none⟩)
  func : ∀ f, ρ (.func f) = .func (.func f) #[] #[]
theorem isEval (a : Act) : IsEval a.eval := ⟨fun _ => rfl, fun _ => rfl, fun _ => rfl⟩

/-- A call of a function that the source names. -/
theorem execOp_callR {ρ : Operand → Value} (hf : ∀ f, ρ (.func f) = .func (.func f) #[] #[]) (dst : Option Tmp) (f : FuncId) (xs : Array Operand) (ats : Array TypeId) (ty : TypeId) (pos : String) (after : Array Edge) (guard : Option (Nat × Bool)) :
    execOp ρ { dst, op := .call { callee := .value (.func f), args := xs, argTypes := ats }, type := ty, pos, after, guard } = callFunc f (#[] ++ xs.map ρ ++ #[]) := by
  simp only [execOp, resolve, hf]
  rfl

def boolOf : Value → Option Bool
  | .bool b => some b
  | _ => none
def wantedR (ops : Array Oper) (o : Oper) (ρ : Operand → Value) : Bool :=
  match o.guard with
  | none => true
  | some (j, want) => (match (ops[j]?).bind (·.dst) with | some t => boolOf (ρ (.tmp t)) | none => none) == some want

theorem wantedR_eval (ops : Array Oper) (o : Oper) (a : Act) : Region.wanted o (yielded ops a.tmps) = wantedR ops o a.eval := by
  unfold Region.wanted wantedR
  cases o.guard with
  | none => rfl
  | some g =>
    obtain ⟨j, want⟩ := g
    simp only [yielded]
    cases (ops[j]?).bind (·.dst) with
    | none => rfl
    | some t =>
      simp only [Option.bind_some, Act.eval, Array.getD_eq_getD_getElem?]
      cases a.tmps[t]? with
      | none => rfl
      | some v => cases v <;> rfl

def StepUpon (P : Program) (w : World) (Φ : Know) : Result Next → Prop
  | .ok (.value v) w' => Ext w w' ∧ Φ v w'
  | .ok .skip w' => Ext w w' ∧ Φ undef w'
  | .ok (.enter f args) w' => Ext w w' ∧ Calls P f args w' (Ret Φ w')
  | _ => False
section
variable (P : Program) (w : World) (Φ : Know)
theorem upon_value (v : Value) (w' : World) : StepUpon P w Φ (.ok (.value v) w') = (Ext w w' ∧ Φ v w') := rfl
theorem upon_skip (w' : World) : StepUpon P w Φ (.ok .skip w') = (Ext w w' ∧ Φ undef w') := rfl
theorem upon_enter (f : FuncId) (args : Array Value) (w' : World) : StepUpon P w Φ (.ok (.enter f args) w') = (Ext w w' ∧ Calls P f args w' (Ret Φ w')) := rfl
end

def StepAt (P : Program) (ops : Array Oper) (o : Oper) (ρ : Operand → Value) (w : World) (Φ : Know) : Prop :=
  if wantedR ops o ρ then StepUpon P w Φ ((execOp ρ o).run P w) else Φ undef w

section
variable {P : Program} {ops : Array Oper} {md : Region.Mode} {C : World → Prop}

/-- The operation o, where the temporaries that it looks at are as α says, leaves something of which Φ is known. -/
def Yields (P : Program) (ops : Array Oper) (C : World → Prop) (o : Oper) (Φ : Know) (α : Tmp → Know) : Prop :=
  Mono Φ ∧ ∀ ρ w, IsEval ρ → C w → (∀ t ∈ o.looksAt ops, α t (ρ (.tmp t)) w) → StepAt P ops o ρ w Φ

def wpAbs (P : Program) (ops : Array Oper) (C : World → Prop) (F : (Tmp → Know) → Prop) : List Oper → (Tmp → Know) → Prop
  | [], α => F α
  | o :: rest, α => ∃ Φ, Yields P ops C o Φ α ∧ wpAbs P ops C F rest (upd α o.dst Φ)

def aOp (P : Program) (ops : Array Oper) (C : World → Prop) (i : Nat) (K : (Tmp → Know) → Prop) (α : Tmp → Know) : Prop :=
  match ops[i]? with
  | none => K α
  | some o => ∃ Φ, Yields P ops C o Φ α ∧ K (upd α o.dst Φ)

def wpAnyA (P : Program) (md : Region.Mode) (ops : Array Oper) (C : World → Prop) (F : (Tmp → Know) → Prop) : Nat → Array Bool → (Tmp → Know) → Prop
  | 0, listed, α => Region.ready md ops listed = [] ∧ F α
  | fuel + 1, listed, α =>
    (Region.ready md ops listed = [] → F α) ∧
    ∀ i ∈ Region.ready md ops listed, aOp P ops C i (wpAnyA P md ops C F fuel (listed.setIfInBounds i true)) α

theorem Yields.of_same {o : Oper} {Φ : Know} {α β : Tmp → Know} (h : Yields P ops C o Φ α) (he : ∀ t ∈ o.looksAt ops, β t = α t) : Yields P ops C o Φ β :=
  ⟨h.1, fun ρ w hρ hw hs => h.2 ρ w hρ hw (fun t ht => by rw [← he t ht]; exact hs t ht)⟩

theorem aOp_mono {i : Nat} {α : Tmp → Know} {K K' : (Tmp → Know) → Prop} (h : ∀ α, K α → K' α) (hh : aOp P ops C i K α) : aOp P ops C i K' α := by
  unfold aOp at *
  split
  · exact h _ (by simpa [*] using hh)
  · rename_i o ho
    simp only [ho] at hh
    obtain ⟨Φ, h1, h2⟩ := hh
    exact ⟨Φ, h1, h _ h2⟩

theorem aOp_put {j : Nat} {oi oj : Oper} {Φ : Know} (hj : ops[j]? = some oj) (hap : oi.apart ops oj = true) {K : (Tmp → Know) → Prop} {α : Tmp → Know}
    (hy : Yields P ops C oi Φ α) (h : aOp P ops C j K (upd α oi.dst Φ)) :
    aOp P ops C j (fun β => Yields P ops C oi Φ β ∧ K (upd β oi.dst Φ)) α := by
  obtain ⟨h1, h2, h3⟩ := Oper.apart_spec hap
  unfold aOp at *
  simp only [hj] at *
  obtain ⟨Ψ, hy', hn⟩ := h
  refine ⟨Ψ, hy'.of_same fun t ht => ?_, hy.of_same fun t ht => ?_, ?_⟩
  · exact (upd_ne _ _ _ _ fun e he heq => h1 e he (heq ▸ ht)).symm
  · exact upd_ne _ _ _ _ fun e he heq => h3 e he (heq ▸ ht)
  · rw [← upd_comm α oi.dst oj.dst Φ Ψ h2]; exact hn

theorem wpAnyA_first {F : (Tmp → Know) → Prop} {i : Nat} {oi : Oper} {Φ : Know} (hi : ops[i]? = some oi) :
    ∀ (fuel : Nat) (listed : Array Bool) (α : Tmp → Know),
      (∀ j oj, ops[j]? = some oj → j ≠ i → listed.getD j true = false → (∀ e ∈ oj.after, Region.binds md e = true → e.on ≠ i) → oi.apart ops oj = true) →
      i ∈ Region.ready md ops listed → Yields P ops C oi Φ α →
      wpAnyA P md ops C F fuel (listed.setIfInBounds i true) (upd α oi.dst Φ) → wpAnyA P md ops C F (fuel + 1) listed α := by
  intro fuel
  have own : ∀ {α : Tmp → Know} {K : (Tmp → Know) → Prop}, Yields P ops C oi Φ α → K (upd α oi.dst Φ) → aOp P ops C i K α := fun hy hk => by
    unfold aOp; simp only [hi]; exact ⟨Φ, hy, hk⟩
  induction fuel with
  | zero =>
    intro listed α _ hr hy H
    refine ⟨fun h => (by rw [h] at hr; cases hr), fun j hj => ?_⟩
    by_cases hji : j = i
    · subst hji; exact own hy H
    · have := ready_mono hj hji
      rw [H.1] at this
      cases this
  | succ fuel ih =>
    intro listed α hfree hr hy H
    refine ⟨fun h => (by rw [h] at hr; cases hr), fun j hj => ?_⟩
    by_cases hji : j = i
    · subst hji; exact own hy H
    · have h1 := H.2 j (ready_mono hj hji)
      obtain ⟨hjun, oj, hoj, hall⟩ := mem_ready.1 hj
      have hnot : ∀ e ∈ oj.after, Region.binds md e = true → e.on ≠ i := fun e he hb heq => by
        have h1 := hall e he hb
        have h0 := (mem_ready.1 hr).1
        rw [heq] at h1
        rcases Nat.lt_or_ge i listed.size with h' | h'
        · simp [h'] at h0 h1; rw [h0] at h1; cases h1
        · simp [Array.getElem?_eq_none h'] at h1
      have h2 := aOp_put hoj (hfree j oj hoj hji hjun hnot) hy h1
      have hfree' : ∀ k ok, ops[k]? = some ok → k ≠ i → (listed.setIfInBounds j true).getD k true = false →
          (∀ e ∈ ok.after, Region.binds md e = true → e.on ≠ i) → oi.apart ops ok = true := fun k ok hk hki hun hno => by
        refine hfree k ok hk hki ?_ hno
        by_cases hjk : j = k
        · subst hjk; exact hjun
        · rw [getD_set_ne true hjk] at hun; exact hun
      refine aOp_mono (fun β h3 => ih (listed.setIfInBounds j true) β hfree' (ready_mono hr (Ne.symm hji)) h3.1 ?_) h2
      rw [Array.setIfInBounds_comm _ _ hji]
      exact h3.2

theorem wpAnyA_lex {F : (Tmp → Know) → Prop} : ∀ (l : List Oper) (k : Nat) (listed : Array Bool) (α : Tmp → Know), (∀ j, l[j]? = ops[k + j]?) →
    Region.lexFrom md ops l.length k listed = true → wpAbs P ops C F l α → wpAnyA P md ops C F l.length listed α
  | [], _, _, _, _, hB, h => ⟨by simpa [Region.lexFrom] using hB, h⟩
  | o :: l, k, listed, α, hl, hB, h => by
    have h0 : ops[k]? = some o := by simpa using (hl 0).symm
    simp only [List.length_cons, Region.lexFrom, Bool.and_eq_true] at hB
    obtain ⟨⟨hr, hf⟩, hB'⟩ := hB
    obtain ⟨Φ, hy, hK⟩ := h
    exact wpAnyA_first h0 l.length listed α (Region.free_spec h0 hf) (by simpa using hr) hy
      (wpAnyA_lex l (k + 1) _ _ (fun j => by have := hl (j + 1); simpa [Nat.add_assoc, Nat.add_comm 1 j] using this) hB' hK)

/-- The frame a is as α says, in the world w. -/
def Sat (α : Tmp → Know) (n : Nat) (d : List Deferred) (a : Act) (w : World) : Prop :=
  (∀ t, α t (a.eval (.tmp t)) w) ∧ a.defers = d ∧ a.tmps.size = n

theorem Sat.put {α : Tmp → Know} {n : Nat} {d : List Deferred} {a : Act} {w w' : World} {o : Oper} {Φ : Know} {v : Value} (hα : ∀ t, Mono (α t)) (h : Sat α n d a w) (hE : Ext w w')
    (hd : ∀ e, o.dst = some e → e < n) (hv : Φ v w') : Sat (upd α o.dst Φ) n d (a.put o.dst v) w' := by
  obtain ⟨h1, h2, h3⟩ := h
  cases ho : o.dst with
  | none => exact ⟨fun t => hα t _ _ _ hE (h1 t), h2, h3⟩
  | some e =>
    have hlt := hd e ho
    refine ⟨fun t => ?_, by simpa [Act.put] using h2, by simpa [Act.put] using h3⟩
    by_cases hte : t = e
    · subst hte
      rw [upd_same]
      have : (a.put (some t) v).eval (.tmp t) = v := by simp [Act.put, Act.eval, h3, hlt]
      rw [this]; exact hv
    · rw [upd_ne _ _ _ _ (fun e' he => by cases he; exact hte), Act.eval_put (fun d' hd' heq => by cases hd'; cases heq; exact hte rfl)]
      exact hα t _ _ _ hE (h1 t)

theorem mono_upd {α : Tmp → Know} (hα : ∀ t, Mono (α t)) (d : Option Tmp) {Φ : Know} (hΦ : Mono Φ) : ∀ t, Mono (upd α d Φ t) := by
  intro t
  cases d with
  | none => exact hα t
  | some e =>
    by_cases h : t = e
    · subst h; rw [upd_same]; exact hΦ
    · rw [upd_ne _ _ _ _ (fun e' he => by cases he; exact h)]; exact hα t

theorem wpOp_of_aOp {n : Nat} {d : List Deferred} (hC : ∀ w w', C w → Ext w w' → C w') (hn : ∀ (i : Nat) (o : Oper), ops[i]? = some o → ∀ e, o.dst = some e → e < n)
    {i : Nat} {α : Tmp → Know} {a : Act} {w : World} {K : (Tmp → Know) → Prop} {K' : Act → World → Prop} {Q : Exit → Act → World → Prop} (hα : ∀ t, Mono (α t)) (hw : C w) (hs : Sat α n d a w)
    (h : ∀ β a w, (∀ t, Mono (β t)) → C w → Sat β n d a w → K β → K' a w) (hh : aOp P ops C i K α) : wpOp P ops Q i K' a w := by
  unfold aOp at hh
  unfold wpOp
  split
  · rename_i ho; simp only [ho] at hh; exact h _ _ _ hα hw hs hh
  · rename_i o ho
    simp only [ho] at hh
    obtain ⟨Φ, hy, hk⟩ := hh
    have hst := hy.2 a.eval w (isEval a) hw (fun t _ => hs.1 t)
    unfold StepAt at hst
    have hm' := mono_upd hα o.dst hy.1
    rw [wantedR_eval]
    split
    · rename_i hwt
      simp only [hwt, if_true] at hst
      left
      unfold Oper.wp
      generalize (execOp a.eval o).run P w = r at *
      cases r with
      | ok x w' =>
        cases x <;> simp only [StepUpon] at hst <;> simp only [Oper.upon]
        case value v => exact h _ _ _ hm' (hC _ _ hw hst.1) (hs.put hα hst.1 (hn i o ho) hst.2) hk
        case skip => exact h _ _ _ hm' (hC _ _ hw hst.1) (hs.put hα hst.1 (hn i o ho) hst.2) hk
        case enter f args =>
          obtain ⟨hE, hc⟩ := hst
          refine hc.mono fun e w'' ⟨v, he, hE', hv⟩ => ?_
          subst he
          exact h _ _ _ hm' (hC _ _ hw (hE.trans hE')) (hs.put hα (hE.trans hE') (hn i o ho) hv) hk
      | halt x w' => simp only [StepUpon] at hst
    · rename_i hwt
      simp only [hwt] at hst
      exact h _ _ _ hm' hw (hs.put hα (Ext.refl _) (hn i o ho) hst) hk

theorem wpAny_of_abs {n : Nat} {d : List Deferred} (hC : ∀ w w', C w → Ext w w' → C w') (hn : ∀ (i : Nat) (o : Oper), ops[i]? = some o → ∀ e, o.dst = some e → e < n)
    {F : (Tmp → Know) → Prop} {Q : Exit → Act → World → Prop} (hF : ∀ β a w, C w → Sat β n d a w → F β → Q .normal a w) : ∀ (fuel : Nat) (listed : Array Bool) (α : Tmp → Know) (a : Act) (w : World),
    (∀ t, Mono (α t)) → C w → Sat α n d a w → wpAnyA P md ops C F fuel listed α → wpAny P md ops Q fuel listed a w
  | 0, _, _, _, _, _, hw, hs, h => ⟨h.1, hF _ _ _ hw hs h.2⟩
  | fuel + 1, _, _, _, _, hα, hw, hs, h => ⟨fun h0 => hF _ _ _ hw hs (h.1 h0), fun i hi => wpOp_of_aOp hC hn hα hw hs (fun β a' w' hβ hw' hs' hk => wpAny_of_abs hC hn hF fuel _ β a' w' hβ hw' hs' hk) (h.2 i hi)⟩

theorem wpAbs_off {F : (Tmp → Know) → Prop} {D : List Tmp} : ∀ (l : List Oper) (α α₀ : Tmp → Know), (∀ t, t ∉ D → α t = α₀ t) → (∀ o ∈ l, ∀ e, o.dst = some e → e ∈ D) → wpAbs P ops C F l α →
    wpAbs P ops C (fun β => F β ∧ ∀ t, t ∉ D → β t = α₀ t) l α
  | [], _, _, h0, _, h => ⟨h, h0⟩
  | o :: l, α, α₀, h0, hD, ⟨Φ, hy, hk⟩ => by
    refine ⟨Φ, hy, wpAbs_off l (upd α o.dst Φ) α₀ (fun t ht => ?_) (fun o' ho' => hD o' (List.mem_cons_of_mem _ ho')) hk⟩
    rw [upd_ne α o.dst Φ t (fun e he heq => ht (by rw [heq]; exact hD o (List.mem_cons_self ..) e he))]
    exact h0 t ht

/-- The rest of the walk, for whatever the temporaries of D hold: each as α says. -/
def wpFin (α : Tmp → Know) (w : World) (k : Array Value → Prop) : List Tmp → Array Value → Prop
  | [], arr => k arr
  | t :: D, arr => ∀ x, α t x w → wpFin α w k D (arr.setIfInBounds t x)

theorem wpFin_get {α : Tmp → Know} {w : World} {k : Array Value → Prop} (b : Array Value) : ∀ (D : List Tmp) (arr : Array Value), arr.size = b.size → (∀ t, t ∉ D → b.getD t undef = arr.getD t undef) → (∀ t, α t (b.getD t undef) w) →
    wpFin α w k D arr → k b
  | [], arr, hz, he, _, h => by
    have : b = arr := by
      apply Array.ext hz.symm
      intro i h1 h2
      have := he i (by simp)
      simpa [h1, h2] using this
    rw [this]; exact h
  | t :: D, arr, hz, he, hα, h => by
    refine wpFin_get b D (arr.setIfInBounds t (b.getD t undef)) (by simpa using hz) (fun s hs => ?_) hα (h _ (hα t))
    by_cases hst : s = t
    · subst hst
      rcases Nat.lt_or_ge s b.size with h' | h'
      · simp [hz, h']
      · simp [Array.getElem?_eq_none h', hz]
    · rw [he s (by simp [hst, hs])]
      simp [Array.getElem?_setIfInBounds_ne (Ne.symm hst)]

/-- THE LAW. -/
theorem wp_region_abs {id : Nat} {Q : Exit → Act → World → Prop} {l : List Oper} {arr : Array Value} {ds : List Deferred} {w : World} (S : World → Prop) (D : List Tmp) (hS : ∀ w w', Ext w w' → S w → S w') (h0 : S w)
    (hm : P.follows .mixedOrders = true) (hB : Region.lexB .any l.toArray = true) (hn : (l.all fun o => o.dst.all fun e => decide (e < arr.size) && D.contains e) = true)
    (h : wpAbs P l.toArray (fun w' => Ext w w' ∧ S w') (fun α => ∀ w', Ext w w' → S w' → wpFin α w' (fun b => Q .normal ⟨b, ds⟩ w') D arr) l (fun t v _ => v = arr.getD t undef)) :
    (Code.region id l.toArray true).wp P Q ⟨arr, ds⟩ w := by
  simp only [Region.lexB, Bool.and_eq_true] at hB
  have hn' : ∀ o ∈ l, ∀ e, o.dst = some e → e < arr.size ∧ e ∈ D := fun o ho e he => by
    have := List.all_eq_true.1 hn o ho
    rw [he] at this
    simpa using this
  have h1 := wpAbs_off (D := D) l _ (fun t v _ => v = arr.getD t undef) (fun _ _ => rfl) (fun o ho e he => (hn' o ho e he).2) h
  have h2 := wpAnyA_lex (md := .any) (ops := l.toArray) l 0 (Array.replicate l.toArray.size false) _ (by simp) (by simpa using hB.2) h1
  have hE : Ext w { w with drawn := w.drawn + 1 } := ⟨rfl, rfl, rfl, Nat.le_refl _, fun _ _ => rfl⟩
  refine wp_region_any hm ?_
  have h3 := wpAny_of_abs (P := P) (ops := l.toArray) (md := .any) (n := arr.size) (d := ds) (Q := Q) (fun w₁ w₂ h12 h13 => ⟨h12.1.trans h13, hS _ _ h13 h12.2⟩)
    (fun i o ho e he => (hn' o (by simpa using Array.mem_of_getElem? ho) e he).1) (fun β a w' hw' hs hF => ?_) l.length _ _ ⟨arr, ds⟩ { w with drawn := w.drawn + 1 } (fun t => mono_fix _) ⟨hE, hS _ _ hE h0⟩ ⟨fun t => rfl, rfl, rfl⟩ h2
  · simpa using h3
  · obtain ⟨hF, hoff⟩ := hF
    obtain ⟨hs1, hs2, hs3⟩ := hs
    obtain ⟨b, dd⟩ := a
    simp only at hs2 hs3
    subst hs2
    refine wpFin_get b D arr hs3.symm (fun t ht => ?_) (fun t => by simpa [Act.eval] using hs1 t) (hF w' hw'.1 hw'.2)
    have := hs1 t
    rw [hoff t ht] at this
    simpa [Act.eval] using this

theorem wpOps_of_abs {n : Nat} {d : List Deferred} (hC : ∀ w w', C w → Ext w w' → C w') (hn : ∀ (i : Nat) (o : Oper), ops[i]? = some o → ∀ e, o.dst = some e → e < n)
    {F : (Tmp → Know) → Prop} {Q : Exit → Act → World → Prop} (hF : ∀ β a w, C w → Sat β n d a w → F β → Q .normal a w) : ∀ (l : List Oper) (k : Nat) (α : Tmp → Know) (a : Act) (w : World), (∀ j, l[j]? = ops[k + j]?) →
    (∀ t, Mono (α t)) → C w → Sat α n d a w → wpAbs P ops C F l α → wpOps P ops Q (List.range' k l.length) a w
  | [], _, _, _, _, _, _, hw, hs, h => hF _ _ _ hw hs h
  | o :: l, k, α, a, w, hl, hα, hw, hs, h => by
    have h0 : ops[k]? = some o := by simpa using (hl 0).symm
    rw [List.length_cons, List.range'_succ, wpOps_cons]
    refine wpOp_of_aOp (K := fun β => wpAbs P ops C F l β) hC hn hα hw hs (fun β a' w' hβ hw' hs' hk => wpOps_of_abs hC hn hF l (k + 1) β a' w' (fun j => by have := hl (j + 1); simpa [Nat.add_assoc, Nat.add_comm 1 j] using this) hβ hw' hs' hk) ?_
    unfold aOp
    simp only [h0]
    exact h

/-- The same for a region in the order of the text. -/
theorem wp_region_seq {id : Nat} {Q : Exit → Act → World → Prop} {l : List Oper} {arr : Array Value} {ds : List Deferred} {w : World} (S : World → Prop) (D : List Tmp) (hS : ∀ w w', Ext w w' → S w → S w') (h0 : S w)
    (hn : (l.all fun o => o.dst.all fun e => decide (e < arr.size) && D.contains e) = true)
    (h : wpAbs P l.toArray (fun w' => Ext w w' ∧ S w') (fun α => ∀ w', Ext w w' → S w' → wpFin α w' (fun b => Q .normal ⟨b, ds⟩ w') D arr) l (fun t v _ => v = arr.getD t undef)) :
    (Code.region id l.toArray false).wp P Q ⟨arr, ds⟩ w := by
  have hn' : ∀ o ∈ l, ∀ e, o.dst = some e → e < arr.size ∧ e ∈ D := fun o ho e he => by
    have := List.all_eq_true.1 hn o ho
    rw [he] at this
    simpa using this
  have h1 := wpAbs_off (D := D) l _ (fun t v _ => v = arr.getD t undef) (fun _ _ => rfl) (fun o ho e he => (hn' o ho e he).2) h
  refine wp_region ?_
  have h3 := wpOps_of_abs (P := P) (ops := l.toArray) (n := arr.size) (d := ds) (Q := Q) (fun w₁ w₂ h12 h13 => ⟨h12.1.trans h13, hS _ _ h13 h12.2⟩)
    (fun i o ho e he => (hn' o (by simpa using Array.mem_of_getElem? ho) e he).1) (fun β a w' hw' hs hF => ?_) l 0 _ ⟨arr, ds⟩ w (by simp) (fun t => mono_fix _) ⟨Ext.refl _, h0⟩ ⟨fun t => rfl, rfl, rfl⟩ h1
  · rw [← List.range_eq_range'] at h3
    simpa using h3
  · obtain ⟨hF, hoff⟩ := hF
    obtain ⟨hs1, hs2, hs3⟩ := hs
    obtain ⟨b, dd⟩ := a
    simp only at hs2 hs3
    subst hs2
    refine wpFin_get b D arr hs3.symm (fun t ht => ?_) (fun t => by simpa [Act.eval] using hs1 t) (hF w' hw'.1 hw'.2)
    have := hs1 t
    rw [hoff t ht] at this
    simpa [Act.eval] using this

theorem wpAbs_nil {F : (Tmp → Know) → Prop} {α : Tmp → Know} (h : F α) : wpAbs P ops C F [] α := h
theorem wpAbs_any {F : (Tmp → Know) → Prop} {o : Oper} {rest : List Oper} {α : Tmp → Know} (Φ : Know) (hm : Mono Φ) (h : ∀ ρ w, IsEval ρ → C w → (∀ t ∈ o.looksAt ops, α t (ρ (.tmp t)) w) → StepAt P ops o ρ w Φ)
    (hr : wpAbs P ops C F rest (upd α o.dst Φ)) : wpAbs P ops C F (o :: rest) α := ⟨Φ, ⟨hm, h⟩, hr⟩
theorem wpAbs_fix {F : (Tmp → Know) → Prop} {o : Oper} {rest : List Oper} {α : Tmp → Know} (c : Value) (h : ∀ ρ w, IsEval ρ → C w → (∀ t ∈ o.looksAt ops, α t (ρ (.tmp t)) w) → StepAt P ops o ρ w (fun v _ => v = c))
    (hr : wpAbs P ops C F rest (upd α o.dst (fun v _ => v = c))) : wpAbs P ops C F (o :: rest) α := ⟨_, ⟨mono_fix c, h⟩, hr⟩
theorem wpAbs_ex {F : (Tmp → Know) → Prop} {o : Oper} {rest : List Oper} {α : Tmp → Know} (h : ∃ c : Value, (∀ ρ w, IsEval ρ → C w → (∀ t ∈ o.looksAt ops, α t (ρ (.tmp t)) w) → StepAt P ops o ρ w (fun v _ => v = c)) ∧
    wpAbs P ops C F rest (upd α o.dst (fun v _ => v = c))) : wpAbs P ops C F (o :: rest) α := by
  obtain ⟨c, h1, h2⟩ := h
  exact wpAbs_fix c h1 h2
theorem of_not_true {e : Bool} (h : (!e) = true) : e = false := by cases e <;> simp_all
theorem of_not_false {e : Bool} (h : (!e) = false) : e = true := by cases e <;> simp_all
theorem of_and {a b : Bool} (h : (a && b) = false) (ha : a = true) : b = false := by cases a <;> cases b <;> simp_all
/-- An operation that is carried out exactly if g holds. -/
theorem wpAbs_exC (g : Bool) {F : (Tmp → Know) → Prop} {o : Oper} {rest : List Oper} {α : Tmp → Know}
    (h : ∃ c : Value, (∀ ρ w, IsEval ρ → C w → (∀ t ∈ o.looksAt ops, α t (ρ (.tmp t)) w) → (g = true → wantedR ops o ρ = true ∧ StepUpon P w (fun v _ => v = c) ((execOp ρ o).run P w)) ∧ (g = false → wantedR ops o ρ = false)) ∧
      wpAbs P ops C F rest (upd α o.dst (fun v _ => v = bif g then c else undef))) : wpAbs P ops C F (o :: rest) α := by
  obtain ⟨c, h1, h2⟩ := h
  refine wpAbs_fix _ (fun ρ w hρ hC hs => ?_) h2
  obtain ⟨h3, h4⟩ := h1 ρ w hρ hC hs
  unfold StepAt
  cases g with
  | true => rw [if_pos (h3 rfl).1]; exact (h3 rfl).2
  | false => rw [if_neg (by rw [h4 rfl]; exact Bool.false_ne_true)]; rfl
theorem wanted_of {o : Oper} {ρ : Operand → Value} {j t : Nat} {b : Bool} (hg : o.guard = some (j, b)) (hj : (ops[j]?).bind (·.dst) = some t) (ht : ρ (.tmp t) = .bool b) : wantedR ops o ρ = true := by
  unfold wantedR; simp only [hg, hj, ht, boolOf, beq_self_eq_true]
theorem unwanted_of {o : Oper} {ρ : Operand → Value} {j t : Nat} {b : Bool} (hg : o.guard = some (j, b)) (hj : (ops[j]?).bind (·.dst) = some t) (ht : ρ (.tmp t) = .bool (!b) ∨ ρ (.tmp t) = undef) : wantedR ops o ρ = false := by
  unfold wantedR
  rcases ht with ht | ht
  · simp only [hg, hj, ht, boolOf]; cases b <;> rfl
  · simp only [hg, hj, ht]; rfl
theorem wpFin_fix {α : Tmp → Know} {w : World} {k : Array Value → Prop} {t : Tmp} {D : List Tmp} {arr : Array Value} (c : Value) (he : α t = fun v _ => v = c) (h : wpFin α w k D (arr.setIfInBounds t c)) : wpFin α w k (t :: D) arr := by
  intro x hx
  rw [he] at hx
  subst hx
  exact h
theorem wpFin_drop {α : Tmp → Know} {w : World} {k : Array Value → Prop} {t : Tmp} {D : List Tmp} {arr : Array Value} (h : ∀ x, wpFin α w k D (arr.setIfInBounds t x)) : wpFin α w k (t :: D) arr := fun x _ => h x
theorem wpFin_any {α : Tmp → Know} {w : World} {k : Array Value → Prop} {t : Tmp} {D : List Tmp} {arr : Array Value} (h : ∀ x, α t x w → wpFin α w k D (arr.setIfInBounds t x)) : wpFin α w k (t :: D) arr := h

/-- An operation without a guard. -/
theorem step_plain {o : Oper} {ρ : Operand → Value} {w : World} {Φ : Know} (hg : o.guard = none) (h : StepUpon P w Φ ((execOp ρ o).run P w)) : StepAt P ops o ρ w Φ := by
  unfold StepAt wantedR; rw [hg]; exact h
/-- An operation whose guard is met. -/
theorem step_want {o : Oper} {ρ : Operand → Value} {w : World} {Φ : Know} {j t : Nat} {b : Bool} (hg : o.guard = some (j, b)) (hj : (ops[j]?).bind (·.dst) = some t) (ht : ρ (.tmp t) = .bool b) (h : StepUpon P w Φ ((execOp ρ o).run P w)) : StepAt P ops o ρ w Φ := by
  unfold StepAt wantedR; simp only [hg, hj, ht, boolOf, beq_self_eq_true, if_true]; exact h
/-- An operation whose guard is not met. -/
theorem step_skip {o : Oper} {ρ : Operand → Value} {w : World} {Φ : Know} {j t : Nat} {b : Bool} (hg : o.guard = some (j, b)) (hj : (ops[j]?).bind (·.dst) = some t) (ht : ρ (.tmp t) = .bool (!b)) (h : Φ undef w) : StepAt P ops o ρ w Φ := by
  unfold StepAt wantedR; simp only [hg, hj, ht, boolOf]
  cases b <;> exact h
end
end Reg
end Go.Proofs.YtkaalpdfppbdeaaDoor
