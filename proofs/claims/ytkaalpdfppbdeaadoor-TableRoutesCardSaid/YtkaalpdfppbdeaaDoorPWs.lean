/- Pure walks, fourth part: states, regions, code and calls. No program in sight. -/
import Derived.Test.YtkaalpdfppbdeaaDoorPWr
import Derived.Deep.LoopGhost
namespace Go.Proofs.YtkaalpdfppbdeaaDoor
namespace PW
open Go.RowKit Reg Mem

structure St where
  t : Tms
  σ : Sto
structure SatSt (F : Nat → Prop) (base N : Nat) (st : St) (E : Env) (a : Act) (w : World) : Prop where
  sat : Sat F base st.σ E w
  tmp : RepT E w a.eval st.t
  dfr : a.defers = []
  size : a.tmps.size = N
/-- From E, w on: some state of which K is known. -/
def Post (F : Nat → Prop) (base N : Nat) (E : Env) (w : World) (K : St → Prop) (a' : Act) (w' : World) : Prop :=
  ∃ st' E', K st' ∧ SatSt F base N st' E' a' w' ∧ Goes E w E' w' ∧ Below base w w'
theorem Below.ofExt {base : Nat} {w w' : World} (h : Ext w w') (hb : base ≤ w.heap.size) : Below base w w' := Below.mono h hb
/-- From E₀, w₀ to E, w. -/
structure Came (base L : Nat) (E₀ : Env) (w₀ : World) (E : Env) (w : World) : Prop where
  L : E₀.L = L
  g : Goes E₀ w₀ E w
  b : Below base w₀ w
theorem Came.on {base L : Nat} {E₀ E E' : Env} {w₀ w w' : World} (h : Came base L E₀ w₀ E w) (g : Goes E w E' w') (b : Below base w w') : Came base L E₀ w₀ E' w' := ⟨h.L, h.g.trans g, h.b.trans b⟩

/-- Less is known. -/
def Sub (t t' : Tms) : Prop := ∀ k p', look k t' = some p' → ∃ p, look k t = some p ∧ PLe p p'
theorem Sub.refl (t : Tms) : Sub t t := fun _ p h => ⟨p, h, PLe.refl p⟩
theorem Sub.nil (t : Tms) : Sub t [] := fun k p h => by cases h
theorem Sub.cons {t t' : Tms} {k : Nat} {p : PV} (h : look k t = some p) (hs : Sub t t') : Sub t ((k, p) :: t') := fun j q hj => by
  simp only [look] at hj
  rw [Bool.cond_eq_ite] at hj
  split at hj
  · rename_i he
    have := Nat.eq_of_beq_eq_true he
    subst this
    cases hj
    exact ⟨p, h, PLe.refl p⟩
  · exact hs j q hj
theorem Sub.consLe {t t' : Tms} {k : Nat} {p q : PV} (h : look k t = some p) (hl : PLe p q) (hs : Sub t t') : Sub t ((k, q) :: t') := fun j q' hj => by
  simp only [look] at hj
  rw [Bool.cond_eq_ite] at hj
  split at hj
  · rename_i he
    have := Nat.eq_of_beq_eq_true he
    subst this
    cases hj
    exact ⟨p, h, hl⟩
  · exact hs j q' hj
theorem Sub.skip {t t' : Tms} {k : Nat} {p : PV} (h : look k t' = none) (hs : Sub t t') : Sub ((k, p) :: t) t' := fun j q hj => by
  have hne : j ≠ k := fun e => by subst e; rw [h] at hj; cases hj
  obtain ⟨p', h1, h2⟩ := hs j q hj
  refine ⟨p', ?_, h2⟩
  simp only [look]
  rw [Bool.cond_eq_ite, if_neg (fun e => hne (Nat.eq_of_beq_eq_true e))]
  exact h1
theorem RepT.sub {E : Env} {w : World} {ρ : Operand → Value} {t t' : Tms} (h : RepT E w ρ t) (hs : Sub t t') : RepT E w ρ t' := fun k p hk => by
  obtain ⟨q, h1, h2⟩ := hs k p hk
  exact h2 E w _ (h k q h1)

theorem RepT.put {E : Env} {w : World} {a : Act} {t : Tms} (h : RepT E w a.eval t) {d : Nat} {v : Value} {p : PV} (hv : Rep E w v p) (hd : d < a.tmps.size) : RepT E w (a.put (some d) v).eval ((d, p) :: t) := fun k q hk => by
  simp only [look] at hk
  rw [Bool.cond_eq_ite] at hk
  split at hk
  · rename_i he
    have := Nat.eq_of_beq_eq_true he
    subst this
    cases hk
    have : (a.put (some k) v).eval (.tmp k) = v := by simp [Act.put, Act.eval, hd]
    rw [this]; exact hv
  · rename_i he
    have hne : k ≠ d := fun e => he (by rw [e]; exact Nat.beq_refl d)
    rw [Act.eval_put (fun d' hd' heq => by cases hd'; cases heq; exact hne rfl)]
    exact h k q hk
theorem SatSt.put {F : Nat → Prop} {base N : Nat} {t : Tms} {σ σ' : Sto} {E E' : Env} {a : Act} {w w' : World} (h : SatSt F base N ⟨t, σ⟩ E a w) (hs : Sat F base σ' E' w') (g : Goes E w E' w') {d : Nat} (hd : Nat.blt d N = true) {v : Value} {p : PV} (hv : Rep E' w' v p) : SatSt F base N ⟨(d, p) :: t, σ'⟩ E' (a.put (some d) v) w' :=
  ⟨hs, RepT.put (h.tmp.goes g) hv (by rw [h.size]; exact Nat.blt_eq.mp hd), by simpa [Act.put] using h.dfr, by simpa [Act.put] using h.size⟩
theorem SatSt.put0 {F : Nat → Prop} {base N : Nat} {t : Tms} {σ σ' : Sto} {E E' : Env} {a : Act} {w w' : World} (h : SatSt F base N ⟨t, σ⟩ E a w) (hs : Sat F base σ' E' w') (g : Goes E w E' w') (v : Value) : SatSt F base N ⟨t, σ'⟩ E' (a.put none v) w' :=
  ⟨hs, h.tmp.goes g, h.dfr, h.size⟩

section
variable {P : Program} {N L : Nat} {ops : Array Oper}

/-- The rest of a region in the order of the text. -/
def WR (P : Program) (N L : Nat) (ops : Array Oper) (l : List Oper) (st : St) (K : St → Prop) : Prop :=
  ∀ F base E₀ w₀ E a w, Came base L E₀ w₀ E w → SatSt F base N st E a w → ∀ (Q : Exit → Act → World → Prop) (k : Nat), (∀ a' w', Post F base N E₀ w₀ K a' w' → Q .normal a' w') → (∀ j, l[j]? = ops[k + j]?) → wpOps P ops Q (List.range' k l.length) a w

theorem WR_nil {st : St} {K : St → Prop} (h : K st) : WR P N L ops [] st K := by
  intro F base E₀ w₀ E a w hc hs Q k hQ _
  exact hQ a w ⟨st, E, h, hs, hc.g, hc.b⟩
theorem WR.mono {l : List Oper} {st : St} {K K' : St → Prop} (h : WR P N L ops l st K) (hk : ∀ s, K s → K' s) : WR P N L ops l st K' := by
  intro F base E₀ w₀ E a w hc hs Q k hQ hl
  exact h F base E₀ w₀ E a w hc hs Q k (fun a' w' ⟨s, E', h1, h2⟩ => hQ a' w' ⟨s, E', hk s h1, h2⟩) hl
theorem WR_sub {l : List Oper} {t t' : Tms} {σ : Sto} {K : St → Prop} (hs : Sub t t') (h : WR P N L ops l ⟨t', σ⟩ K) : WR P N L ops l ⟨t, σ⟩ K := by
  intro F base E₀ w₀ E a w hc hst
  exact h F base E₀ w₀ E a w hc ⟨hst.sat, hst.tmp.sub hs, hst.dfr, hst.size⟩

/-- How an operation's guard stands. -/
def wantB (ops : Array Oper) (t : Tms) (o : Oper) : Option Bool :=
  match o.guard with
  | none => some true
  | some (j, want) => match (ops[j]?).bind (·.dst) with
    | some k => match look k t with
      | some (.raw v) => match boolOf v with
        | some b => some (b == want)
        | none => some false
      | _ => none
    | none => none
theorem wantB_spec {E : Env} {w : World} {a : Act} {t : Tms} {o : Oper} {b : Bool} (hT : RepT E w a.eval t) (h : wantB ops t o = some b) : wantedR ops o a.eval = b := by
  unfold wantB at h
  unfold wantedR
  split at h
  · rename_i hg; rw [hg]; cases h; rfl
  · rename_i j want hg
    rw [hg]
    simp only
    split at h
    · rename_i k hk
      simp only [hk]
      split at h
      · rename_i b' hb
        have := hT k _ hb
        generalize a.eval (.tmp k) = z at this
        cases this
        split at h
        · rename_i b'' hb''
          cases h
          simp [hb'']
        · rename_i hb''
          cases h
          simp [hb'']
      · cases h
    · cases h

theorem WR_step {o : Oper} {rest : List Oper} {t : Tms} {σ : Sto} {K : St → Prop} (hw : wantB ops t o = some true)
    (h : ∀ F base E a w, SatSt F base N ⟨t, σ⟩ E a w → ∀ (next : Act → World → Prop) (Q : Exit → Act → World → Prop), (∀ a' w' s E', WR P N L ops rest s K → SatSt F base N s E' a' w' → Goes E w E' w' → Below base w w' → next a' w') → o.wp P a w next Q) :
    WR P N L ops (o :: rest) ⟨t, σ⟩ K := by
  intro F base E₀ w₀ E a w hc hs Q k hQ hl
  have h0 : ops[k]? = some o := by simpa using (hl 0).symm
  rw [List.length_cons, List.range'_succ, wpOps_cons]
  unfold wpOp
  simp only [h0]
  rw [wantedR_eval, wantB_spec hs.tmp hw, if_pos rfl]
  left
  refine h F base E a w hs _ Q (fun a' w' s E' h1 h2 h3 h4 => ?_)
  exact h1 F base E₀ w₀ E' a' w' (hc.on h3 h4) h2 Q (k + 1) hQ (fun j => by have := hl (j + 1); simpa [Nat.add_assoc, Nat.add_comm 1 j] using this)

theorem upon_of {a : Act} {w : World} {o : Oper} {Φ : Know} {next : Act → World → Prop} {Q : Exit → Act → World → Prop} (h : StepUpon P w Φ ((execOp a.eval o).run P w)) (hn : ∀ v w', Ext w w' → Φ v w' → next (a.put o.dst v) w') : o.wp P a w next Q := by
  unfold Oper.wp
  generalize (execOp a.eval o).run P w = r at *
  cases r with
  | ok x w' =>
    cases x <;> simp only [StepUpon] at h <;> simp only [Oper.upon]
    case value v => exact hn _ _ h.1 h.2
    case skip => exact hn _ _ h.1 h.2
    case enter f args =>
      refine h.2.mono fun e w'' ⟨v, he, hE', hv⟩ => ?_
      subst he
      exact hn _ _ (h.1.trans hE') hv
  | halt x w' => simp only [StepUpon] at h

/-- A quiet operation. -/
theorem WR_val {o : Oper} {rest : List Oper} {t : Tms} {σ : Sto} {K : St → Prop} {d : Nat} {p : PV} (hy : Yield P σ t o p) (hd : o.dst = some d) (hw : wantB ops t o = some true) (hN : Nat.blt d N = true) (h : WR P N L ops rest ⟨(d, p) :: t, σ⟩ K) : WR P N L ops (o :: rest) ⟨t, σ⟩ K := by
  refine WR_step hw fun F base E a w hs next Q hn => upon_of (hy F base E a.eval w (isEval a) hs.sat hs.tmp) fun v w' hE hv => hn _ _ _ E h ?_ (.ext hE) (Below.ofExt hE hs.sat.bl)
  rw [hd]
  exact hs.put (hs.sat.ext hE) (.ext hE) hN hv
/-- An operation whose guard is not met. -/
theorem WR_skip {o : Oper} {rest : List Oper} {t : Tms} {σ : Sto} {K : St → Prop} {d : Nat} (hd : o.dst = some d) (hw : wantB ops t o = some false) (hN : Nat.blt d N = true) (h : WR P N L ops rest ⟨(d, .raw undef) :: t, σ⟩ K) : WR P N L ops (o :: rest) ⟨t, σ⟩ K := by
  intro F base E₀ w₀ E a w hc hs Q k hQ hl
  have h0 : ops[k]? = some o := by simpa using (hl 0).symm
  rw [List.length_cons, List.range'_succ, wpOps_cons]
  unfold wpOp
  simp only [h0]
  rw [wantedR_eval, wantB_spec hs.tmp hw, if_neg Bool.false_ne_true]
  refine h F base E₀ w₀ E _ w hc ?_ Q (k + 1) hQ (fun j => by have := hl (j + 1); simpa [Nat.add_assoc, Nat.add_comm 1 j] using this)
  rw [hd]
  exact hs.put hs.sat (Goes.refl _ _) hN (.raw _)
/-- An operation that changes the call's own store. -/
def Loud (P : Program) (σ : Sto) (t : Tms) (o : Oper) (p : PV) (σ' : Sto) : Prop :=
  ∀ F base E ρ w, IsEval ρ → Sat F base σ E w → RepT E w ρ t → ∃ v w' E', ((execOp ρ o).run P w = .ok (.value v) w' ∨ (v = undef ∧ (execOp ρ o).run P w = .ok .skip w')) ∧ Sat F base σ' E' w' ∧ Goes E w E' w' ∧ Below base w w' ∧ Rep E' w' v p
theorem WR_loud {o : Oper} {rest : List Oper} {t : Tms} {σ σ' : Sto} {K : St → Prop} {d : Nat} {p : PV} (hy : Loud P σ t o p σ') (hd : o.dst = some d) (hw : wantB ops t o = some true) (hN : Nat.blt d N = true) (h : WR P N L ops rest ⟨(d, p) :: t, σ'⟩ K) : WR P N L ops (o :: rest) ⟨t, σ⟩ K := by
  refine WR_step hw fun F base E a w hs next Q hn => ?_
  obtain ⟨v, w', E', hr, h1, h2, h3, h4⟩ := hy F base E a.eval w (isEval a) hs.sat hs.tmp
  have hn' := hn (a.put o.dst v) w' _ E' h (by rw [hd]; exact hs.put h1 h2 hN h4) h2 h3
  unfold Oper.wp
  rcases hr with hr | ⟨rfl, hr⟩
  · rw [hr]; exact hn'
  · rw [hr]; exact hn'
theorem WR_loud0 {o : Oper} {rest : List Oper} {t : Tms} {σ σ' : Sto} {K : St → Prop} {p : PV} (hy : Loud P σ t o p σ') (hd : o.dst = none) (hw : wantB ops t o = some true) (h : WR P N L ops rest ⟨t, σ'⟩ K) : WR P N L ops (o :: rest) ⟨t, σ⟩ K := by
  refine WR_step hw fun F base E a w hs next Q hn => ?_
  obtain ⟨v, w', E', hr, h1, h2, h3, h4⟩ := hy F base E a.eval w (isEval a) hs.sat hs.tmp
  have hn' := hn (a.put o.dst v) w' _ E' h (by rw [hd]; exact hs.put0 h1 h2 v) h2 h3
  unfold Oper.wp
  rcases hr with hr | ⟨rfl, hr⟩
  · rw [hr]; exact hn'
  · rw [hr]; exact hn'
/-- A contract of a function that changes its caller's store. -/
def CanS (P : Program) (f : FuncId) (ps : List PV) (σ : Sto) (R : PV → Sto → Prop) : Prop :=
  ∀ F base E w (vs : Array Value), Sat F base σ E w → RepL E w vs.toList ps → Calls P f vs w fun e w' => ∃ v r σ' E', e = .returned v ∧ R r σ' ∧ Sat F base σ' E' w' ∧ Goes E w E' w' ∧ Below base w w' ∧ Rep E' w' v r
theorem WR_callS {o : Oper} {rest : List Oper} {t : Tms} {σ : Sto} {K : St → Prop} {d : Nat} {f : FuncId} {x : Operand} {args : Array Operand} {ats : Array TypeId} {cap ps : List PV} (ho : o.op = .call { callee := .value x, args, argTypes := ats }) (hf : enters P f = true) (hx : evalO t x = some (.func f cap)) (ha : evalL t args.toList = some ps)
    (hd : o.dst = some d) (hw : wantB ops t o = some true) (hN : Nat.blt d N = true) (hc : CanS P f (ps ++ cap) σ (fun r σ' => WR P N L ops rest ⟨(d, r) :: t, σ'⟩ K)) : WR P N L ops (o :: rest) ⟨t, σ⟩ K := by
  refine WR_step hw fun F base E a w hs next Q hn => ?_
  have h1 := evalO_rep (isEval a) hs.tmp hx
  have h2 := evalL_rep (isEval a) hs.tmp ha
  generalize hz : a.eval x = z at h1
  cases h1 with
  | func _ cs _ hl hr =>
    unfold Oper.wp
    rw [run_callValue hf ho hz w]
    simp only [Oper.upon]
    have h3 : RepL E w (args.map a.eval ++ cs).toList (ps ++ cap) := by
      rw [Array.toList_append, Array.toList_map]
      exact h2.append ⟨by simpa using hl, fun i x u k1 k2 => hr i x u (by simpa using k1) k2⟩
    refine (hc F base E w _ hs.sat h3).mono ?_
    rintro e w' ⟨v, r, σ', E', rfl, hR, hS', hG, hB, hv⟩
    exact hn _ _ _ E' hR (by rw [hd]; exact hs.put hS' hG hN hv) hG hB

/-- A region of quiet operations, whatever its order. -/
inductive Chain (P : Program) (N : Nat) (ops : Array Oper) (σ : Sto) : List Oper → Tms → Tms → Prop
  | nil {t t' : Tms} : Sub t t' → Chain P N ops σ [] t t'
  | val {o : Oper} {rest : List Oper} {t t' : Tms} {d : Nat} {p : PV} : Yield P σ t o p → o.dst = some d → wantB ops t o = some true → Nat.blt d N = true → Chain P N ops σ rest ((d, p) :: t) t' → Chain P N ops σ (o :: rest) t t'
  | skip {o : Oper} {rest : List Oper} {t t' : Tms} {d : Nat} : o.dst = some d → wantB ops t o = some false → Nat.blt d N = true → Chain P N ops σ rest ((d, .raw undef) :: t) t' → Chain P N ops σ (o :: rest) t t'
  | le {l : List Oper} {t u t' : Tms} : Sub t u → Chain P N ops σ l u t' → Chain P N ops σ l t t'
theorem Chain.wr {σ : Sto} {l : List Oper} {t t' : Tms} (h : Chain P N ops σ l t t') {K : St → Prop} (hk : K ⟨t', σ⟩) : WR P N L ops l ⟨t, σ⟩ K := by
  induction h with
  | nil hs => exact WR_sub hs (WR_nil hk)
  | val hy hd hw hN _ ih => exact WR_val hy hd hw hN (ih hk)
  | skip hd hw hN _ ih => exact WR_skip hd hw hN (ih hk)
  | le hs _ ih => exact WR_sub hs (ih hk)

/-- Code. -/
def W (P : Program) (N L : Nat) (c : Code) (st : St) (Q : Exit → St → Prop) : Prop :=
  ∀ F base E₀ w₀ E a w, Came base L E₀ w₀ E w → SatSt F base N st E a w → c.wp P (fun e a' w' => Post F base N E₀ w₀ (Q e) a' w') a w
theorem W.mono {c : Code} {st : St} {Q Q' : Exit → St → Prop} (h : W P N L c st Q) (hq : ∀ e s, Q e s → Q' e s) : W P N L c st Q' := fun F base E₀ w₀ E a w hc hs =>
  wp_mono (h F base E₀ w₀ E a w hc hs) fun e _ _ ⟨s, E', h1, h2⟩ => ⟨s, E', hq e s h1, h2⟩
theorem W_sub {c : Code} {t t' : Tms} {σ : Sto} {Q : Exit → St → Prop} (hs : Sub t t') (h : W P N L c ⟨t', σ⟩ Q) : W P N L c ⟨t, σ⟩ Q := fun F base E₀ w₀ E a w hc hst =>
  h F base E₀ w₀ E a w hc ⟨hst.sat, hst.tmp.sub hs, hst.dfr, hst.size⟩
theorem W_skip {st : St} {Q : Exit → St → Prop} (h : Q .normal st) : W P N L .skip st Q := fun _ _ _ _ E _ _ hc hs => wp_skip ⟨st, E, h, hs, hc.g, hc.b⟩
theorem W_ret {st : St} {Q : Exit → St → Prop} (h : Q .ret st) : W P N L .ret st Q := fun _ _ _ _ E _ _ hc hs => wp_ret ⟨st, E, h, hs, hc.g, hc.b⟩
theorem W_exit {id : Nat} {st : St} {Q : Exit → St → Prop} (h : Q (.exit id) st) : W P N L (.exit id) st Q := fun _ _ _ _ E _ _ hc hs => wp_exit ⟨st, E, h, hs, hc.g, hc.b⟩
def thenQ (K : St → Prop) (Q : Exit → St → Prop) : Exit → St → Prop
  | .normal, s => K s
  | e, s => Q e s
theorem W_seq {x y : Code} {st : St} {Q : Exit → St → Prop} (h : W P N L x st (thenQ (fun s => W P N L y s Q) Q)) : W P N L (.seq x y) st Q := fun F base E₀ w₀ E a w hc hs => by
  refine wp_seq (wp_mono (h F base E₀ w₀ E a w hc hs) fun e a' w' ⟨s, E', h1, h2, h3, h4⟩ => ?_)
  cases e
  case normal => exact h1 F base E₀ w₀ E' a' w' ⟨hc.L, h3, h4⟩ h2
  all_goals exact ⟨s, E', h1, h2, h3, h4⟩
theorem W_cond {k : Nat} {x y : Code} {st : St} {Q : Exit → St → Prop} {b : Bool} (hc : look k st.t = some (.raw (.bool b))) (ht : b = true → W P N L x st Q) (hf : b = false → W P N L y st Q) : W P N L (.cond (.tmp k) x y) st Q := fun F base E₀ w₀ E a w hcm hs => by
  have h1 := hs.tmp k _ hc
  generalize hz : a.eval (.tmp k) = z at h1
  cases h1
  exact wp_cond_split hz (fun h => ht h F base E₀ w₀ E a w hcm hs) (fun h => hf h F base E₀ w₀ E a w hcm hs)
theorem W_condT {k : Nat} {x y : Code} {st : St} {Q : Exit → St → Prop} (hc : look k st.t = some (.raw (.bool true))) (ht : W P N L x st Q) : W P N L (.cond (.tmp k) x y) st Q := W_cond hc (fun _ => ht) (fun h => by cases h)
theorem W_condF {k : Nat} {x y : Code} {st : St} {Q : Exit → St → Prop} (hc : look k st.t = some (.raw (.bool false))) (hf : W P N L y st Q) : W P N L (.cond (.tmp k) x y) st Q := W_cond hc (fun h => by cases h) (fun _ => hf)
def blockQ (id : Nat) (Q : Exit → St → Prop) : Exit → St → Prop
  | .exit j, s => bif Nat.beq j id then Q .normal s else Q (.exit j) s
  | e, s => Q e s
theorem W_block {id : Nat} {c : Code} {st : St} {Q : Exit → St → Prop} (h : W P N L c st (blockQ id Q)) : W P N L (.block id c) st Q := fun F base E₀ w₀ E a w hc hs => by
  refine wp_block (wp_mono (h F base E₀ w₀ E a w hc hs) fun e a' w' ⟨s, E', h1, h2⟩ => ?_)
  cases e with
  | exit j =>
    simp only [blockQ] at h1
    rw [Bool.cond_eq_ite] at h1
    simp only [Exit.inBlock]
    split at h1
    · rename_i hj; rw [if_pos (Nat.eq_of_beq_eq_true hj)]; exact ⟨s, E', h1, h2⟩
    · rename_i hj; rw [if_neg (fun e => hj (by rw [e]; exact Nat.beq_refl id))]; exact ⟨s, E', h1, h2⟩
  | normal => exact ⟨s, E', h1, h2⟩
  | goto _ => exact ⟨s, E', h1, h2⟩
  | ret => exact ⟨s, E', h1, h2⟩
  | panic _ => exact ⟨s, E', h1, h2⟩
  | outgrown => exact ⟨s, E', h1, h2⟩
/-- A loop: I n: what holds at its head, n rounds at most ahead. -/
theorem W_loop {c : Code} {st : St} {Q : Exit → St → Prop} (I : Nat → St → Prop) (n₀ : Nat) (h₀ : I n₀ st) (round : ∀ n s, I n s → W P N L c s (thenQ (fun s' => ∃ m, m < n ∧ I m s') Q)) : W P N L (.loop c) st Q := fun F base E₀ w₀ E a w hc hs => by
  refine wp_loop_ghost (fun n a' w' => Post F base N E₀ w₀ (I n) a' w') n₀ ⟨st, E, h₀, hs, hc.g, hc.b⟩ ?_
  rintro n a' w' ⟨s, E', h1, h2, h3, h4⟩
  refine wp_mono (round n s h1 F base E₀ w₀ E' a' w' ⟨hc.L, h3, h4⟩ h2) ?_
  rintro e a'' w'' ⟨s', E'', k1, k2⟩
  cases e
  case normal =>
    obtain ⟨m, hm, hI⟩ := k1
    exact ⟨m, hm, s', E'', hI, k2⟩
  all_goals exact ⟨s', E'', k1, k2⟩
theorem W_region {id : Nat} {l : List Oper} {st : St} {Q : Exit → St → Prop} (h : WR P N L l.toArray l st (fun s => Q .normal s)) : W P N L (.region id l.toArray false) st Q := fun F base E₀ w₀ E a w hc hs => by
  refine wp_region ?_
  have := h F base E₀ w₀ E a w hc hs (fun e a' w' => Post F base N E₀ w₀ (Q e) a' w') 0 (fun a' w' hp => hp) (fun j => by simp)
  rw [← List.range_eq_range'] at this
  simpa using this
/-- A region, and what follows. -/
theorem W_rs {id : Nat} {l : List Oper} {y : Code} {st : St} {Q : Exit → St → Prop} (h : WR P N L l.toArray l st (fun s => W P N L y s Q)) : W P N L (.seq (.region id l.toArray false) y) st Q := W_seq (W_region h)
theorem W_cs {id : Nat} {l : List Oper} {y : Code} {t t' : Tms} {σ : Sto} {Q : Exit → St → Prop} (h : Chain P N l.toArray σ l t t') (hq : W P N L y ⟨t', σ⟩ Q) : W P N L (.seq (.region id l.toArray false) y) ⟨t, σ⟩ Q := W_rs (h.wr hq)
theorem W_csB {id : Nat} {l : List Oper} {y : Code} {t : Tms} {σ : Sto} {Q : Exit → St → Prop} (k : Nat) (p : PV) (h : Chain P N l.toArray σ l t ((k, p) :: t)) (hq : W P N L y ⟨(k, p) :: t, σ⟩ Q) : W P N L (.seq (.region id l.toArray false) y) ⟨t, σ⟩ Q := W_cs h hq
theorem W_chain {id : Nat} {l : List Oper} {t t' : Tms} {σ : Sto} {Q : Exit → St → Prop} (h : Chain P N l.toArray σ l t t') (hq : Q .normal ⟨t', σ⟩) : W P N L (.region id l.toArray false) ⟨t, σ⟩ Q := W_region (h.wr hq)

theorem W_chainB {id : Nat} {l : List Oper} {t : Tms} {σ : Sto} {Q : Exit → St → Prop} (k : Nat) (p : PV) (h : Chain P N l.toArray σ l t ((k, p) :: t)) (hq : Q .normal ⟨(k, p) :: t, σ⟩) : W P N L (.region id l.toArray false) ⟨t, σ⟩ Q := W_chain h hq

/-- Other numbers for the blocks of the store: fs: the old ones. -/
inductive Ren (fs : List Nat) : PV → PV → Prop
  | pure {p : PV} [IsPure p] : Ren fs p p
  | any {p : PV} : Ren fs .any p
  | own {i j : Nat} : fs[i]? = some j → Ren fs (.own i) (.own j)
  | ptr {i j k : Nat} : fs[i]? = some j → Ren fs (.ptr i k) (.ptr j k)
  | agg {xs ys : List PV} (hl : ys.length = xs.length) (hs : ∀ (j : Nat) x y, xs[j]? = some x → ys[j]? = some y → Ren fs x y) : Ren fs (.agg xs) (.agg ys)
  | tuple {xs ys : List PV} (hl : ys.length = xs.length) (hs : ∀ (j : Nat) x y, xs[j]? = some x → ys[j]? = some y → Ren fs x y) : Ren fs (.tuple xs) (.tuple ys)
def RenL (fs : List Nat) (xs ys : List PV) : Prop := ys.length = xs.length ∧ ∀ (j : Nat) x y, xs[j]? = some x → ys[j]? = some y → Ren fs x y
theorem RenL.nil {fs : List Nat} : RenL fs [] [] := ⟨rfl, fun j x y h => by simp at h⟩
theorem RenL.cons {fs : List Nat} {x y : PV} {xs ys : List PV} (h : Ren fs x y) (hs : RenL fs xs ys) : RenL fs (x :: xs) (y :: ys) := ⟨by simp [hs.1], fun j a b h1 h2 => by
  cases j with
  | zero => simp at h1 h2; subst h1; subst h2; exact h
  | succ j => exact hs.2 j a b (by simpa using h1) (by simpa using h2)⟩
theorem RenL.pure {fs : List Nat} {xs : List PV} [h : IsPureL xs] : RenL fs xs xs := ⟨rfl, fun j x y h1 h2 => by
  rw [h1] at h2; cases h2
  haveI := h.out j x h1
  exact Ren.pure⟩
theorem Ren.aggL {fs : List Nat} {xs ys : List PV} (h : RenL fs xs ys) : Ren fs (.agg xs) (.agg ys) := .agg h.1 h.2
def Env.ren (E : Env) (fs : List Nat) (M : Nat → Prop) : Env := ⟨fs.length, fun i => E.at_ (fs.getD i 0), M⟩
theorem Ren.rep {E : Env} {w : World} {fs : List Nat} {M : Nat → Prop} (hM : ∀ b, M b → E.M b) {p q : PV} (h : Ren fs p q) : ∀ v, Rep E w v q → Rep (E.ren fs M) w v p := by
  induction h with
  | @pure p hp =>
    intro v h
    have := hp.out E M w v hM h
    exact this.goes (E := EF M) (E' := E.ren fs M) (w := w) (w' := w) ⟨Nat.zero_le _, fun i hi => absurd hi (Nat.not_lt_zero i), fun _ _ h => h, Nat.le_refl _, fun _ _ _ => rfl⟩
  | any => intro v _; exact .any v
  | @own i j hij =>
    intro v h
    cases h with
    | own _ hi _ h hs => exact .own i (List.getElem?_eq_some_iff.1 hij).1 v (by simp [Env.ren, List.getD_eq_getElem?_getD, hij, h]) hs
  | @ptr i j k hij =>
    intro v h
    cases h with
    | ptr _ _ b hi h => exact .ptr i k b (List.getElem?_eq_some_iff.1 hij).1 (by simpa [Env.ren, List.getD_eq_getElem?_getD, hij] using h)
  | @agg xs ys hl _ ih =>
    intro v h
    cases h with
    | agg cs _ hl' hr => exact .agg cs xs (hl'.trans hl) (fun j c u h1 h2 => by
        have hj : j < ys.length := by rw [hl]; exact (List.getElem?_eq_some_iff.1 h2).1
        exact ih j u ys[j] h2 (by simp [hj]) c (hr j c _ h1 (by simp [hj])))
  | @tuple xs ys hl _ ih =>
    intro v h
    cases h with
    | tuple cs _ hl' hr => exact .tuple cs xs (hl'.trans hl) (fun j c u h1 h2 => by
        have hj : j < ys.length := by rw [hl]; exact (List.getElem?_eq_some_iff.1 h2).1
        exact ih j u ys[j] h2 (by simp [hj]) c (hr j c _ h1 (by simp [hj])))
inductive BRen (fs : List Nat) : Blk → Blk → Prop
  | cells {ty : TypeId} {xs ys : List PV} : RenL fs xs ys → BRen fs (.cells ty xs) (.cells ty ys)
  | row {e s n : Nat} {xs ys : List PV} : RenL fs xs ys → BRen fs (.row e s n xs) (.row e s n ys)
  | rowP {e s n n' : Nat} {xs ys : List PV} (hn : n' = n) (h : ys = xs) [IsPureL xs] : BRen fs (.row e s n xs) (.row e s n' ys)
/-- The store with other numbers: σ' from σ. -/
inductive SRen (fs : List Nat) (σ : Sto) : Sto → List Nat → Prop
  | nil : SRen fs σ [] []
  | gone {σ' : Sto} {js : List Nat} {j : Nat} : SRen fs σ σ' js → SRen fs σ (none :: σ') (j :: js)
  | kept {σ' : Sto} {js : List Nat} {j : Nat} {b b' : Blk} : σ[j]? = some (some b) → BRen fs b' b → SRen fs σ σ' js → SRen fs σ (some b' :: σ') (j :: js)
theorem SRen.get {fs : List Nat} {σ σ' : Sto} {js : List Nat} (h : SRen fs σ σ' js) : σ'.length = js.length ∧ ∀ (i : Nat) b', σ'[i]? = some (some b') → ∃ j b, js[i]? = some j ∧ σ[j]? = some (some b) ∧ BRen fs b' b := by
  induction h with
  | nil => exact ⟨rfl, fun i b' h => by simp at h⟩
  | gone _ ih => exact ⟨by simp [ih.1], fun i b' h => by
      cases i with
      | zero => simp at h
      | succ i => simpa using ih.2 i b' (by simpa using h)⟩
  | @kept σ' js j b b' h1 h2 _ ih => exact ⟨by simp [ih.1], fun i b'' h => by
      cases i with
      | zero => simp at h; subst h; exact ⟨j, b, rfl, h1, h2⟩
      | succ i => simpa using ih.2 i b'' (by simpa using h)⟩
theorem RenL.rep {E : Env} {w : World} {fs : List Nat} {M : Nat → Prop} (hM : ∀ b, M b → E.M b) {xs ys : List PV} (h : RenL fs xs ys) {cs : List Value} (hs : RepL E w cs ys) : RepL (E.ren fs M) w cs xs :=
  ⟨hs.1.trans h.1, fun j c u h1 h2 => by
    have hj : j < ys.length := by rw [h.1]; exact (List.getElem?_eq_some_iff.1 h2).1
    exact (h.2 j u ys[j] h2 (by simp [hj])).rep hM c (hs.2 j c _ h1 (by simp [hj]))⟩
def nodupB : List Nat → Bool
  | [] => true
  | x :: l => !(l.contains x) && nodupB l
theorem nodupB_inj : ∀ {l : List Nat}, nodupB l = true → ∀ (i j : Nat) x, l[i]? = some x → l[j]? = some x → i = j
  | [], _, i, j, x, h1, _ => by simp at h1
  | y :: l, h, i, j, x, h1, h2 => by
    simp only [nodupB, Bool.and_eq_true, Bool.not_eq_true', List.contains_eq_mem, decide_eq_false_iff_not] at h
    cases i with
    | zero =>
      cases j with
      | zero => rfl
      | succ j => simp at h1 h2; subst h1; exact absurd (List.mem_of_getElem? h2) h.1
    | succ i =>
      cases j with
      | zero => simp at h1 h2; subst h2; exact absurd (List.mem_of_getElem? h1) h.1
      | succ j => rw [nodupB_inj h.2 i j x (by simpa using h1) (by simpa using h2)]
theorem Sat.ren {F : Nat → Prop} {base : Nat} {E : Env} {w : World} {σ σ' : Sto} {fs : List Nat} (hS : Sat F base σ E w) (h : SRen fs σ σ' fs) (hn : nodupB fs = true) :
    ∃ M, (∀ b, M b → E.M b) ∧ Sat F base σ' (E.ren fs M) w := by
  obtain ⟨hl, hg⟩ := h.get
  have hat : ∀ i j, fs[i]? = some j → fs.getD i 0 = j := fun i j hij => by simp [List.getD_eq_getElem?_getD, hij]
  refine ⟨fun b => F b ∨ ∃ i blk, σ'[i]? = some (some blk) ∧ blockOf (E.at_ (fs.getD i 0)) = some b, fun b hb => ?_, ?_⟩
  · rcases hb with hb | ⟨i, blk, h1, h2⟩
    · exact (hS.mm b).2 (.inl hb)
    · obtain ⟨j, b', h3, h4, _⟩ := hg i blk h1
      rw [hat i j h3] at h2
      exact (hS.mm b).2 (.inr ⟨j, b', h4, h2⟩)
  · have hM : ∀ b, (F b ∨ ∃ i blk, σ'[i]? = some (some blk) ∧ blockOf (E.at_ (fs.getD i 0)) = some b) → E.M b := fun b hb => by
      rcases hb with hb | ⟨i, blk, h1, h2⟩
      · exact (hS.mm b).2 (.inl hb)
      · obtain ⟨j, b', h3, h4, _⟩ := hg i blk h1
        rw [hat i j h3] at h2
        exact (hS.mm b).2 (.inr ⟨j, b', h4, h2⟩)
    refine ⟨hS.bl, fun b hb => ⟨(hS.fb b hb).1, fun i blk hi => ?_⟩, by simp [Env.ren, hl], fun b => Iff.rfl, fun i blk hi => ?_, fun i j bi bj b hi hj h1 h2 => ?_⟩
    · obtain ⟨j, b', h3, h4, _⟩ := hg i blk hi
      simp only [Env.ren, hat i j h3]
      exact (hS.fb b hb).2 j b' h4
    · obtain ⟨j, b', h3, h4, h5⟩ := hg i blk hi
      have hB := hS.blk j b' h4
      simp only [Env.ren, hat i j h3]
      cases h5 with
      | cells hr =>
        obtain ⟨b, cs, k1, k2, k3, k4⟩ := hB
        exact ⟨b, cs, k1, k2, k3, hr.rep hM k4⟩
      | row hr =>
        obtain ⟨cs, k1, k2⟩ := hB
        exact ⟨cs, k1, hr.rep hM k2⟩
      | rowP hn' hx =>
        subst hn'
        subst hx
        obtain ⟨cs, k1, k2⟩ := hB
        exact ⟨cs, k1, (RenL.pure (fs := fs)).rep hM k2⟩
    · obtain ⟨i', bi', h3, h4, _⟩ := hg i bi hi
      obtain ⟨j', bj', h5, h6, _⟩ := hg j bj hj
      simp only [Env.ren, hat i i' h3] at h1
      simp only [Env.ren, hat j j' h5] at h2
      have := hS.inj i' j' bi' bj' b h4 h6 h1 h2
      subst this
      exact nodupB_inj hn i j i' h3 h5
/-- Temporaries with other numbers. -/
inductive TRen (fs : List Nat) (t : Tms) : Tms → Prop
  | nil : TRen fs t []
  | cons {t' : Tms} {p p' : PV} (k : Nat) : look k t = some p → Ren fs p' p → TRen fs t t' → TRen fs t ((k, p') :: t')
theorem TRen.get {fs : List Nat} {t t' : Tms} (h : TRen fs t t') : ∀ k p', look k t' = some p' → ∃ p, look k t = some p ∧ Ren fs p' p := by
  induction h with
  | nil => intro k p' h; cases h
  | @cons t' p p' k h1 h2 _ ih =>
    intro j q hj
    simp only [look] at hj
    rw [Bool.cond_eq_ite] at hj
    split at hj
    · rename_i he
      have := Nat.eq_of_beq_eq_true he
      subst this
      cases hj
      exact ⟨p, h1, h2⟩
    · exact ih j q hj
def idB (fs : List Nat) : Nat → Bool
  | 0 => true
  | k + 1 => (match fs[k]? with | some j => Nat.beq j k | none => false) && idB fs k
theorem idB_spec {fs : List Nat} : ∀ {k : Nat}, idB fs k = true → ∀ i, i < k → fs[i]? = some i
  | 0, _, i, hi => by omega
  | k + 1, h, i, hi => by
    simp only [idB, Bool.and_eq_true] at h
    by_cases e : i = k
    · subst e
      obtain ⟨h1, _⟩ := h
      split at h1
      · rename_i j hj; rw [hj, Nat.eq_of_beq_eq_true h1]
      · cases h1
    · exact idB_spec h.2 i (by omega)
theorem ren_sat {F : Nat → Prop} {base : Nat} {E₀ E : Env} {w₀ w : World} {a : Act} {t t' : Tms} {σ σ' : Sto} (fs : List Nat) (hT : TRen fs t t') (hS : SRen fs σ σ' fs) (hn : nodupB fs = true) (hi : idB fs L = true) (hc : Came base L E₀ w₀ E w) (hs : SatSt F base N ⟨t, σ⟩ E a w) :
    ∃ E', Came base L E₀ w₀ E' w ∧ SatSt F base N ⟨t', σ'⟩ E' a w := by
  obtain ⟨M, hM, hS'⟩ := hs.sat.ren hS hn
  refine ⟨_, ⟨hc.L, ⟨?_, fun i hi' => ?_, fun b hb h h' => hc.g.M b hb h (hM b h'), hc.g.size, hc.g.heap⟩, hc.b⟩, hS', fun k p hk => ?_, hs.dfr, hs.size⟩
  · rw [hc.L]
    have : L ≤ fs.length := by
      rcases Nat.eq_zero_or_pos L with h | h
      · omega
      · have := idB_spec hi (L - 1) (by omega)
        have := (List.getElem?_eq_some_iff.1 this).1
        omega
    exact this
  · have := idB_spec hi i (by rw [← hc.L]; exact hi')
    have h2 : fs.getD i 0 = i := by simp [List.getD_eq_getElem?_getD, this]
    simp only [Env.ren, h2]
    exact hc.g.at_ i hi'
  · obtain ⟨q, h1, h2⟩ := hT.get k p hk
    exact h2.rep hM _ (hs.tmp k q h1)
theorem W_ren {c : Code} {t t' : Tms} {σ σ' : Sto} {Q : Exit → St → Prop} (fs : List Nat) (hT : TRen fs t t') (hS : SRen fs σ σ' fs) (hn : nodupB fs = true) (hi : idB fs L = true) (h : W P N L c ⟨t', σ'⟩ Q) : W P N L c ⟨t, σ⟩ Q := fun F base E₀ w₀ E a w hc hs => by
  obtain ⟨E', h1, h2⟩ := ren_sat fs hT hS hn hi hc hs
  exact h F base E₀ w₀ E' a w h1 h2
theorem WR_ren {l : List Oper} {t t' : Tms} {σ σ' : Sto} {K : St → Prop} (fs : List Nat) (hT : TRen fs t t') (hS : SRen fs σ σ' fs) (hn : nodupB fs = true) (hi : idB fs L = true) (h : WR P N L ops l ⟨t', σ'⟩ K) : WR P N L ops l ⟨t, σ⟩ K := fun F base E₀ w₀ E a w hc hs => by
  obtain ⟨E', h1, h2⟩ := ren_sat fs hT hS hn hi hc hs
  exact h F base E₀ w₀ E' a w h1 h2
end
end PW
end Go.Proofs.YtkaalpdfppbdeaaDoor
