/- TransitionNothing returns true for every input: if a component has no arcs, the states Old and Final have the same tables. No conditions. -/
import Derived.Test.YtbpgndbjbaoolaaCardTNB12
/- Pure walks: a region that draws its order, whose operations on the store stand in one order among themselves. No program in sight. -/
namespace Go.Proofs.Ytbpgndbjbaoolaa
set_option linter.unusedVariables false
set_option linter.unusedSimpArgs false
namespace PW
open Go.RowKit Reg Mem

/-- Of an operation: what it leaves; its place among those that change the store; between which stores it may stand. -/
structure GD where
  p : PV
  r : Option Nat
  lo : Nat
  hi : Nat
section
variable {P : Program} {N L : Nat}
inductive GK (P : Program) (N : Nat) (ops : Array Oper) (σs : List Sto) (T : Tms) (o : Oper) : GD → Prop
  | val {p : PV} {d lo hi : Nat} (ks : List Nat) (hks : (ks.all fun k => (o.looksAt ops).contains k) = true) (hw : wantB ops T o = some true) (hy : ∀ r σ, lo ≤ r → r ≤ hi → σs[r]? = some σ → Yield P σ (pickT T ks) o p) (hd : o.dst = some d) (hN : Nat.blt d N = true) : GK P N ops σs T o ⟨p, none, lo, hi⟩
  | skip {d lo hi : Nat} (hw : wantB ops T o = some false) (hd : o.dst = some d) (hN : Nat.blt d N = true) : GK P N ops σs T o ⟨.raw undef, none, lo, hi⟩
  | loud {p : PV} {d r lo hi : Nat} {σ σ' : Sto} (ks : List Nat) (hks : (ks.all fun k => (o.looksAt ops).contains k) = true) (hw : wantB ops T o = some true) (h1 : σs[r]? = some σ) (h2 : σs[r + 1]? = some σ') (hy : Loud P σ (pickT T ks) o p σ') (hd : o.dst = some d) (hN : Nat.blt d N = true) : GK P N ops σs T o ⟨p, some r, lo, hi⟩
  | loud0 {p : PV} {r lo hi : Nat} {σ σ' : Sto} (ks : List Nat) (hks : (ks.all fun k => (o.looksAt ops).contains k) = true) (hw : wantB ops T o = some true) (h1 : σs[r]? = some σ) (h2 : σs[r + 1]? = some σ') (hy : Loud P σ (pickT T ks) o p σ') (hd : o.dst = none) : GK P N ops σs T o ⟨p, some r, lo, hi⟩
inductive GL (P : Program) (N : Nat) (ops : Array Oper) (σs : List Sto) (T : Tms) : List Oper → List GD → Prop
  | nil : GL P N ops σs T [] []
  | cons {o : Oper} {g : GD} {l : List Oper} {gs : List GD} : GK P N ops σs T o g → GL P N ops σs T l gs → GL P N ops σs T (o :: l) (g :: gs)
theorem GL.get {ops : Array Oper} {σs : List Sto} {T : Tms} : ∀ {l : List Oper} {gs : List GD}, GL P N ops σs T l gs → gs.length = l.length ∧ ∀ (i : Nat) o g, l[i]? = some o → gs[i]? = some g → GK P N ops σs T o g
  | _, _, .nil => ⟨rfl, fun i o g h => by simp at h⟩
  | _, _, .cons h hs => by
    obtain ⟨h1, h2⟩ := hs.get
    refine ⟨by simp [h1], fun i o g ho hg => ?_⟩
    cases i with
    | zero => simp at ho hg; subst ho; subst hg; exact h
    | succ i => exact h2 i o g (by simpa using ho) (by simpa using hg)
def rkOf (gs : List GD) (i : Nat) : Option Nat := (gs[i]?).bind (·.r)
/-- The form of such a region; m: how many operations change the store. -/
def grdB (ops : Array Oper) (f m : Nat) (gs : List GD) : Bool :=
  Nat.beq gs.length ops.size &&
  ((List.range ops.size).all fun i => (aft ops i).all fun k => decide (k < i)) &&
  ((List.range ops.size).all fun i => (List.range i).all fun j => (dstOf ops i).isNone || dstOf ops i != dstOf ops j) &&
  ((List.range ops.size).all fun j => (looksOf ops j).all fun k => (List.range ops.size).all fun i => dstOf ops i != some k || reachB ops f j i) &&
  ((List.range ops.size).all fun i => match gs[i]? with
    | some ⟨_, some r, _, _⟩ => decide (r < m) && (Nat.beq r 0 || (List.range ops.size).any fun j => rkOf gs j == some (r - 1) && reachB ops f i j)
    | some ⟨_, none, lo, hi⟩ => (Nat.beq lo 0 || (List.range ops.size).any fun j => rkOf gs j == some (lo - 1) && reachB ops f i j) && (Nat.ble m hi || (List.range ops.size).any fun j => rkOf gs j == some hi && reachB ops f j i)
    | none => false) &&
  ((List.range ops.size).all fun i => (List.range i).all fun j => (rkOf gs i).isNone || rkOf gs i != rkOf gs j) &&
  ((List.range m).all fun r => (List.range ops.size).any fun j => rkOf gs j == some r)
structure Grd (ops : Array Oper) (f m : Nat) (gs : List GD) : Prop where
  len : gs.length = ops.size
  aft : ∀ i, i < ops.size → ∀ k ∈ aft ops i, k < i
  ss : ∀ i j d, i < ops.size → j < ops.size → dstOf ops i = some d → dstOf ops j = some d → i = j
  rd : ∀ j, j < ops.size → ∀ k ∈ looksOf ops j, ∀ i, i < ops.size → dstOf ops i = some k → reachB ops f j i = true
  loud : ∀ (i : Nat) g r, gs[i]? = some g → g.r = some r → r < m ∧ (r = 0 ∨ ∃ j, j < ops.size ∧ rkOf gs j = some (r - 1) ∧ reachB ops f i j = true)
  quiet : ∀ (i : Nat) g, gs[i]? = some g → g.r = none → (g.lo = 0 ∨ ∃ j, j < ops.size ∧ rkOf gs j = some (g.lo - 1) ∧ reachB ops f i j = true) ∧ (m ≤ g.hi ∨ ∃ j, j < ops.size ∧ rkOf gs j = some g.hi ∧ reachB ops f j i = true)
  one : ∀ i j r, i < ops.size → j < ops.size → rkOf gs i = some r → rkOf gs j = some r → i = j
  has : ∀ r, r < m → ∃ j, j < ops.size ∧ rkOf gs j = some r
theorem grdB_grd {ops : Array Oper} {f m : Nat} {gs : List GD} (h : grdB ops f m gs = true) : Grd ops f m gs := by
  unfold grdB at h
  simp only [Bool.and_eq_true] at h
  obtain ⟨⟨⟨⟨⟨⟨h1, h2⟩, h3⟩, h4⟩, h5⟩, h6⟩, h7⟩ := h
  have hl : gs.length = ops.size := Nat.eq_of_beq_eq_true h1
  have all : ∀ {n : Nat} {p : Nat → Bool}, (List.range n).all p = true → ∀ i, i < n → p i = true := fun h i hi => List.all_eq_true.1 h i (List.mem_range.2 hi)
  have any : ∀ {n : Nat} {p : Nat → Bool}, (List.range n).any p = true → ∃ i, i < n ∧ p i = true := fun h => by
    obtain ⟨i, hi, hp⟩ := List.any_eq_true.1 h
    exact ⟨i, List.mem_range.1 hi, hp⟩
  have s3 : ∀ i j d, i < ops.size → j < i → dstOf ops i = some d → dstOf ops j = some d → False := fun i j d hi hj e1 e2 => by
    have := all (all h3 i hi) j hj
    rw [e1, e2] at this
    simp at this
  have s6 : ∀ i j r, i < ops.size → j < i → rkOf gs i = some r → rkOf gs j = some r → False := fun i j r hi hj e1 e2 => by
    have := all (all h6 i hi) j hj
    rw [e1, e2] at this
    simp at this
  refine ⟨hl, fun i hi k hk => ?_, fun i j d hi hj e1 e2 => ?_, fun j hj k hk i hi hd => ?_, fun i g r hg hr => ?_, fun i g hg hr => ?_, fun i j r hi hj e1 e2 => ?_, fun r hr => ?_⟩
  · have := List.all_eq_true.1 (all h2 i hi) k hk; simpa using this
  · rcases Nat.lt_trichotomy i j with h | h | h
    · exact (s3 j i d hj h e2 e1).elim
    · exact h
    · exact (s3 i j d hi h e1 e2).elim
  · have := all (List.all_eq_true.1 (all h4 j hj) k hk) i hi
    rw [hd] at this
    simpa using this
  · have hi : i < ops.size := by rw [← hl]; exact (List.getElem?_eq_some_iff.1 hg).1
    have := all h5 i hi
    obtain ⟨p, r', lo, hi'⟩ := g
    simp only at hr
    subst hr
    rw [hg] at this
    simp only [Bool.and_eq_true, decide_eq_true_eq, Bool.or_eq_true] at this
    refine ⟨this.1, ?_⟩
    rcases this.2 with h | h
    · exact .inl (Nat.eq_of_beq_eq_true h)
    · obtain ⟨j, hj, h'⟩ := any h
      simp only [Bool.and_eq_true, beq_iff_eq] at h'
      exact .inr ⟨j, hj, h'.1, h'.2⟩
  · have hi : i < ops.size := by rw [← hl]; exact (List.getElem?_eq_some_iff.1 hg).1
    have := all h5 i hi
    obtain ⟨p, r', lo, hi'⟩ := g
    simp only at hr
    subst hr
    rw [hg] at this
    simp only [Bool.and_eq_true, Bool.or_eq_true] at this
    refine ⟨?_, ?_⟩
    · rcases this.1 with h | h
      · exact .inl (Nat.eq_of_beq_eq_true h)
      · obtain ⟨j, hj, h'⟩ := any h
        simp only [Bool.and_eq_true, beq_iff_eq] at h'
        exact .inr ⟨j, hj, h'.1, h'.2⟩
    · rcases this.2 with h | h
      · exact .inl (Nat.ble_eq.mp h)
      · obtain ⟨j, hj, h'⟩ := any h
        simp only [Bool.and_eq_true, beq_iff_eq] at h'
        exact .inr ⟨j, hj, h'.1, h'.2⟩
  · rcases Nat.lt_trichotomy i j with h | h | h
    · exact (s6 j i r hj h e2 e1).elim
    · exact h
    · exact (s6 i j r hi h e1 e2).elim
  · obtain ⟨j, hj, h⟩ := any (all h7 r hr)
    exact ⟨j, hj, by simpa using h⟩
/-- On the way through such a region. -/
structure Grg (base N : Nat) (F : Nat → Prop) (l : List Oper) (gs : List GD) (σs : List Sto) (t : Tms) (ls : Array Bool) (r : Nat) (E : Env) (a : Act) (w : World) : Prop where
  size : ls.size = l.length
  down : Down l.toArray ls
  rk : ∀ i s, i < l.length → rkOf gs i = some s → (ls.getD i true = true ↔ s < r)
  sat : ∃ σ, σs[r]? = some σ ∧ Sat F base σ E w
  dfr : a.defers = []
  tmps : a.tmps.size = N
  t0 : RepT E w a.eval t
  got : ∀ j d g, j < l.length → ls.getD j true = true → dstOf l.toArray j = some d → gs[j]? = some g → Rep E w (a.eval (.tmp d)) g.p
theorem ls_get (ls : Array Bool) (i j : Nat) (b : Bool) (hi : i < ls.size) : (ls.setIfInBounds i true).getD j b = if j = i then true else ls.getD j b := by
  by_cases e : j = i
  · subst e; simp [hi]
  · rw [if_neg e]
    simp only [Array.getD_eq_getD_getElem?, Array.getElem?_setIfInBounds_ne (Ne.symm e)]
theorem ls_irr {ls : Array Bool} {i : Nat} (hi : i < ls.size) (b c : Bool) : ls.getD i b = ls.getD i c := by simp [hi]
section
variable {l : List Oper} {gs : List GD} {σs : List Sto} {t T : Tms} {f m base : Nat} {F : Nat → Prop}
theorem Grg.reach (hG : Grd l.toArray f m gs) {ls : Array Bool} {r : Nat} {E : Env} {a : Act} {w : World} (h : Grg base N F l gs σs t ls r E a w) {i j : Nat} (hi : i < l.length) (hr : reachB l.toArray f i j = true) (hk : ∀ k ∈ aft l.toArray i, ls.getD k false = true) : ls.getD j true = true := by
  have := reach_listed (by rw [h.size]; simp) h.down (fun i hi => hG.aft i hi) f i j (by simpa using hi) hr hk
  by_cases hj : j < ls.size
  · rw [ls_irr hj true false]; exact this
  · simp [hj]
theorem Grg.looks (hG : Grd l.toArray f m gs) (hT : addT l (gs.map (·.p)) t = T) {ls : Array Bool} {r : Nat} {E : Env} {a : Act} {w : World} (h : Grg base N F l gs σs t ls r E a w) {i : Nat} (hi : i < l.length) (hk : ∀ k ∈ aft l.toArray i, ls.getD k false = true) :
    ∀ k ∈ looksOf l.toArray i, ∀ p, look k T = some p → Rep E w (a.eval (.tmp k)) p := fun k hks p hp => by
  rw [← hT] at hp
  rcases look_add _ _ _ k p hp with ⟨j, o, h1, h2, h3⟩ | h'
  · rw [List.getElem?_map, Option.map_eq_some_iff] at h3
    obtain ⟨g, hg, rfl⟩ := h3
    have hj : j < l.length := (List.getElem?_eq_some_iff.1 h1).1
    have hd : dstOf l.toArray j = some k := by simp only [dstOf, List.getElem?_toArray, h1, Option.bind_some, h2]
    have hr := hG.rd i (by simpa using hi) k hks j (by simpa using hj) hd
    exact h.got j k g hj (h.reach hG hi hr hk) hd hg
  · exact h.t0 k p h'
/-- One operation more. -/
theorem Grg.put (hG : Grd l.toArray f m gs) (hfr : ∀ i d, i < l.length → dstOf l.toArray i = some d → look d t = none) {ls : Array Bool} {r r' : Nat} {E E' : Env} {a : Act} {w w' : World} (h : Grg base N F l gs σs t ls r E a w) {i : Nat} {g : GD} {v : Value} (hi : i < l.length) (hu : ls.getD i true = false) (hk : ∀ k ∈ aft l.toArray i, ls.getD k false = true) (hg : gs[i]? = some g) (hgo : Goes E w E' w')
    (hs : ∃ σ, σs[r']? = some σ ∧ Sat F base σ E' w') (hr : (g.r = none ∧ r' = r) ∨ (g.r = some r ∧ r' = r + 1)) {o : Oper} (ho : l[i]? = some o) (hdN : ∀ d, o.dst = some d → d < N) (hv : ∀ d, o.dst = some d → Rep E' w' v g.p) :
    Grg base N F l gs σs t (ls.setIfInBounds i true) r' E' (a.put o.dst v) w' := by
  have hil : i < ls.size := by rw [h.size]; exact hi
  have hrk : rkOf gs i = g.r := by simp only [rkOf, hg, Option.bind_some]
  have hdi : dstOf l.toArray i = o.dst := by simp only [dstOf, List.getElem?_toArray, ho, Option.bind_some]
  refine ⟨by simpa using h.size, fun j hj hjs k hkj => ?_, fun j s hj hs' => ?_, hs, by cases o.dst <;> simpa [Act.put] using h.dfr, by cases o.dst <;> simpa [Act.put] using h.tmps, fun k p hkp => ?_, fun j d g' hj hjl hd hg' => ?_⟩
  · rw [ls_get _ _ _ _ hil] at hj ⊢
    split
    · rfl
    · by_cases e : j = i
      · subst e; exact hk k hkj
      · rw [if_neg e] at hj
        exact h.down j hj hjs k hkj
  · rw [ls_get _ _ _ _ hil]
    by_cases e : j = i
    · subst e
      rw [if_pos rfl]
      rw [hrk] at hs'
      rcases hr with ⟨h1, _⟩ | ⟨h1, h2⟩
      · rw [h1] at hs'; cases hs'
      · rw [h1] at hs'; cases hs'; exact ⟨fun _ => by omega, fun _ => rfl⟩
    · rw [if_neg e, h.rk j s hj hs']
      rcases hr with ⟨_, h2⟩ | ⟨h1, h2⟩
      · rw [h2]
      · have : s ≠ r := fun e' => e (hG.one j i r (by simpa using hj) (by simpa using hi) (by rw [hs', e']) (by rw [hrk, h1]))
        omega
  · have hne : ∀ d, o.dst = some d → k ≠ d := fun d hd e => by
      subst e
      rw [hfr i k hi (by rw [hdi, hd])] at hkp; cases hkp
    have : (a.put o.dst v).eval (.tmp k) = a.eval (.tmp k) := Act.eval_put fun d hd heq => by cases heq; exact hne _ hd rfl
    rw [this]
    exact (h.t0 k p hkp).goes hgo
  · rw [ls_get _ _ _ _ hil] at hjl
    by_cases e : j = i
    · subst e
      rw [hdi] at hd
      rw [hg] at hg'; cases hg'
      rw [hd, put_eval a (by rw [h.tmps]; exact hdN d hd), if_pos rfl]
      exact hv d hd
    · rw [if_neg e] at hjl
      have hne : ∀ d', o.dst = some d' → d ≠ d' := fun d' hd' e' => by
        subst e'
        exact e (hG.ss j i d (by simpa using hj) (by simpa using hi) hd (by rw [hdi, hd']))
      have : (a.put o.dst v).eval (.tmp d) = a.eval (.tmp d) := Act.eval_put fun d' hd' heq => by cases heq; exact hne _ hd' rfl
      rw [this]
      exact (h.got j d g' hj hjl hd hg').goes hgo
theorem grd_any (hG : Grd l.toArray f m gs) (hT : addT l (gs.map (·.p)) t = T) (hfr : ∀ i d, i < l.length → dstOf l.toArray i = some d → look d t = none) (hL : GL P N l.toArray σs T l gs) {σm : Sto} (hm : σs[m]? = some σm) {Q : Exit → Act → World → Prop} {E₀ : Env} {w₀ : World} (hq : ∀ a' w' E', Sat F base σm E' w' → RepT E' w' a'.eval T → a'.defers = [] → a'.tmps.size = N → Goes E₀ w₀ E' w' → Below base w₀ w' → Q .normal a' w') :
    ∀ (fuel : Nat) (ls : Array Bool) (r : Nat) (E : Env) (a : Act) (w : World), Grg base N F l gs σs t ls r E a w → unlisted ls l.length = fuel → Goes E₀ w₀ E w → Below base w₀ w → r ≤ m → wpAny P .any l.toArray Q fuel ls a w := by
  obtain ⟨hgl, hget⟩ := hL.get
  intro fuel
  induction fuel with
  | zero =>
    intro ls r E a w h hu hgo hb hrm
    have hall := unlisted_zero hu
    have hrm' : r = m := by
      rcases Nat.lt_or_ge r m with h' | h'
      · obtain ⟨j, hj, hjr⟩ := hG.has r h'
        have hj : j < l.length := by simpa using hj
        have := (h.rk j r hj hjr).1 (hall j hj)
        omega
      · omega
    subst hrm'
    refine ⟨List.eq_nil_iff_forall_not_mem.2 fun i hi => ?_, ?_⟩
    · obtain ⟨h1, h2, _⟩ := ready_iff.1 hi
      rw [hall i (by simpa using h1)] at h2; cases h2
    · obtain ⟨σ, hσ, hs⟩ := h.sat
      rw [hm] at hσ; cases hσ
      refine hq a w E hs (fun k p hkp => ?_) h.dfr h.tmps hgo hb
      rw [← hT] at hkp
      rcases look_add _ _ _ k p hkp with ⟨j, o, h1, h2, h3⟩ | h'
      · rw [List.getElem?_map, Option.map_eq_some_iff] at h3
        obtain ⟨g, hg, rfl⟩ := h3
        have hj : j < l.length := (List.getElem?_eq_some_iff.1 h1).1
        exact h.got j k g hj (hall j hj) (by simp only [dstOf, List.getElem?_toArray, h1, Option.bind_some, h2]) hg
      · exact h.t0 k p h'
  | succ fuel ih =>
    intro ls r E a w h hu hgo hb hrm
    obtain ⟨i0, hi0, hi1, hi2⟩ := unlisted_pos (ls := ls) (m := l.length) (by omega)
    have hi0r : i0 ∈ Region.ready .any l.toArray ls := ready_iff.2 ⟨by simpa using hi0, hi1, fun k hk => by
      have := hG.aft i0 (by simpa using hi0) k hk
      rw [ls_irr (by rw [h.size]; omega) false true]; exact hi2 k this⟩
    refine ⟨fun h0 => absurd hi0r (by rw [h0]; simp), fun i hi => ?_⟩
    obtain ⟨h1, h2, h3⟩ := ready_iff.1 hi
    have hil : i < l.length := by simpa using h1
    have ho : l[i]? = some l[i] := by simp [hil]
    have hgi : gs[i]? = some (gs[i]'(by omega)) := by simp
    have hK := hget i _ _ ho hgi
    generalize hgg : gs[i]'(by omega) = g at hgi hK
    generalize hoo : l[i] = o at ho hK
    have hlk := h.looks hG hT hil h3
    have hlo : looksOf l.toArray i = o.looksAt l.toArray := by simp only [looksOf, List.getElem?_toArray, ho]
    rw [hlo] at hlk
    have hpk : ∀ ks : List Nat, (ks.all fun k => (o.looksAt l.toArray).contains k) = true → RepT E w a.eval (pickT T ks) := fun ks hks k p hkp => by
      obtain ⟨e1, e2⟩ := look_pick ks k p hkp
      exact hlk k (by have := List.all_eq_true.1 hks k e1; simpa using this) p e2
    have hwant : ∀ b, wantB l.toArray T o = some b → Region.wanted o (yielded l.toArray a.tmps) = b := fun b hb => by
      rw [wantedR_eval]; exact wantB_looks (fun k hk p hp => hlk k hk p hp) hb
    have hun : unlisted (ls.setIfInBounds i true) l.length = fuel := by have := unlisted_set h2 hil (by rw [h.size]; omega); omega
    unfold wpOp
    have ho' : l.toArray[i]? = some o := by simpa using ho
    simp only [ho']
    have hrk : rkOf gs i = g.r := by simp only [rkOf, hgi, Option.bind_some]
    cases hK with
    | @val p d lo hi ks hks hw hy hd hN =>
      rw [hwant true hw, if_pos rfl]
      left
      obtain ⟨σ, hσ, hs⟩ := h.sat
      obtain ⟨q1, q2⟩ := hG.quiet i _ hgi rfl
      have hlo' : lo ≤ r := by
        rcases q1 with e | ⟨j, hj, hj1, hj2⟩
        · simp only at e; omega
        · have := (h.rk j _ (by simpa using hj) hj1).1 (h.reach hG hil hj2 h3)
          simp only at this; omega
      have hhi' : r ≤ hi := by
        rcases q2 with e | ⟨j, hj, hj1, hj2⟩
        · simp only at e; omega
        · rcases Nat.lt_or_ge hi r with h' | h'
          · have hjl : j < l.length := by simpa using hj
            have e1 := (h.rk j _ hjl hj1).2 h'
            have e2 := h.reach hG hjl hj2 (h.down j e1 hj)
            rw [h2] at e2; cases e2
          · exact h'
      refine upon_of (hy r σ hlo' hhi' hσ F base E a.eval w (isEval a) hs (hpk ks hks)) fun v w' hE hv => ?_
      exact ih _ r E _ w' (h.put hG hfr hil h2 h3 hgi (.ext hE) ⟨σ, hσ, hs.ext hE⟩ (.inl ⟨rfl, rfl⟩) ho (fun d' hd' => by rw [hd] at hd'; cases hd'; exact Nat.blt_eq.mp hN) (fun _ _ => hv)) hun (hgo.trans (.ext hE)) (hb.trans (Below.ofExt hE hs.bl)) hrm
    | @skip d lo hi hw hd hN =>
      rw [hwant false hw, if_neg (by simp)]
      exact ih _ r E _ w (h.put hG hfr hil h2 h3 hgi (Goes.refl _ _) h.sat (.inl ⟨rfl, rfl⟩) ho (fun d' hd' => by rw [hd] at hd'; cases hd'; exact Nat.blt_eq.mp hN) (fun _ _ => .raw _)) hun hgo hb hrm
    | @loud p d r0 lo hi σ σ' ks hks hw e1 e2 hy hd hN =>
      rw [hwant true hw, if_pos rfl]
      left
      obtain ⟨q1, q2⟩ := hG.loud i _ r0 hgi rfl
      have hr0 : r0 = r := by
        have n1 : ¬ r0 < r := fun h' => by
          have := (h.rk i r0 hil hrk).2 h'
          rw [h2] at this; cases this
        rcases q2 with e | ⟨j, hj, hj1, hj2⟩
        · omega
        · have := (h.rk j _ (by simpa using hj) hj1).1 (h.reach hG hil hj2 h3)
          omega
      subst hr0
      obtain ⟨σ0, hσ, hs⟩ := h.sat
      rw [e1] at hσ; cases hσ
      obtain ⟨v, w', E', hr, k1, k2, k3, k4⟩ := hy F base E a.eval w (isEval a) hs (hpk ks hks)
      have hn' := ih _ (r0 + 1) E' (a.put o.dst v) w' (h.put hG hfr hil h2 h3 hgi k2 ⟨σ', e2, k1⟩ (.inr ⟨rfl, rfl⟩) ho (fun d' hd' => by rw [hd] at hd'; cases hd'; exact Nat.blt_eq.mp hN) (fun _ _ => k4)) hun (hgo.trans k2) (hb.trans k3) (by omega)
      unfold Oper.wp
      rcases hr with hr | ⟨rfl, hr⟩
      · rw [hr]; exact hn'
      · rw [hr]; exact hn'
    | @loud0 p r0 lo hi σ σ' ks hks hw e1 e2 hy hd =>
      rw [hwant true hw, if_pos rfl]
      left
      obtain ⟨q1, q2⟩ := hG.loud i _ r0 hgi rfl
      have hr0 : r0 = r := by
        have n1 : ¬ r0 < r := fun h' => by
          have := (h.rk i r0 hil hrk).2 h'
          rw [h2] at this; cases this
        rcases q2 with e | ⟨j, hj, hj1, hj2⟩
        · omega
        · have := (h.rk j _ (by simpa using hj) hj1).1 (h.reach hG hil hj2 h3)
          omega
      subst hr0
      obtain ⟨σ0, hσ, hs⟩ := h.sat
      rw [e1] at hσ; cases hσ
      obtain ⟨v, w', E', hr, k1, k2, k3, k4⟩ := hy F base E a.eval w (isEval a) hs (hpk ks hks)
      have hn' := ih _ (r0 + 1) E' (a.put o.dst v) w' (h.put hG hfr hil h2 h3 hgi k2 ⟨σ', e2, k1⟩ (.inr ⟨rfl, rfl⟩) ho (fun d' hd' => by rw [hd] at hd'; cases hd') (fun d' hd' => by rw [hd] at hd'; cases hd')) hun (hgo.trans k2) (hb.trans k3) (by omega)
      unfold Oper.wp
      rcases hr with hr | ⟨rfl, hr⟩
      · rw [hr]; exact hn'
      · rw [hr]; exact hn'
end
theorem unlisted_all : ∀ (n k : Nat), k ≤ n → unlisted (Array.replicate n false) k = k
  | n, 0, _ => rfl
  | n, k + 1, h => by
    simp only [unlisted]
    rw [unlisted_all n k (by omega)]
    simp [show k < n by omega]
theorem W_grd {id : Nat} {l : List Oper} {t t' : Tms} {σ σm : Sto} {Q : Exit → St → Prop} (f m : Nat) (σs : List Sto) (gs : List GD) (T : Tms) (hm : P.follows .mixedOrders = true) (hB : grdB l.toArray f m gs = true) (hT : addT l (gs.map (·.p)) t = T) (hfr : (l.all fun o => o.dst.all fun d => (look d t).isNone) = true) (h0 : σs[0]? = some σ) (h1 : σs[m]? = some σm)
    (hL : GL P N l.toArray σs T l gs) (hsub : Sub T t') (hq : Q .normal ⟨t', σm⟩) : W P N L (.region id l.toArray true) ⟨t, σ⟩ Q := fun F base E₀ w₀ E a w hc hs => by
  have hG := grdB_grd hB
  have hE : Ext w { w with drawn := w.drawn + 1 } := ⟨rfl, rfl, rfl, Nat.le_refl _, fun _ _ => rfl⟩
  refine wp_region_any hm ?_
  have hfr' : ∀ i d, i < l.length → dstOf l.toArray i = some d → look d t = none := fun i d hi hd => by
    have ho : l[i]? = some l[i] := by simp [hi]
    simp only [dstOf, List.getElem?_toArray, ho, Option.bind_some] at hd
    have := List.all_eq_true.1 hfr _ (List.mem_of_getElem? ho)
    rw [hd] at this
    simpa using this
  have hg0 : Grg base N F l gs σs t (Array.replicate l.length false) 0 E a { w with drawn := w.drawn + 1 } := by
    have hrep : ∀ i, i < l.length → (Array.replicate l.length false).getD i true = false := fun i hi => by simp [hi]
    refine ⟨by simp, fun i hi hi' => ?_, fun i s hi _ => ?_, ⟨σ, h0, hs.sat.ext hE⟩, hs.dfr, hs.size, hs.tmp.goes (.ext hE), fun j d g hj hjl => ?_⟩
    · rw [hrep i (by simpa using hi')] at hi; cases hi
    · rw [hrep i hi]; simp
    · rw [hrep j hj] at hjl; cases hjl
  have := grd_any (Q := fun e a' w' => Post F base N E₀ w₀ (Q e) a' w') hG hT hfr' hL h1 (E₀ := E₀) (w₀ := w₀) (fun a' w' E' k1 k2 k3 k4 k5 k6 => ⟨⟨t', σm⟩, E', hq, ⟨k1, k2.sub hsub, k3, k4⟩, k5, k6⟩) l.length _ 0 E a _ hg0 (unlisted_all _ _ (Nat.le_refl _)) (hc.g.trans (.ext hE)) (hc.b.trans (Below.ofExt hE hs.sat.bl)) (Nat.zero_le _)
  simpa using this
theorem W_grds {id : Nat} {l : List Oper} {y : Code} {t t' : Tms} {σ σm : Sto} {Q : Exit → St → Prop} (f m : Nat) (σs : List Sto) (gs : List GD) (T : Tms) (hm : P.follows .mixedOrders = true) (hB : grdB l.toArray f m gs = true) (hT : addT l (gs.map (·.p)) t = T) (hfr : (l.all fun o => o.dst.all fun d => (look d t).isNone) = true) (h0 : σs[0]? = some σ) (h1 : σs[m]? = some σm)
    (hL : GL P N l.toArray σs T l gs) (hsub : Sub T t') (hq : W P N L y ⟨t', σm⟩ Q) : W P N L (.seq (.region id l.toArray true) y) ⟨t, σ⟩ Q := W_seq (W_grd f m σs gs T hm hB hT hfr h0 h1 hL hsub hq)
/-- Proofs for each store between two. -/
theorem yz {P : Program} {σs : List Sto} {t : Tms} {o : Oper} {p : PV} {lo hi : Nat} (h : ∀ σ ∈ (σs.drop lo).take (hi + 1 - lo), Yield P σ t o p) : ∀ r σ, lo ≤ r → r ≤ hi → σs[r]? = some σ → Yield P σ t o p := fun r σ h1 h2 hs => by
  refine h σ (List.mem_of_getElem? (i := r - lo) ?_)
  rw [List.getElem?_take, if_pos (by omega), List.getElem?_drop, show lo + (r - lo) = r by omega]
  exact hs
theorem ya0 {α : Type} {p : α → Prop} : ∀ x ∈ ([] : List α), p x := fun _ h => by cases h
theorem ya1 {α : Type} {p : α → Prop} {a : α} {l : List α} (h : p a) (hs : ∀ x ∈ l, p x) : ∀ x ∈ a :: l, p x := fun x hx => by
  rcases List.mem_cons.1 hx with rfl | h'
  · exact h
  · exact hs x h'
end
end PW
end Go.Proofs.Ytbpgndbjbaoolaa

/- The laws of layer 30, walked: awake, large, Tables. -/
namespace Go.Proofs.Ytbpgndbjbaoolaa
set_option linter.unusedVariables false
set_option linter.unusedSimpArgs false
namespace PW
open Go.RowKit Reg Mem Net Rng

def tooBig (T : Topo) : Bool := decide ((10 : Int) < T.nodes) || decide ((16 : Int) < T.links.length)
theorem not_big {T : Topo} (h : tooBig T = false) : T.nodes ≤ 12 ∧ T.links.length ≤ 16 := by
  unfold tooBig at h
  simp only [Bool.or_eq_false_iff, decide_eq_false_iff_not] at h
  omega
set_option maxRecDepth 10000 in
set_option maxHeartbeats 1000000 in
theorem large30_can (c : Q30) : Can Try.prog 5 [q30V c] (· = flag (tooBig c.T)) := by
  obtain ⟨q1, h1⟩ : ∃ q, decide ((10 : Int) < c.T.nodes) = q := ⟨_, rfl⟩
  obtain ⟨q2, h2⟩ : ∃ q, decide ((16 : Int) < c.T.links.length) = q := ⟨_, rfl⟩
  have he : tooBig c.T = (q1 || q2) := by unfold tooBig; rw [h1, h2]
  rw [he]
  refine can_of Try.func5 rfl Try.ntmps5 rfl ?_
  refine W_cs (.a 2 rfl <| .k [1] rfl) ?_
  refine W_csK 2 (.raw (.bool (q1 || q2))) [] rfl ?_ ?_
  · refine .a 3 rfl <| .v (y_q rfl (h1)) rfl <| .a 1 rfl <| ?_
    cases q1
    · exact .a 4 rfl <| .v (y_q rfl (h2)) rfl <| .a 2 rfl <| .k [2] rfl
    · exact .a 7 rfl <| .k [2] rfl
  refine W_ret ?_
  exact ⟨_, _, ResL.of rfl, Pur.pure, rfl⟩
set_option maxRecDepth 10000 in
set_option maxHeartbeats 1000000 in
theorem square30_can : Can Try.prog 11 [] (· = topoV ringT) := by
  refine can_of Try.func11 rfl Try.ntmps11 rfl ?_
  refine W_rs ?_
  refine WR_a 1 rfl <| WR_k [0] rfl ?_
  refine W_rs ?_
  refine WR_a 3 rfl <| WR_k [0, 1] rfl ?_
  refine W_adoptCell 1 2 35 7 rfl rfl ?_
  refine W_seq ?_
  refine W_cs (.a 1 rfl <| .k [0, 1, 4] rfl) ?_
  refine W_block ?_
  refine W_k [0, 1, 4] rfl ?_
  refine W_loop (fun r s => ∃ k, k ≤ 4 ∧ r = 4 - k ∧ s = ⟨[(0, .ptr 0 0), (1, .ptr 1 0), (4, num k)], [some (.cells 25 [num 0, .raw (.slice none 0 0), .raw (.slice none 0 0)]), some (.cells 25 [num 4, .raw (.slice none 0 0), .own 2]), some (.row 35 7 k (lnksP (ringL k)))]⟩) 4 ⟨0, by omega, by omega, rfl⟩ ?_
  rintro r s ⟨k, hk, rfl, rfl⟩
  refine W_cs (.a 1 rfl <| .k [0, 1, 4, 5] rfl) ?_
  refine W_seq ?_
  refine W_cond rfl (fun hc => ?_) (fun hc => ?_)
  · have hlt : k < 4 := by have := of_decide_eq_true hc; omega
    refine W_skip ?_
    refine W_seq ?_
    refine W_block ?_
    refine W_cs (.a 2 rfl <| .k [0, 1, 2, 4] rfl) ?_
    refine W_region ?_
    refine WR_a 4 rfl <| WR_v (y_ar rfl) rfl <| WR_v (y_rem rfl rfl rfl (by decide) ((show ((k : Int) + 1).tmod 4 = (((k + 1) % 4 : Nat) : Int) by rw [Int.tmod_eq_emod_of_nonneg (by omega)]; omega))) rfl <| WR_v (y_build2 rfl (show Try.prog.built 33 [(0, .int .i64 1), (1, .int .i64 1)] = some #[.int .i64 1, .int .i64 1] by kernel_rfl)) rfl <| WR_a 2 rfl <| WR_l (l_append rfl (fok.rk.get rfl) rfl rfl rfl rfl (by unfold maxLen; omega)) rfl <| WR_a 2 rfl ?_
    refine WR_ren [0, 1, 3] (.c 0 <| .c 1 <| .c 4 <| .nil) (.kept rfl (.cells (RenL.c <| RenL.c <| RenL.c <| RenL.nil)) <| .kept rfl (.cells (RenL.c <| RenL.c <| RenL.c <| RenL.nil)) <| .kept rfl (.rowP rfl (show _ = lnksP (ringL (k + 1)) by rw [ringL_step]; exact lnksP_snoc _ ⟨(k : Int), (((k + 1) % 4 : Nat) : Int), 1, 1, 0, 1, 0⟩)) <| .nil) rfl rfl (WR_nil ?_)
    refine W_chain (.v (y_ar rfl) rfl <| .a 1 rfl <| .k [0, 1, 4] rfl) ?_
    exact ⟨4 - (k + 1), by omega, k + 1, by omega, rfl, rfl⟩
  · have hke : k = 4 := by have := of_decide_eq_false hc; omega
    subst hke
    refine W_exit ?_
    refine W_rs ?_
    refine WR_a 2 rfl <| WR_k [0] rfl ?_
    refine W_ret ?_
    exact ⟨_, _, ResL.of rfl, Pur.aggL (PurL.cons Pur.pure <| PurL.cons Pur.nils <| PurL.cons (Pur.ownL rfl PurL.pure) PurL.nil), rfl⟩
theorem rsame_yes (L : List Int) : Can Try.prog 13 [intsV L, intsV L] (· = flag true) := by
  have h := rsame_can L L
  rw [show sameB L L = true from decide_eq_true rfl] at h
  exact h
theorem ring_trnE : trnE ringT 1 0 3 = 0 := by kernel_rfl
set_option maxRecDepth 10000 in
set_option maxHeartbeats 1000000 in
theorem awake30_can : Can Try.prog 4 [] (· = flag true) := by
  have hA := ttab_can ringT 1 0 3 (by decide)
  rw [ring_trnE, ring_mask, show ((3 : Int).toNat) = 3 from rfl, ring_trn] at hA
  have hB := tfin_can ringT 1 0 3
  rw [ring_trnE, ring_mask, show ((3 : Int).toNat) = 3 from rfl, ring_fin] at hB
  have hC := told_can ringT 3
  rw [show chkE ringT [] [3] = 0 by kernel_rfl, show ((3 : Int).toNat) = 3 from rfl, ring_old] at hC
  have ht := tlist_can [2, 1] (by decide) (by decide)
  refine can_of Try.func4 rfl Try.ntmps4 rfl ?_
  refine W_cs (.a 1 rfl <| .k [] rfl) ?_
  refine W_rs ?_
  refine WR_a 3 rfl <| WR_k [1] rfl ?_
  refine W_grds 20 2 ([some (.cells 27 [num 1, num 0])] :: [some (.cells 27 [num 1, num 0]), some (.cells 39 [num 0, .raw (.slice none 0 0), .raw (.slice none 0 0)])] :: [some (.cells 27 [num 1, num 0]), some (.cells 39 (tabP ringA))] :: []) (⟨_, none, 0, 1⟩ :: ⟨_, none, 0, 1⟩ :: ⟨_, none, 0, 1⟩ :: ⟨_, none, 0, 1⟩ :: ⟨_, none, 0, 1⟩ :: ⟨_, none, 0, 2⟩ :: ⟨_, some 0, 0, 0⟩ :: ⟨_, some 1, 0, 0⟩ :: ⟨_, none, 2, 2⟩ :: []) _ mixed ?grd1 rfl rfl rfl rfl (.cons (.val [] rfl rfl (yz (ya1 (y_c rfl (square30_can)) (ya1 (y_c rfl (square30_can)) ya0))) rfl rfl) <| .cons (.val [1] rfl rfl (yz (ya1 (y_a rfl) (ya1 (y_a rfl) ya0))) rfl rfl) <| .cons (.val [10, 11] rfl rfl (yz (ya1 (y_c rfl (hA)) (ya1 (y_c rfl (hA)) ya0))) rfl rfl) <| .cons (.val [12] rfl rfl (yz (ya1 (y_a rfl) (ya1 (y_a rfl) ya0))) rfl rfl) <| .cons (.val [9] rfl rfl (yz (ya1 (y_a rfl) (ya1 (y_a rfl) ya0))) rfl rfl) <| .cons (.val [9] rfl rfl (yz (ya1 (y_a rfl) (ya1 (y_a rfl) (ya1 (y_a rfl) ya0)))) rfl rfl) <| .cons (.loud [] rfl rfl rfl rfl (l_a rfl) rfl rfl) <| .cons (.loud0 [2, 13] rfl rfl rfl rfl (l_a rfl) rfl) <| .cons (.val [14] rfl rfl (yz (ya1 (y_a rfl) ya0)) rfl rfl) .nil) (keepT_sub (ks := [1, 2, 3]) rfl) ?_
  case grd1 => kernel_rfl
  refine W_grds 20 2 ([some (.cells 27 [num 1, num 0]), some (.cells 39 (tabP ringA))] :: [some (.cells 27 [num 1, num 0]), some (.cells 39 (tabP ringA)), some (.cells 39 [num 0, .raw (.slice none 0 0), .raw (.slice none 0 0)])] :: [some (.cells 27 [num 1, num 0]), some (.cells 39 (tabP ringA)), some (.cells 39 (tabP ringB))] :: []) (⟨_, none, 0, 1⟩ :: ⟨_, none, 0, 1⟩ :: ⟨_, none, 0, 1⟩ :: ⟨_, none, 0, 1⟩ :: ⟨_, none, 0, 1⟩ :: ⟨_, none, 0, 2⟩ :: ⟨_, some 0, 0, 0⟩ :: ⟨_, some 1, 0, 0⟩ :: ⟨_, none, 2, 2⟩ :: []) _ mixed ?grd2 rfl rfl rfl rfl (.cons (.val [] rfl rfl (yz (ya1 (y_c rfl (square30_can)) (ya1 (y_c rfl (square30_can)) ya0))) rfl rfl) <| .cons (.val [1] rfl rfl (yz (ya1 (y_a rfl) (ya1 (y_a rfl) ya0))) rfl rfl) <| .cons (.val [16, 17] rfl rfl (yz (ya1 (y_c rfl (hB)) (ya1 (y_c rfl (hB)) ya0))) rfl rfl) <| .cons (.val [18] rfl rfl (yz (ya1 (y_a rfl) (ya1 (y_a rfl) ya0))) rfl rfl) <| .cons (.val [15] rfl rfl (yz (ya1 (y_a rfl) (ya1 (y_a rfl) ya0))) rfl rfl) <| .cons (.val [15] rfl rfl (yz (ya1 (y_a rfl) (ya1 (y_a rfl) (ya1 (y_a rfl) ya0)))) rfl rfl) <| .cons (.loud [] rfl rfl rfl rfl (l_a rfl) rfl rfl) <| .cons (.loud0 [4, 19] rfl rfl rfl rfl (l_a rfl) rfl) <| .cons (.val [20] rfl rfl (yz (ya1 (y_a rfl) ya0)) rfl rfl) .nil) (keepT_sub (ks := [2, 3, 4, 5]) rfl) ?_
  case grd2 => kernel_rfl
  refine W_rs ?_
  refine WR_c rfl (square30_can) rfl <| WR_c rfl (hC) rfl <| WR_a 6 rfl <| WR_k [2, 3, 4, 5, 6, 7] rfl ?_
  refine W_seq ?_
  refine W_csK 53 (.raw (.bool (false))) [2, 4, 6] rfl ?_ ?_
  · exact .a 28 rfl <| .k [53, 2, 4, 6] rfl
  refine W_cond rfl (fun h => ?_) (fun h => ?_)
  · exact absurd h (by decide)
  · clear h
    refine W_skip ?_
    refine W_csK 0 (.raw (.bool (true))) [] rfl ?_ ?_
    · exact .a 2 rfl <| .v (y_ix (3) rfl (by omega) (by decide)) rfl <| .a 1 rfl <| .v (y_ld rfl ((show _ = some (segsV (nodeS [2, 1])) from rfl))) rfl <| .c rfl (ht) rfl <| .v (y_strEql rfl rfl rfl (beq_self_eq_true (ByteArray.toList ⟨[110, 50, 32, 110, 49].toArray⟩))) rfl <| .a 3 rfl <| .v (y_ix (3) rfl (by omega) (by decide)) rfl <| .a 1 rfl <| .v (y_ld rfl ((show _ = some (intsV [5]) from rfl))) rfl <| .a 1 rfl <| .c rfl (rsame_yes [5]) rfl <| .a 4 rfl <| .v (y_ix (3) rfl (by omega) (by decide)) rfl <| .a 1 rfl <| .v (y_ld rfl ((show _ = some (intsV [5]) from rfl))) rfl <| .a 1 rfl <| .c rfl (rsame_yes [5]) rfl <| .a 4 rfl <| .v (y_ix (3) rfl (by omega) (by decide)) rfl <| .a 1 rfl <| .v (y_ld rfl ((show _ = some (intsV [5, 6]) from rfl))) rfl <| .a 1 rfl <| .c rfl (rsame_yes [5, 6]) rfl <| .a 2 rfl <| .k [0] rfl
    refine W_ret ?_
    exact ⟨_, _, ResL.of rfl, Pur.pure, rfl⟩
theorem rtab_yes (x : Tab) : Can Try.prog 9 [tabV x, tabV x] (· = flag true) := by
  have h := rtab_can x x
  rw [decide_eq_true rfl] at h
  exact h
end PW
end Go.Proofs.Ytbpgndbjbaoolaa

/- The law TransitionNothing, walked. -/
namespace Go.Proofs.Ytbpgndbjbaoolaa
set_option linter.unusedVariables false
set_option linter.unusedSimpArgs false
namespace PW
open Go.RowKit Reg Mem Net Rng

theorem none_down {T : Topo} {g : Int} (h : ∀ i, i < T.links.length → (lnk T.links i).grp ≠ g) (a : Nat) : downN (maskL T 3 g) a = downN [] a := by
  have e : downN [] a = false := by simp [downN]
  rw [mask_down, e]
  by_cases ha : a < 2 * T.links.length
  · rw [decide_eq_true ha, Bool.true_and]
    unfold partB
    rw [if_neg (by decide), if_neg (by decide)]
    exact decide_eq_false (h (a / 2) (by omega))
  · rw [decide_eq_false ha, Bool.false_and]
set_option maxRecDepth 10000 in
set_option maxHeartbeats 1000000 in
theorem lawTNothing_can (c : Q30) (g : Int) : Can Try.prog 3 [q30V c, num g] (· = flag true) := by
  obtain ⟨w1, hw1⟩ : ∃ q, q = true := ⟨_, rfl⟩
  have haw : Can Try.prog 4 [] (· = flag w1) := hw1 ▸ awake30_can
  obtain ⟨w2, hw2⟩ : ∃ q, tooBig c.T = q := ⟨_, rfl⟩
  obtain ⟨w3, hw3⟩ : ∃ q, validB c.T = q := ⟨_, rfl⟩
  obtain ⟨w4, hw4⟩ : ∃ q, decide (c.n < 0) = q := ⟨_, rfl⟩
  obtain ⟨w5, hw5⟩ : ∃ q, decide (c.T.nodes ≤ c.n) = q := ⟨_, rfl⟩
  obtain ⟨w6, hw6⟩ : ∃ q, decide (g < 1) = q := ⟨_, rfl⟩
  obtain ⟨w7, hw7⟩ : ∃ q, decide (64 < g) = q := ⟨_, rfl⟩
  refine can_of Try.func3 rfl Try.ntmps3 rfl ?_
  refine W_cs (.a 2 rfl <| .k [1, 2] rfl) ?_
  refine W_seq ?_
  refine W_csK 43 (.raw (.bool (((((((!w1) || w2) || !w3) || w4) || w5) || w6) || w7))) [1, 2] rfl ?_ ?_
  · refine .c rfl (haw) rfl <| .a 2 rfl <| ?_
    cases w1
    · exact .a 30 rfl <| .k [43, 1, 2] rfl
    · refine .a 1 rfl <| .c rfl (hw2 ▸ large30_can c) rfl <| .a 2 rfl <| ?_
      cases w2
      · refine .a 2 rfl <| .c rfl (hw3 ▸ rvalid_can c.T) rfl <| .a 3 rfl <| ?_
        cases w3
        · exact .a 20 rfl <| .k [43, 1, 2] rfl
        · refine .a 2 rfl <| .v (y_q rfl (hw4)) rfl <| .a 2 rfl <| ?_
          cases w4
          · refine .a 5 rfl <| .v (y_q rfl (hw5)) rfl <| .a 2 rfl <| ?_
            cases w5
            · refine .a 1 rfl <| .v (y_q rfl (hw6)) rfl <| .a 2 rfl <| ?_
              cases w6
              · exact .a 1 rfl <| .v (y_q rfl (hw7)) rfl <| .a 1 rfl <| .k [43, 1, 2] rfl
              · exact .a 3 rfl <| .k [43, 1, 2] rfl
            · exact .a 7 rfl <| .k [43, 1, 2] rfl
          · exact .a 15 rfl <| .k [43, 1, 2] rfl
      · exact .a 26 rfl <| .k [43, 1, 2] rfl
  refine W_cond rfl (fun hc => ?_) (fun hc => ?_)
  · skip
    refine W_cs (.c rfl (awake30_can) rfl <| .a 1 rfl <| .k [4] rfl) ?_
    refine W_ret ?_
    exact ⟨_, _, ResL.of rfl, Pur.pure, rfl⟩
  · have hall : w3 = true ∧ w4 = false ∧ w5 = false ∧ w6 = false ∧ w7 = false := by cases w3 <;> cases w4 <;> cases w5 <;> cases w6 <;> cases w7 <;> simp at hc ⊢
    obtain ⟨rfl, rfl, rfl, rfl, rfl⟩ := hall
    have hv := hw3
    have hll := links_le hv
    have n0 := ff hw4
    have n1 := ff hw5
    have g0 := ff hw6
    have g1 := ff hw7
    have hn : nodeB c.T c.n = true := nodeB_iff.2 ⟨by omega, by omega⟩
    clear hw4 hw5 hw6 hw7 hc hw1 hw2 haw
    refine W_skip ?_
    refine W_seq ?_
    refine W_cs (.a 5 rfl <| .k [1, 2, 47, 48, 49] rfl) ?_
    refine W_block ?_
    refine W_k [1, 2, 47, 48, 49] rfl ?_
    refine W_loop (fun r s => ∃ i, i ≤ c.T.links.length ∧ r = c.T.links.length - i ∧ (∀ j, j < i → (lnk c.T.links j).grp ≠ g) ∧ s = ⟨[(1, num g), (2, .pin (q30P c) 0), (47, .slice c.T.links.length (lnksP c.T.links)), (48, num c.T.links.length), (49, num i)], []⟩) c.T.links.length ⟨0, by omega, by omega, fun j h => by omega, rfl⟩ ?_
    rintro r s ⟨i, hi, rfl, hno, rfl⟩
    refine W_cs (.a 1 rfl <| .k [1, 2, 47, 48, 49, 50] rfl) ?_
    refine W_seq ?_
    refine W_cond rfl (fun h1 => ?_) (fun h1 => ?_)
    · have hlt : i < c.T.links.length := by have := tt h1; omega
      have hdr := lnks_drop7 c.T.links i hlt
      obtain ⟨e, he⟩ : ∃ e, lnk c.T.links i = e := ⟨_, rfl⟩
      rw [he] at hdr
      refine W_skip ?_
      refine W_seq ?_
      refine W_block ?_
      refine W_rs ?_
      refine WR_v (y_ix ((i * 7)) rfl) rfl <| WR_v (y_la rfl (hdr) rfl) rfl <| WR_a 2 rfl <| WR_k [1, 2, 6, 47, 48, 49] rfl ?_
      refine W_cs (.a 1 rfl <| .v (y_ld rfl ((show (lnkP e)[6]? = some (num e.grp) from rfl))) rfl <| .a 2 rfl <| .k [1, 2, 47, 48, 49, 56] rfl) ?_
      refine W_cond rfl (fun h2 => ?_) (fun h2 => ?_)
      · skip
        refine W_cs (.a 1 rfl <| .k [4] rfl) ?_
        refine W_ret ?_
        exact ⟨_, _, ResL.of rfl, Pur.pure, rfl⟩
      · have h2 := ff h2
        refine W_skip ?_
        refine W_ren [] (.c 1 <| .c 2 <| .c 47 <| .c 48 <| .c 49 <| .nil) .nil rfl rfl ?_
        refine W_chain (.v (y_ar rfl) rfl <| .a 1 rfl <| .k [1, 2, 47, 48, 49] rfl) ?_
        exact ⟨c.T.links.length - (i + 1), by omega, i + 1, by omega, rfl, fun j hj => by
          by_cases e' : j = i
          · subst e'; rw [he]; exact h2
          · exact hno j (by omega), rfl⟩
    · have hie : i = c.T.links.length := by have := ff h1; omega
      subst hie
      clear h1
      have hA := told_can c.T c.n
      have hC := tfin_can c.T 3 g c.n
      have hcp : compB c.T 3 g = true := by
        unfold compB
        simp only [if_neg (show ¬ (3 : Int) = 1 by decide), if_neg (show ¬ (3 : Int) = 2 by decide), if_true, Bool.and_eq_true, decide_eq_true_eq]
        exact ⟨by omega, by omega⟩
      have e1 : trnE c.T 3 g c.n = 0 := by
        unfold trnE maskE
        rw [hv, hcp, hn]
        rfl
      have e2 : chkE c.T [] [c.n] = 0 := by
        unfold chkE
        rw [hv, fits_nil]
        simp [hn]
      rw [e1, routes_mask hv _ (none_down hno)] at hC
      rw [e2] at hA
      unfold tabE at hA hC
      rw [if_pos rfl] at hA hC
      generalize routesT c.T [] c.n.toNat = tA at hA hC
      obtain ⟨q1, h1⟩ : ∃ q, decide ((0 : Int) = 0) = q := ⟨_, rfl⟩
      have q1t : q1 = true := by rw [← h1]; rfl
      obtain ⟨q3, h3⟩ : ∃ q, q = true := ⟨_, rfl⟩
      have hsA := rtab_yes tA
      rw [← h3] at hsA
      refine W_exit ?_
      refine W_rs ?_
      refine WR_a 4 rfl <| WR_c rfl (hA) rfl <| WR_a 6 rfl <| WR_k [1, 2, 7, 8] rfl ?_
      refine W_rs ?_
      refine WR_a 6 rfl <| WR_c rfl (hC) rfl <| WR_a 6 rfl <| WR_k [7, 8, 9, 10] rfl ?_
      refine W_csK 4 (.raw (.bool ((q1 && q1) && q3))) [] rfl ?_ ?_
      · refine .a 1 rfl <| .v (y_q rfl (h1)) rfl <| .a 1 rfl <| ?_
        cases q1
        · exact .a 9 rfl <| .k [4] rfl
        · exact .a 1 rfl <| .v (y_q rfl (h1)) rfl <| .a 4 rfl <| .c rfl (hsA) rfl <| .a 2 rfl <| .k [4] rfl
      refine W_ret ?_
      exact ⟨_, _, ResL.of rfl, Pur.pure, by rw [q1t, h3]; rfl⟩
end PW
end Go.Proofs.Ytbpgndbjbaoolaa

namespace Go.Proofs.Ytbpgndbjbaoolaa.transitionNothing
set_option linter.unusedVariables false
set_option linter.unusedSimpArgs false
open Go.ChangeShapes Go.WideShapes Go.ChangeAt Go.RowKit
open Reg Mem PW
set_option maxRecDepth 10000 in
theorem rd_i64 {H : Type} {enc : TypeId × Value → H} {W : World} {base : Nat} {v : Value} {d : DataW H} {p : List MemPlace} (hv : Value.okWide Try.prog W .any base 3 v) (h : DataW.Trod enc Try.prog W 0 (fun _ => true) true 3 v d p) : ∃ n : Int, Rep EN W v (num n) := by
  obtain ⟨n, rfl, _, _, hw⟩ := open_int Try.underlying3 hv h
  exact ⟨n, .raw _⟩
set_option maxRecDepth 100000 in
theorem lifted (os : Os) (started : os.Started) (H : Type) (enc : TypeId × Value → H) :
    ReturnsInHanded {} Try.checked os 3 .any (Rows.transitionNothingSpec.pre6 enc Try.prog Try.f3 Rows.transitionNothingRow.domain false) (Rows.transitionNothingSpec.post enc Try.prog Try.f3 false true false false) := by
  refine returnsInHanded_of_change (C := Try.checked) own started (by kernel_rfl) Try.func3
    (ChangeSpec.witness6 (enc := enc) (C := Try.checked) false ⟨#[], #[.agg #[.int .i64 0, .slice none 0 0, .slice none 0 0, .int .i64 0, .int .i64 0, .int .i64 0], .int .i64 0], []⟩ 8 (by kernel_rfl) (by kernel_rfl) (by kernel_rfl) (by kernel_rfl)) ?_
  intro W base args ds gs before hval0 hW hcnd _
  have hval : ∀ (j : Nat) t v, Try.f3.params[j]? = some t → args[j]? = some v → Value.okWide Try.prog W .any base t v := hval0
  have hW' := hW
  obtain ⟨p, q, hA0, hV, rfl, hfz, hnd⟩ := hW
  have hA : DataW.TrodAll enc Try.prog W 0 (fun _ => true) true Try.f3.params.toList args.toList ds p := hA0
  rw [Try.params3] at hA hval
  obtain ⟨v0, vs0, d0, ds0, p0, q0, hargs, rfl, rfl, h0, r0⟩ := trodAll_cons hA
  obtain ⟨v1, vs1, d1, ds1, p1, q1, rfl, rfl, rfl, h1, r1⟩ := trodAll_cons r0
  obtain ⟨rfl, rfl, rfl⟩ := trodAll_nil r1
  obtain rfl : args = #[v0, v1] := by cases args; simp_all
  obtain ⟨rfl, rfl⟩ := trodVars_none hV
  have lt0 := lt_of h0
  obtain ⟨c, R0⟩ := rd_q30 (hval 0 29 v0 rfl rfl) h0
  have lt1 := lt_of h1
  obtain ⟨g, R1⟩ := rd_i64 (hval 1 3 v1 rfl rfl) h1
  clear hA0 hval0
  refine ((lawTNothing_can c g) (fun _ => False) W #[v0, v1] (fun _ h => h.elim) (noGlob _ W) (RepL.cons R0 (RepL.cons R1 (RepL.nil _ _)))).mono fun e W' ⟨x, he, bel, r, hr, hx⟩ => ?_
  subst hr
  cases hx
  subst he
  exact ⟨_, rfl, _, _, _, [], _, [], hW', trodAll_mk1 (shut_bool Try.underlying4 _), (trodAll_cons_mk (Below.trod laidOut (by kernel_rfl) (of_decide_eq_true (by kernel_rfl)) h0 bel lt0) (trodAll_cons_mk (Below.trod laidOut (by kernel_rfl) (of_decide_eq_true (by kernel_rfl)) h1 bel lt1) trodAll_mk0)), rfl, bel.frame _, fun h => by cases h⟩

theorem over : Rows.transitionNothingRow.holds Try.pinned (OpenSpec.ofChange Rows.transitionNothingSpec) :=
  OpenClaim.holds_of_wide 3 Try.f3 rfl rfl rfl rfl rfl rfl rfl ⟨rfl, rfl, rfl, rfl, rfl⟩ rfl rfl rfl rfl rfl (by kernel_rfl) Try.func3 (by kernel_rfl)
    (of_decide_eq_true (by kernel_rfl)) (by unfold Func.isWrapper; first | (rw [if_pos (by decide +kernel)]; kernel_rfl) | (rw [if_neg (by decide +kernel)]; exact ⟨rfl, rfl⟩))
    (fun os started H enc _ => lifted os started H enc)

theorem proved : Rows.TransitionNothingSaid := over
end Go.Proofs.Ytbpgndbjbaoolaa.transitionNothing
