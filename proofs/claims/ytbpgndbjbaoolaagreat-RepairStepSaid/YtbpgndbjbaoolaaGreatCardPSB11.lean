/- Texts of the proof, part 11. -/
import Derived.Test.YtbpgndbjbaoolaaGreatCardPSB10
/- Pure walks: a region that draws its order, whose operations on the store stand in one order among themselves. No program in sight. -/
namespace Go.Proofs.YtbpgndbjbaoolaaGreat
set_option linter.unusedVariables false
set_option linter.unusedSimpArgs false
namespace PW
open Go.RowKit Reg Mem

/-- Of an operation: what it leaves; its place among those that change the store; between which stores it may stand. -/
structure GD where
  p : PV
  r : Option Nat
  lo : Nat
  hi : Nat
section
variable {P : Program} {N L : Nat}
inductive GK (P : Program) (N : Nat) (ops : Array Oper) (σs : List Sto) (T : Tms) (o : Oper) : GD → Prop
  | val {p : PV} {d lo hi : Nat} (ks : List Nat) (hks : (ks.all fun k => (o.looksAt ops).contains k) = true) (hw : wantB ops T o = some true) (hy : ∀ r σ, lo ≤ r → r ≤ hi → σs[r]? = some σ → Yield P σ (pickT T ks) o p) (hd : o.dst = some d) (hN : Nat.blt d N = true) : GK P N ops σs T o ⟨p, none, lo, hi⟩
  | skip {d lo hi : Nat} (hw : wantB ops T o = some false) (hd : o.dst = some d) (hN : Nat.blt d N = true) : GK P N ops σs T o ⟨.raw undef, none, lo, hi⟩
  | loud {p : PV} {d r lo hi : Nat} {σ σ' : Sto} (ks : List Nat) (hks : (ks.all fun k => (o.looksAt ops).contains k) = true) (hw : wantB ops T o = some true) (h1 : σs[r]? = some σ) (h2 : σs[r + 1]? = some σ') (hy : Loud P σ (pickT T ks) o p σ') (hd : o.dst = some d) (hN : Nat.blt d N = true) : GK P N ops σs T o ⟨p, some r, lo, hi⟩
  | loud0 {p : PV} {r lo hi : Nat} {σ σ' : Sto} (ks : List Nat) (hks : (ks.all fun k => (o.looksAt ops).contains k) = true) (hw : wantB ops T o = some true) (h1 : σs[r]? = some σ) (h2 : σs[r + 1]? = some σ') (hy : Loud P σ (pickT T ks) o p σ') (hd : o.dst = none) : GK P N ops σs T o ⟨p, some r, lo, hi⟩
inductive GL (P : Program) (N : Nat) (ops : Array Oper) (σs : List Sto) (T : Tms) : List Oper → List GD → Prop
  | nil : GL P N ops σs T [] []
  | cons {o : Oper} {g : GD} {l : List Oper} {gs : List GD} : GK P N ops σs T o g → GL P N ops σs T l gs → GL P N ops σs T (o :: l) (g :: gs)
theorem GL.get {ops : Array Oper} {σs : List Sto} {T : Tms} : ∀ {l : List Oper} {gs : List GD}, GL P N ops σs T l gs → gs.length = l.length ∧ ∀ (i : Nat) o g, l[i]? = some o → gs[i]? = some g → GK P N ops σs T o g
  | _, _, .nil => ⟨rfl, fun i o g h => by simp at h⟩
  | _, _, .cons h hs => by
    obtain ⟨h1, h2⟩ := hs.get
    refine ⟨by simp [h1], fun i o g ho hg => ?_⟩
    cases i with
    | zero => simp at ho hg; subst ho; subst hg; exact h
    | succ i => exact h2 i o g (by simpa using ho) (by simpa using hg)
def rkOf (gs : List GD) (i : Nat) : Option Nat := (gs[i]?).bind (·.r)
/-- The form of such a region; m: how many operations change the store. -/
def grdB (ops : Array Oper) (f m : Nat) (gs : List GD) : Bool :=
  Nat.beq gs.length ops.size &&
  ((List.range ops.size).all fun i => (aft ops i).all fun k => decide (k < i)) &&
  ((List.range ops.size).all fun i => (List.range i).all fun j => (dstOf ops i).isNone || dstOf ops i != dstOf ops j) &&
  ((List.range ops.size).all fun j => (looksOf ops j).all fun k => (List.range ops.size).all fun i => dstOf ops i != some k || reachB ops f j i) &&
  ((List.range ops.size).all fun i => match gs[i]? with
    | some ⟨_, some r, _, _⟩ => decide (r < m) && (Nat.beq r 0 || (List.range ops.size).any fun j => rkOf gs j == some (r - 1) && reachB ops f i j)
    | some ⟨_, none, lo, hi⟩ => (Nat.beq lo 0 || (List.range ops.size).any fun j => rkOf gs j == some (lo - 1) && reachB ops f i j) && (Nat.ble m hi || (List.range ops.size).any fun j => rkOf gs j == some hi && reachB ops f j i)
    | none => false) &&
  ((List.range ops.size).all fun i => (List.range i).all fun j => (rkOf gs i).isNone || rkOf gs i != rkOf gs j) &&
  ((List.range m).all fun r => (List.range ops.size).any fun j => rkOf gs j == some r)
structure Grd (ops : Array Oper) (f m : Nat) (gs : List GD) : Prop where
  len : gs.length = ops.size
  aft : ∀ i, i < ops.size → ∀ k ∈ aft ops i, k < i
  ss : ∀ i j d, i < ops.size → j < ops.size → dstOf ops i = some d → dstOf ops j = some d → i = j
  rd : ∀ j, j < ops.size → ∀ k ∈ looksOf ops j, ∀ i, i < ops.size → dstOf ops i = some k → reachB ops f j i = true
  loud : ∀ (i : Nat) g r, gs[i]? = some g → g.r = some r → r < m ∧ (r = 0 ∨ ∃ j, j < ops.size ∧ rkOf gs j = some (r - 1) ∧ reachB ops f i j = true)
  quiet : ∀ (i : Nat) g, gs[i]? = some g → g.r = none → (g.lo = 0 ∨ ∃ j, j < ops.size ∧ rkOf gs j = some (g.lo - 1) ∧ reachB ops f i j = true) ∧ (m ≤ g.hi ∨ ∃ j, j < ops.size ∧ rkOf gs j = some g.hi ∧ reachB ops f j i = true)
  one : ∀ i j r, i < ops.size → j < ops.size → rkOf gs i = some r → rkOf gs j = some r → i = j
  has : ∀ r, r < m → ∃ j, j < ops.size ∧ rkOf gs j = some r
theorem grdB_grd {ops : Array Oper} {f m : Nat} {gs : List GD} (h : grdB ops f m gs = true) : Grd ops f m gs := by
  unfold grdB at h
  simp only [Bool.and_eq_true] at h
  obtain ⟨⟨⟨⟨⟨⟨h1, h2⟩, h3⟩, h4⟩, h5⟩, h6⟩, h7⟩ := h
  have hl : gs.length = ops.size := Nat.eq_of_beq_eq_true h1
  have all : ∀ {n : Nat} {p : Nat → Bool}, (List.range n).all p = true → ∀ i, i < n → p i = true := fun h i hi => List.all_eq_true.1 h i (List.mem_range.2 hi)
  have any : ∀ {n : Nat} {p : Nat → Bool}, (List.range n).any p = true → ∃ i, i < n ∧ p i = true := fun h => by
    obtain ⟨i, hi, hp⟩ := List.any_eq_true.1 h
    exact ⟨i, List.mem_range.1 hi, hp⟩
  have s3 : ∀ i j d, i < ops.size → j < i → dstOf ops i = some d → dstOf ops j = some d → False := fun i j d hi hj e1 e2 => by
    have := all (all h3 i hi) j hj
    rw [e1, e2] at this
    simp at this
  have s6 : ∀ i j r, i < ops.size → j < i → rkOf gs i = some r → rkOf gs j = some r → False := fun i j r hi hj e1 e2 => by
    have := all (all h6 i hi) j hj
    rw [e1, e2] at this
    simp at this
  refine ⟨hl, fun i hi k hk => ?_, fun i j d hi hj e1 e2 => ?_, fun j hj k hk i hi hd => ?_, fun i g r hg hr => ?_, fun i g hg hr => ?_, fun i j r hi hj e1 e2 => ?_, fun r hr => ?_⟩
  · have := List.all_eq_true.1 (all h2 i hi) k hk; simpa using this
  · rcases Nat.lt_trichotomy i j with h | h | h
    · exact (s3 j i d hj h e2 e1).elim
    · exact h
    · exact (s3 i j d hi h e1 e2).elim
  · have := all (List.all_eq_true.1 (all h4 j hj) k hk) i hi
    rw [hd] at this
    simpa using this
  · have hi : i < ops.size := by rw [← hl]; exact (List.getElem?_eq_some_iff.1 hg).1
    have := all h5 i hi
    obtain ⟨p, r', lo, hi'⟩ := g
    simp only at hr
    subst hr
    rw [hg] at this
    simp only [Bool.and_eq_true, decide_eq_true_eq, Bool.or_eq_true] at this
    refine ⟨this.1, ?_⟩
    rcases this.2 with h | h
    · exact .inl (Nat.eq_of_beq_eq_true h)
    · obtain ⟨j, hj, h'⟩ := any h
      simp only [Bool.and_eq_true, beq_iff_eq] at h'
      exact .inr ⟨j, hj, h'.1, h'.2⟩
  · have hi : i < ops.size := by rw [← hl]; exact (List.getElem?_eq_some_iff.1 hg).1
    have := all h5 i hi
    obtain ⟨p, r', lo, hi'⟩ := g
    simp only at hr
    subst hr
    rw [hg] at this
    simp only [Bool.and_eq_true, Bool.or_eq_true] at this
    refine ⟨?_, ?_⟩
    · rcases this.1 with h | h
      · exact .inl (Nat.eq_of_beq_eq_true h)
      · obtain ⟨j, hj, h'⟩ := any h
        simp only [Bool.and_eq_true, beq_iff_eq] at h'
        exact .inr ⟨j, hj, h'.1, h'.2⟩
    · rcases this.2 with h | h
      · exact .inl (Nat.ble_eq.mp h)
      · obtain ⟨j, hj, h'⟩ := any h
        simp only [Bool.and_eq_true, beq_iff_eq] at h'
        exact .inr ⟨j, hj, h'.1, h'.2⟩
  · rcases Nat.lt_trichotomy i j with h | h | h
    · exact (s6 j i r hj h e2 e1).elim
    · exact h
    · exact (s6 i j r hi h e1 e2).elim
  · obtain ⟨j, hj, h⟩ := any (all h7 r hr)
    exact ⟨j, hj, by simpa using h⟩
/-- On the way through such a region. -/
structure Grg (base N : Nat) (F : Nat → Prop) (l : List Oper) (gs : List GD) (σs : List Sto) (t : Tms) (ls : Array Bool) (r : Nat) (E : Env) (a : Act) (w : World) : Prop where
  size : ls.size = l.length
  down : Down l.toArray ls
  rk : ∀ i s, i < l.length → rkOf gs i = some s → (ls.getD i true = true ↔ s < r)
  sat : ∃ σ, σs[r]? = some σ ∧ Sat F base σ E w
  dfr : a.defers = []
  tmps : a.tmps.size = N
  t0 : RepT E w a.eval t
  got : ∀ j d g, j < l.length → ls.getD j true = true → dstOf l.toArray j = some d → gs[j]? = some g → Rep E w (a.eval (.tmp d)) g.p
theorem ls_get (ls : Array Bool) (i j : Nat) (b : Bool) (hi : i < ls.size) : (ls.setIfInBounds i true).getD j b = if j = i then true else ls.getD j b := by
  by_cases e : j = i
  · subst e; simp [hi]
  · rw [if_neg e]
    simp only [Array.getD_eq_getD_getElem?, Array.getElem?_setIfInBounds_ne (Ne.symm e)]
theorem ls_irr {ls : Array Bool} {i : Nat} (hi : i < ls.size) (b c : Bool) : ls.getD i b = ls.getD i c := by simp [hi]
section
variable {l : List Oper} {gs : List GD} {σs : List Sto} {t T : Tms} {f m base : Nat} {F : Nat → Prop}
theorem Grg.reach (hG : Grd l.toArray f m gs) {ls : Array Bool} {r : Nat} {E : Env} {a : Act} {w : World} (h : Grg base N F l gs σs t ls r E a w) {i j : Nat} (hi : i < l.length) (hr : reachB l.toArray f i j = true) (hk : ∀ k ∈ aft l.toArray i, ls.getD k false = true) : ls.getD j true = true := by
  have := reach_listed (by rw [h.size]; simp) h.down (fun i hi => hG.aft i hi) f i j (by simpa using hi) hr hk
  by_cases hj : j < ls.size
  · rw [ls_irr hj true false]; exact this
  · simp [hj]
theorem Grg.looks (hG : Grd l.toArray f m gs) (hT : addT l (gs.map (·.p)) t = T) {ls : Array Bool} {r : Nat} {E : Env} {a : Act} {w : World} (h : Grg base N F l gs σs t ls r E a w) {i : Nat} (hi : i < l.length) (hk : ∀ k ∈ aft l.toArray i, ls.getD k false = true) :
    ∀ k ∈ looksOf l.toArray i, ∀ p, look k T = some p → Rep E w (a.eval (.tmp k)) p := fun k hks p hp => by
  rw [← hT] at hp
  rcases look_add _ _ _ k p hp with ⟨j, o, h1, h2, h3⟩ | h'
  · rw [List.getElem?_map, Option.map_eq_some_iff] at h3
    obtain ⟨g, hg, rfl⟩ := h3
    have hj : j < l.length := (List.getElem?_eq_some_iff.1 h1).1
    have hd : dstOf l.toArray j = some k := by simp only [dstOf, List.getElem?_toArray, h1, Option.bind_some, h2]
    have hr := hG.rd i (by simpa using hi) k hks j (by simpa using hj) hd
    exact h.got j k g hj (h.reach hG hi hr hk) hd hg
  · exact h.t0 k p h'
/-- One operation more. -/
theorem Grg.put (hG : Grd l.toArray f m gs) (hfr : ∀ i d, i < l.length → dstOf l.toArray i = some d → look d t = none) {ls : Array Bool} {r r' : Nat} {E E' : Env} {a : Act} {w w' : World} (h : Grg base N F l gs σs t ls r E a w) {i : Nat} {g : GD} {v : Value} (hi : i < l.length) (hu : ls.getD i true = false) (hk : ∀ k ∈ aft l.toArray i, ls.getD k false = true) (hg : gs[i]? = some g) (hgo : Goes E w E' w')
    (hs : ∃ σ, σs[r']? = some σ ∧ Sat F base σ E' w') (hr : (g.r = none ∧ r' = r) ∨ (g.r = some r ∧ r' = r + 1)) {o : Oper} (ho : l[i]? = some o) (hdN : ∀ d, o.dst = some d → d < N) (hv : ∀ d, o.dst = some d → Rep E' w' v g.p) :
    Grg base N F l gs σs t (ls.setIfInBounds i true) r' E' (a.put o.dst v) w' := by
  have hil : i < ls.size := by rw [h.size]; exact hi
  have hrk : rkOf gs i = g.r := by simp only [rkOf, hg, Option.bind_some]
  have hdi : dstOf l.toArray i = o.dst := by simp only [dstOf, List.getElem?_toArray, ho, Option.bind_some]
  refine ⟨by simpa using h.size, fun j hj hjs k hkj => ?_, fun j s hj hs' => ?_, hs, by cases o.dst <;> simpa [Act.put] using h.dfr, by cases o.dst <;> simpa [Act.put] using h.tmps, fun k p hkp => ?_, fun j d g' hj hjl hd hg' => ?_⟩
  · rw [ls_get _ _ _ _ hil] at hj ⊢
    split
    · rfl
    · by_cases e : j = i
      · subst e; exact hk k hkj
      · rw [if_neg e] at hj
        exact h.down j hj hjs k hkj
  · rw [ls_get _ _ _ _ hil]
    by_cases e : j = i
    · subst e
      rw [if_pos rfl]
      rw [hrk] at hs'
      rcases hr with ⟨h1, _⟩ | ⟨h1, h2⟩
      · rw [h1] at hs'; cases hs'
      · rw [h1] at hs'; cases hs'; exact ⟨fun _ => by omega, fun _ => rfl⟩
    · rw [if_neg e, h.rk j s hj hs']
      rcases hr with ⟨_, h2⟩ | ⟨h1, h2⟩
      · rw [h2]
      · have : s ≠ r := fun e' => e (hG.one j i r (by simpa using hj) (by simpa using hi) (by rw [hs', e']) (by rw [hrk, h1]))
        omega
  · have hne : ∀ d, o.dst = some d → k ≠ d := fun d hd e => by
      subst e
      rw [hfr i k hi (by rw [hdi, hd])] at hkp; cases hkp
    have : (a.put o.dst v).eval (.tmp k) = a.eval (.tmp k) := Act.eval_put fun d hd heq => by cases heq; exact hne _ hd rfl
    rw [this]
    exact (h.t0 k p hkp).goes hgo
  · rw [ls_get _ _ _ _ hil] at hjl
    by_cases e : j = i
    · subst e
      rw [hdi] at hd
      rw [hg] at hg'; cases hg'
      rw [hd, put_eval a (by rw [h.tmps]; exact hdN d hd), if_pos rfl]
      exact hv d hd
    · rw [if_neg e] at hjl
      have hne : ∀ d', o.dst = some d' → d ≠ d' := fun d' hd' e' => by
        subst e'
        exact e (hG.ss j i d (by simpa using hj) (by simpa using hi) hd (by rw [hdi, hd']))
      have : (a.put o.dst v).eval (.tmp d) = a.eval (.tmp d) := Act.eval_put fun d' hd' heq => by cases heq; exact hne _ hd' rfl
      rw [this]
      exact (h.got j d g' hj hjl hd hg').goes hgo
theorem grd_any (hG : Grd l.toArray f m gs) (hT : addT l (gs.map (·.p)) t = T) (hfr : ∀ i d, i < l.length → dstOf l.toArray i = some d → look d t = none) (hL : GL P N l.toArray σs T l gs) {σm : Sto} (hm : σs[m]? = some σm) {Q : Exit → Act → World → Prop} {E₀ : Env} {w₀ : World} (hq : ∀ a' w' E', Sat F base σm E' w' → RepT E' w' a'.eval T → a'.defers = [] → a'.tmps.size = N → Goes E₀ w₀ E' w' → Below base w₀ w' → Q .normal a' w') :
    ∀ (fuel : Nat) (ls : Array Bool) (r : Nat) (E : Env) (a : Act) (w : World), Grg base N F l gs σs t ls r E a w → unlisted ls l.length = fuel → Goes E₀ w₀ E w → Below base w₀ w → r ≤ m → wpAny P .any l.toArray Q fuel ls a w := by
  obtain ⟨hgl, hget⟩ := hL.get
  intro fuel
  induction fuel with
  | zero =>
    intro ls r E a w h hu hgo hb hrm
    have hall := unlisted_zero hu
    have hrm' : r = m := by
      rcases Nat.lt_or_ge r m with h' | h'
      · obtain ⟨j, hj, hjr⟩ := hG.has r h'
        have hj : j < l.length := by simpa using hj
        have := (h.rk j r hj hjr).1 (hall j hj)
        omega
      · omega
    subst hrm'
    refine ⟨List.eq_nil_iff_forall_not_mem.2 fun i hi => ?_, ?_⟩
    · obtain ⟨h1, h2, _⟩ := ready_iff.1 hi
      rw [hall i (by simpa using h1)] at h2; cases h2
    · obtain ⟨σ, hσ, hs⟩ := h.sat
      rw [hm] at hσ; cases hσ
      refine hq a w E hs (fun k p hkp => ?_) h.dfr h.tmps hgo hb
      rw [← hT] at hkp
      rcases look_add _ _ _ k p hkp with ⟨j, o, h1, h2, h3⟩ | h'
      · rw [List.getElem?_map, Option.map_eq_some_iff] at h3
        obtain ⟨g, hg, rfl⟩ := h3
        have hj : j < l.length := (List.getElem?_eq_some_iff.1 h1).1
        exact h.got j k g hj (hall j hj) (by simp only [dstOf, List.getElem?_toArray, h1, Option.bind_some, h2]) hg
      · exact h.t0 k p h'
  | succ fuel ih =>
    intro ls r E a w h hu hgo hb hrm
    obtain ⟨i0, hi0, hi1, hi2⟩ := unlisted_pos (ls := ls) (m := l.length) (by omega)
    have hi0r : i0 ∈ Region.ready .any l.toArray ls := ready_iff.2 ⟨by simpa using hi0, hi1, fun k hk => by
      have := hG.aft i0 (by simpa using hi0) k hk
      rw [ls_irr (by rw [h.size]; omega) false true]; exact hi2 k this⟩
    refine ⟨fun h0 => absurd hi0r (by rw [h0]; simp), fun i hi => ?_⟩
    obtain ⟨h1, h2, h3⟩ := ready_iff.1 hi
    have hil : i < l.length := by simpa using h1
    have ho : l[i]? = some l[i] := by simp [hil]
    have hgi : gs[i]? = some (gs[i]'(by omega)) := by simp
    have hK := hget i _ _ ho hgi
    generalize hgg : gs[i]'(by omega) = g at hgi hK
    generalize hoo : l[i] = o at ho hK
    have hlk := h.looks hG hT hil h3
    have hlo : looksOf l.toArray i = o.looksAt l.toArray := by simp only [looksOf, List.getElem?_toArray, ho]
    rw [hlo] at hlk
    have hpk : ∀ ks : List Nat, (ks.all fun k => (o.looksAt l.toArray).contains k) = true → RepT E w a.eval (pickT T ks) := fun ks hks k p hkp => by
      obtain ⟨e1, e2⟩ := look_pick ks k p hkp
      exact hlk k (by have := List.all_eq_true.1 hks k e1; simpa using this) p e2
    have hwant : ∀ b, wantB l.toArray T o = some b → Region.wanted o (yielded l.toArray a.tmps) = b := fun b hb => by
      rw [wantedR_eval]; exact wantB_looks (fun k hk p hp => hlk k hk p hp) hb
    have hun : unlisted (ls.setIfInBounds i true) l.length = fuel := by have := unlisted_set h2 hil (by rw [h.size]; omega); omega
    unfold wpOp
    have ho' : l.toArray[i]? = some o := by simpa using ho
    simp only [ho']
    have hrk : rkOf gs i = g.r := by simp only [rkOf, hgi, Option.bind_some]
    cases hK with
    | @val p d lo hi ks hks hw hy hd hN =>
      rw [hwant true hw, if_pos rfl]
      left
      obtain ⟨σ, hσ, hs⟩ := h.sat
      obtain ⟨q1, q2⟩ := hG.quiet i _ hgi rfl
      have hlo' : lo ≤ r := by
        rcases q1 with e | ⟨j, hj, hj1, hj2⟩
        · simp only at e; omega
        · have := (h.rk j _ (by simpa using hj) hj1).1 (h.reach hG hil hj2 h3)
          simp only at this; omega
      have hhi' : r ≤ hi := by
        rcases q2 with e | ⟨j, hj, hj1, hj2⟩
        · simp only at e; omega
        · rcases Nat.lt_or_ge hi r with h' | h'
          · have hjl : j < l.length := by simpa using hj
            have e1 := (h.rk j _ hjl hj1).2 h'
            have e2 := h.reach hG hjl hj2 (h.down j e1 hj)
            rw [h2] at e2; cases e2
          · exact h'
      refine upon_of (hy r σ hlo' hhi' hσ F base E a.eval w (isEval a) hs (hpk ks hks)) fun v w' hE hv => ?_
      exact ih _ r E _ w' (h.put hG hfr hil h2 h3 hgi (.ext hE) ⟨σ, hσ, hs.ext hE⟩ (.inl ⟨rfl, rfl⟩) ho (fun d' hd' => by rw [hd] at hd'; cases hd'; exact Nat.blt_eq.mp hN) (fun _ _ => hv)) hun (hgo.trans (.ext hE)) (hb.trans (Below.ofExt hE hs.bl)) hrm
    | @skip d lo hi hw hd hN =>
      rw [hwant false hw, if_neg (by simp)]
      exact ih _ r E _ w (h.put hG hfr hil h2 h3 hgi (Goes.refl _ _) h.sat (.inl ⟨rfl, rfl⟩) ho (fun d' hd' => by rw [hd] at hd'; cases hd'; exact Nat.blt_eq.mp hN) (fun _ _ => .raw _)) hun hgo hb hrm
    | @loud p d r0 lo hi σ σ' ks hks hw e1 e2 hy hd hN =>
      rw [hwant true hw, if_pos rfl]
      left
      obtain ⟨q1, q2⟩ := hG.loud i _ r0 hgi rfl
      have hr0 : r0 = r := by
        have n1 : ¬ r0 < r := fun h' => by
          have := (h.rk i r0 hil hrk).2 h'
          rw [h2] at this; cases this
        rcases q2 with e | ⟨j, hj, hj1, hj2⟩
        · omega
        · have := (h.rk j _ (by simpa using hj) hj1).1 (h.reach hG hil hj2 h3)
          omega
      subst hr0
      obtain ⟨σ0, hσ, hs⟩ := h.sat
      rw [e1] at hσ; cases hσ
      obtain ⟨v, w', E', hr, k1, k2, k3, k4⟩ := hy F base E a.eval w (isEval a) hs (hpk ks hks)
      have hn' := ih _ (r0 + 1) E' (a.put o.dst v) w' (h.put hG hfr hil h2 h3 hgi k2 ⟨σ', e2, k1⟩ (.inr ⟨rfl, rfl⟩) ho (fun d' hd' => by rw [hd] at hd'; cases hd'; exact Nat.blt_eq.mp hN) (fun _ _ => k4)) hun (hgo.trans k2) (hb.trans k3) (by omega)
      unfold Oper.wp
      rcases hr with hr | ⟨rfl, hr⟩
      · rw [hr]; exact hn'
      · rw [hr]; exact hn'
    | @loud0 p r0 lo hi σ σ' ks hks hw e1 e2 hy hd =>
      rw [hwant true hw, if_pos rfl]
      left
      obtain ⟨q1, q2⟩ := hG.loud i _ r0 hgi rfl
      have hr0 : r0 = r := by
        have n1 : ¬ r0 < r := fun h' => by
          have := (h.rk i r0 hil hrk).2 h'
          rw [h2] at this; cases this
        rcases q2 with e | ⟨j, hj, hj1, hj2⟩
        · omega
        · have := (h.rk j _ (by simpa using hj) hj1).1 (h.reach hG hil hj2 h3)
          omega
      subst hr0
      obtain ⟨σ0, hσ, hs⟩ := h.sat
      rw [e1] at hσ; cases hσ
      obtain ⟨v, w', E', hr, k1, k2, k3, k4⟩ := hy F base E a.eval w (isEval a) hs (hpk ks hks)
      have hn' := ih _ (r0 + 1) E' (a.put o.dst v) w' (h.put hG hfr hil h2 h3 hgi k2 ⟨σ', e2, k1⟩ (.inr ⟨rfl, rfl⟩) ho (fun d' hd' => by rw [hd] at hd'; cases hd') (fun d' hd' => by rw [hd] at hd'; cases hd')) hun (hgo.trans k2) (hb.trans k3) (by omega)
      unfold Oper.wp
      rcases hr with hr | ⟨rfl, hr⟩
      · rw [hr]; exact hn'
      · rw [hr]; exact hn'
end
theorem unlisted_all : ∀ (n k : Nat), k ≤ n → unlisted (Array.replicate n false) k = k
  | n, 0, _ => rfl
  | n, k + 1, h => by
    simp only [unlisted]
    rw [unlisted_all n k (by omega)]
    simp [show k < n by omega]
theorem W_grd {id : Nat} {l : List Oper} {t t' : Tms} {σ σm : Sto} {Q : Exit → St → Prop} (f m : Nat) (σs : List Sto) (gs : List GD) (T : Tms) (hm : P.follows .mixedOrders = true) (hB : grdB l.toArray f m gs = true) (hT : addT l (gs.map (·.p)) t = T) (hfr : (l.all fun o => o.dst.all fun d => (look d t).isNone) = true) (h0 : σs[0]? = some σ) (h1 : σs[m]? = some σm)
    (hL : GL P N l.toArray σs T l gs) (hsub : Sub T t') (hq : Q .normal ⟨t', σm⟩) : W P N L (.region id l.toArray true) ⟨t, σ⟩ Q := fun F base E₀ w₀ E a w hc hs => by
  have hG := grdB_grd hB
  have hE : Ext w { w with drawn := w.drawn + 1 } := ⟨rfl, rfl, rfl, Nat.le_refl _, fun _ _ => rfl⟩
  refine wp_region_any hm ?_
  have hfr' : ∀ i d, i < l.length → dstOf l.toArray i = some d → look d t = none := fun i d hi hd => by
    have ho : l[i]? = some l[i] := by simp [hi]
    simp only [dstOf, List.getElem?_toArray, ho, Option.bind_some] at hd
    have := List.all_eq_true.1 hfr _ (List.mem_of_getElem? ho)
    rw [hd] at this
    simpa using this
  have hg0 : Grg base N F l gs σs t (Array.replicate l.length false) 0 E a { w with drawn := w.drawn + 1 } := by
    have hrep : ∀ i, i < l.length → (Array.replicate l.length false).getD i true = false := fun i hi => by simp [hi]
    refine ⟨by simp, fun i hi hi' => ?_, fun i s hi _ => ?_, ⟨σ, h0, hs.sat.ext hE⟩, hs.dfr, hs.size, hs.tmp.goes (.ext hE), fun j d g hj hjl => ?_⟩
    · rw [hrep i (by simpa using hi')] at hi; cases hi
    · rw [hrep i hi]; simp
    · rw [hrep j hj] at hjl; cases hjl
  have := grd_any (Q := fun e a' w' => Post F base N E₀ w₀ (Q e) a' w') hG hT hfr' hL h1 (E₀ := E₀) (w₀ := w₀) (fun a' w' E' k1 k2 k3 k4 k5 k6 => ⟨⟨t', σm⟩, E', hq, ⟨k1, k2.sub hsub, k3, k4⟩, k5, k6⟩) l.length _ 0 E a _ hg0 (unlisted_all _ _ (Nat.le_refl _)) (hc.g.trans (.ext hE)) (hc.b.trans (Below.ofExt hE hs.sat.bl)) (Nat.zero_le _)
  simpa using this
/-- Proofs for each store between two. -/
theorem yz {P : Program} {σs : List Sto} {t : Tms} {o : Oper} {p : PV} {lo hi : Nat} (h : ∀ σ ∈ (σs.drop lo).take (hi + 1 - lo), Yield P σ t o p) : ∀ r σ, lo ≤ r → r ≤ hi → σs[r]? = some σ → Yield P σ t o p := fun r σ h1 h2 hs => by
  refine h σ (List.mem_of_getElem? (i := r - lo) ?_)
  rw [List.getElem?_take, if_pos (by omega), List.getElem?_drop, show lo + (r - lo) = r by omega]
  exact hs
theorem ya0 {α : Type} {p : α → Prop} : ∀ x ∈ ([] : List α), p x := fun _ h => by cases h
theorem ya1 {α : Type} {p : α → Prop} {a : α} {l : List α} (h : p a) (hs : ∀ x ∈ l, p x) : ∀ x ∈ a :: l, p x := fun x hx => by
  rcases List.mem_cons.1 hx with rfl | h'
  · exact h
  · exact hs x h'
end
end PW
end Go.Proofs.YtbpgndbjbaoolaaGreat

/- The reference of layer 29: Component, entry, Table. -/
namespace Go.Proofs.YtbpgndbjbaoolaaGreat
set_option linter.unusedVariables false
set_option linter.unusedSimpArgs false
namespace PW
open Go.RowKit Reg Mem Net Rng

theorem W_midM {P : Program} {N L : Nat} {x : Code} {st : St} {Q : Exit → St → Prop} {Q1 : St → Prop} (h : W P N L x st (onlyQ Q1)) (k : ∀ s, Q1 s → Q .normal s) : W P N L x st Q :=
  h.mono fun e s hq => by cases e <;> first | exact k s hq | exact hq.elim
theorem nextL_len {T : Topo} (hv : validB T = true) (D : List Bool) (n d : Nat) : (nextL T D n d).length ≤ 512 := by
  have hl := links_le hv
  unfold nextL
  split
  · simp
  · exact Nat.le_trans (List.length_filter_le _ _) (Nat.le_trans (outTo_len T n _) (by omega))
/-- The mask of a component, none where it is not valid. -/
def maskX (T : Topo) (k x : Int) : List Bool := if maskE T k x = 0 then maskL T k x else []
theorem maskX_ok {T : Topo} {k x : Int} (h : (validB T && compB T k x) = true) : maskX T k x = maskL T k x := by
  unfold maskX maskE
  rw [if_pos h, if_pos rfl]
theorem asm_grp {T : Topo} (hv : validB T = true) {a : Nat} (ha : a < 2 * T.links.length) (h : 0 < grpN T a) : (validB T && compB T 3 (grpN T a)) = true := by
  have := grp_range hv ha
  rw [hv]
  unfold compB
  simp only [if_neg (show ¬ (3 : Int) = 1 by decide), if_neg (show ¬ (3 : Int) = 2 by decide), if_true, Bool.true_and, Bool.and_eq_true, decide_eq_true_eq]
  exact ⟨by omega, by omega⟩
theorem asm_node {T : Topo} (hv : validB T = true) {a : Nat} (ha : a < 2 * T.links.length) : (validB T && compB T 2 (headN T a)) = true := by
  obtain ⟨h0, h1⟩ := (sound_of hv).head a ha
  rw [hv]
  unfold compB
  simp only [if_neg (show ¬ (2 : Int) = 1 by decide), if_true, Bool.true_and]
  exact nodeB_iff.2 ⟨h0, h1⟩
def orTo (T : Topo) (D E : List Bool) (k : Nat) : List Bool := (List.range (2 * T.links.length)).map fun a => if a < k then downN D a || downN E a else downN D a
theorem orTo_len (T : Topo) (D E : List Bool) (k : Nat) : (orTo T D E k).length = 2 * T.links.length := by simp [orTo]
theorem orTo_get {T : Topo} {D E : List Bool} {k i : Nat} (h : i < (orTo T D E k).length) : (orTo T D E k)[i] = if i < k then downN D i || downN E i else downN D i := by simp [orTo]
theorem downN_getE {M : List Bool} {a : Nat} (h : a < M.length) : downN M a = M[a] := by rw [← downN_get]; simp [h]
theorem orTo_zero {T : Topo} {D E : List Bool} (h : D.length = 2 * T.links.length) : orTo T D E 0 = D := by
  apply List.ext_getElem (by rw [orTo_len, h])
  intro i h1 h2
  rw [orTo_get, if_neg (by omega), downN_getE h2]
theorem orTo_all (T : Topo) (D E : List Bool) : orTo T D E (2 * T.links.length) = orM T D E := by
  unfold orTo orM
  exact List.map_congr_left fun a ha => if_pos (List.mem_range.1 ha)
theorem orTo_step (T : Topo) (D E : List Bool) (k : Nat) : (orTo T D E k).set k (downN D k || downN E k) = orTo T D E (k + 1) := by
  apply List.ext_getElem (by simp [orTo])
  intro i h1 h2
  rw [List.getElem_set, orTo_get, orTo_get]
  by_cases e : k = i
  · subst e; rw [if_pos rfl, if_pos (by omega)]
  · rw [if_neg e]
    by_cases h : i < k
    · rw [if_pos h, if_pos (by omega)]
    · rw [if_neg h, if_neg (by omega)]
theorem orTo_at {T : Topo} {D E : List Bool} {k : Nat} (h : k < 2 * T.links.length) : (orTo T D E k).getD k false = downN D k := by
  have hk : k < (orTo T D E k).length := by rw [orTo_len]; exact h
  rw [List.getD_eq_getElem?_getD, List.getElem?_eq_getElem hk, Option.getD_some, orTo_get, if_neg (by omega)]
end PW
end Go.Proofs.YtbpgndbjbaoolaaGreat

/- Package spf: From. -/
namespace Go.Proofs.YtbpgndbjbaoolaaGreat
set_option linter.unusedVariables false
set_option linter.unusedSimpArgs false
namespace PW
open Go.RowKit Reg Mem Net

set_option maxRecDepth 10000 in
set_option maxHeartbeats 1000000 in
theorem from1_can (rs : List (List Int)) (i : Nat) (hi : i < rs.length) : Can Tryz.prog 125 ([num i] ++ [.pin [rowsV rs] 0]) (· = intsV (rs.getD i [])) := by
  refine can_of Tryz.func125 rfl Tryz.ntmps125 rfl ?_
  refine W_cs (.a 1 rfl <| .k [0, 1] rfl) ?_
  refine W_cs (.a 2 rfl <| .v (y_ix (i) rfl) rfl <| .v (y_ld rfl ((show (rs.map intsV)[i]? = some (intsV (rs.getD i [])) by simp [hi]))) rfl <| .a 1 rfl <| .k [3] rfl) ?_
  refine W_ret ?_
  exact ⟨_, _, ResL.of rfl, Pur.pure, rfl⟩
set_option maxRecDepth 10000 in
set_option maxHeartbeats 1000000 in
theorem from2_can (T : Topo) (a : Nat) (ha : a < 2 * T.links.length) (hl : T.links.length ≤ 4611686018427387902) : Can Tryz.prog 126 ([num a] ++ [.pin (topoP T) 0]) (· = num (headN T a)) := by
  refine can_of Tryz.func126 rfl Tryz.ntmps126 rfl ?_
  refine W_cs (.a 1 rfl <| .k [0, 1] rfl) ?_
  refine W_cs (.a 2 rfl <| .c rfl (head_can T a ha hl) rfl <| .a 1 rfl <| .k [3] rfl) ?_
  refine W_ret ?_
  exact ⟨_, _, ResL.of rfl, Pur.pure, rfl⟩

set_option maxRecDepth 10000 in
set_option maxHeartbeats 1000000 in
theorem from_can (T : Topo) (D : List Bool) (d : Int) : Can Tryz.prog 88 [topoV T, boolsV D, num d] (· = intsE (chkE T D [d]) (distL T D d.toNat true)) := by
  refine can_of Tryz.func88 rfl Tryz.ntmps88 rfl ?_
  refine W_cs (.a 3 rfl <| .k [1, 2, 3] rfl) ?_
  refine W_seq ?_
  refine W_cs (.a 4 rfl <| .c rfl (check_can T D [d] (by simp)) rfl <| .a 1 rfl <| .k [1, 2, 3, 8] rfl) ?_
  refine W_cs (.a 2 rfl <| .k [1, 2, 3, 8, 17] rfl) ?_
  refine W_cond rfl (fun hc => ?_) (fun hc => ?_)
  · have he : chkE T D [d] ≠ 0 := of_decide_eq_true hc
    refine W_cs (.a 3 rfl <| .k [6, 7] rfl) ?_
    refine W_ret ?_
    exact ⟨_, _, ResL.of rfl, Pur.tupleL (PurL.cons Pur.nils (PurL.cons Pur.pure PurL.nil)), by unfold intsE; rw [if_neg he]; rfl⟩
  · have he : chkE T D [d] = 0 := by have := of_decide_eq_false hc; omega
    have hok : (validB T && fitsB T D) = true ∧ nodeB T d = true := by
      unfold chkE at he
      split at he
      · rename_i h1
        split at he
        · rename_i h2; exact ⟨h1, by simpa using h2⟩
        · omega
      · omega
    obtain ⟨hvf, hnd⟩ := hok
    obtain ⟨hv, hf⟩ := Bool.and_eq_true_iff.1 hvf
    have hd : 0 ≤ d ∧ d < T.nodes := by simpa [nodeB] using hnd
    obtain ⟨n, rfl⟩ := Int.eq_ofNat_of_zero_le hd.1
    have hS := sound_of hv
    refine W_skip ?_
    refine W_rs ?_
    refine WR_a 1 rfl <| WR_c rfl (leaving_can T hv) rfl <| WR_a 2 rfl <| WR_k [1, 2, 3, 9] rfl ?_
    refine W_rs ?_
    refine WR_a 3 rfl <| WR_v (y_makeFunc rfl rfl) rfl <| WR_a 4 rfl <| WR_k [10] rfl ?_
    refine W_freeze (.cons 10 rfl (Pur.ptrL rfl (PurL.cons Pur.pure <| PurL.cons Pur.pure <| PurL.cons Pur.pure <| PurL.cons Pur.pure <| PurL.cons Pur.pure <| PurL.cons (Pur.funcL (PurL.cons (Pur.ptrL rfl (PurL.cons Pur.pure PurL.nil)) PurL.nil)) <| PurL.cons Pur.pure PurL.nil)) .nil) ?_
    refine W_cs (.a 1 rfl <| .c rfl (run_can T D n true 125 126 [.pin [rowsV (rowsL (tailN T) T.nodes.toNat (2 * T.links.length))] 0] [.pin (topoP T) 0] hv hf hd.2 (by kernel_rfl) (by kernel_rfl) (fun i hi => by have h := from1_can (rowsL (tailN T) T.nodes.toNat (2 * T.links.length)) i (by rw [rowsL_len]; omega); rw [rowsL_get _ _ _ _ (by omega)] at h; exact h) (fun a ha => from2_can T a ha (by have := links_le hv; omega))) rfl <| .a 2 rfl <| .k [6, 7] rfl) ?_
    refine W_ret ?_
    exact ⟨_, _, ResL.of rfl, Pur.pure, by unfold intsE; rw [if_pos he, he]; rfl⟩
end PW
end Go.Proofs.YtbpgndbjbaoolaaGreat
