/- Tables as plain data. -/
import Derived.Test.YtkaalpdfppbdeaaDoorDagN
namespace Go.Proofs.YtkaalpdfppbdeaaDoor
namespace PW
open Go.RowKit Reg Mem Net

structure Seg where
  kind : Int
  num : Int
deriving DecidableEq
structure Ent where
  arcs : List Int
  rep : Bool
  push : List Seg
structure Tab where
  node : Int
  ents : List Ent
  down : List Int
def segP (s : Seg) : List PV := [num s.kind, num s.num]
def segV (s : Seg) : PV := .agg (segP s)
def segsP (l : List Seg) : List PV := l.flatMap segP
def segsV (l : List Seg) : PV := .slice l.length (segsP l)
def entP (e : Ent) : List PV := [intsV e.arcs, flag e.rep, segsV e.push]
def entV (e : Ent) : PV := .agg (entP e)
def entsP (l : List Ent) : List PV := l.flatMap entP
def entsV (l : List Ent) : PV := .slice l.length (entsP l)
def tabP (t : Tab) : List PV := [num t.node, entsV t.ents, intsV t.down]
def tabV (t : Tab) : PV := .agg (tabP t)
def tabsP (l : List Tab) : List PV := l.flatMap tabP
def tabsV (l : List Tab) : PV := .slice l.length (tabsP l)
instance (s : Seg) : IsPureL (segP s) := by unfold segP; infer_instance
instance (s : Seg) : IsOneL (segP s) := by unfold segP; infer_instance
instance (s : Seg) : IsPure (segV s) := by unfold segV; infer_instance
instance (l : List Seg) : IsPureL (segsP l) := IsPureL.flatMap _ _ fun _ => inferInstance
instance (l : List Seg) : IsOneL (segsP l) := IsOneL.flatMap _ _ fun _ => inferInstance
instance (l : List Seg) : IsPure (segsV l) := by unfold segsV; infer_instance
instance (l : List Seg) : IsOne (segsV l) := by unfold segsV; infer_instance
instance (e : Ent) : IsPureL (entP e) := by unfold entP; infer_instance
instance (e : Ent) : IsOneL (entP e) := by unfold entP; infer_instance
instance (e : Ent) : IsPure (entV e) := by unfold entV; infer_instance
instance (l : List Ent) : IsPureL (entsP l) := IsPureL.flatMap _ _ fun _ => inferInstance
instance (l : List Ent) : IsOneL (entsP l) := IsOneL.flatMap _ _ fun _ => inferInstance
instance (l : List Ent) : IsPure (entsV l) := by unfold entsV; infer_instance
instance (l : List Ent) : IsOne (entsV l) := by unfold entsV; infer_instance
instance (t : Tab) : IsPureL (tabP t) := by unfold tabP; infer_instance
instance (t : Tab) : IsOneL (tabP t) := by unfold tabP; infer_instance
instance (t : Tab) : IsPure (tabV t) := by unfold tabV; infer_instance
instance (l : List Tab) : IsPureL (tabsP l) := IsPureL.flatMap _ _ fun _ => inferInstance
instance (l : List Tab) : IsOneL (tabsP l) := IsOneL.flatMap _ _ fun _ => inferInstance
instance (l : List Tab) : IsPure (tabsV l) := by unfold tabsV; infer_instance
instance (l : List Tab) : IsOne (tabsV l) := by unfold tabsV; infer_instance
theorem entsP_snoc (l : List Ent) (e : Ent) : entsP l ++ entP e = entsP (l ++ [e]) := by simp [entsP]
theorem tabsP_snoc (l : List Tab) (e : Tab) : tabsP l ++ tabP e = tabsP (l ++ [e]) := by simp [tabsP]
/-- Rows of values of several cells. -/
theorem flat_get {α : Type} (f : α → List PV) (s : Nat) (hf : ∀ a, (f a).length = s) : ∀ (l : List α) (i j : Nat) (a : α), l[i]? = some a → j < s → (l.flatMap f)[i * s + j]? = (f a)[j]?
  | [], i, j, a, h, _ => by simp at h
  | b :: l, 0, j, a, h, hj => by
    simp at h; subst h
    rw [List.flatMap_cons, Nat.zero_mul, Nat.zero_add, List.getElem?_append_left (by rw [hf]; exact hj)]
  | b :: l, i + 1, j, a, h, hj => by
    have := flat_get f s hf l i j a (by simpa using h) hj
    have e1 : (i + 1) * s = i * s + s := Nat.succ_mul i s
    have e2 : (i + 1) * s + j - s = i * s + j := by omega
    have e3 : (f b).length ≤ (i + 1) * s + j := by rw [hf]; omega
    rw [List.flatMap_cons, List.getElem?_append_right e3, hf, e2, this]
theorem flat_drop {α : Type} (f : α → List PV) (s : Nat) (hf : ∀ a, (f a).length = s) : ∀ (l : List α) (i : Nat) (a : α), l[i]? = some a → ((l.flatMap f).drop (i * s)).take s = f a
  | [], i, a, h => by simp at h
  | b :: l, 0, a, h => by
    simp at h; subst h
    rw [List.flatMap_cons, Nat.zero_mul, List.drop_zero]
    exact List.take_left' (hf b)
  | b :: l, i + 1, a, h => by
    have := flat_drop f s hf l i a (by simpa using h)
    have e1 : (i + 1) * s = s + i * s := by rw [Nat.succ_mul]; omega
    rw [List.flatMap_cons, e1, ← List.drop_drop, List.drop_left' (hf b), this]
theorem flat_len {α : Type} (f : α → List PV) (s : Nat) (hf : ∀ a, (f a).length = s) (l : List α) : (l.flatMap f).length = l.length * s := by
  induction l with
  | nil => simp
  | cons a l ih => rw [List.flatMap_cons, List.length_append, ih, hf, List.length_cons, Nat.succ_mul]; omega
theorem ents_get (l : List Ent) (i j : Nat) (e : Ent) (h : l[i]? = some e) (hj : j < 3) : (entsP l)[i * 3 + j]? = (entP e)[j]? := flat_get entP 3 (fun _ => rfl) l i j e h hj
theorem ents_drop (l : List Ent) (i : Nat) (e : Ent) (h : l[i]? = some e) : ((entsP l).drop (i * 3)).take 3 = entP e := flat_drop entP 3 (fun _ => rfl) l i e h
theorem segs_get (l : List Seg) (i j : Nat) (e : Seg) (h : l[i]? = some e) (hj : j < 2) : (segsP l)[i * 2 + j]? = (segP e)[j]? := flat_get segP 2 (fun _ => rfl) l i j e h hj
theorem segs_drop (l : List Seg) (i : Nat) (e : Seg) (h : l[i]? = some e) : ((segsP l).drop (i * 2)).take 2 = segP e := flat_drop segP 2 (fun _ => rfl) l i e h
theorem tabs_drop (l : List Tab) (i : Nat) (e : Tab) (h : l[i]? = some e) : ((tabsP l).drop (i * 3)).take 3 = tabP e := flat_drop tabP 3 (fun _ => rfl) l i e h

/-- Less may be known of what an operation leaves. -/
theorem y_le {P : Program} {σ : Sto} {t : Tms} {o : Oper} {p q : PV} (h : Yield P σ t o p) (hl : PLe p q) : Yield P σ t o q := fun F base E ρ w hρ hS hT => by
  have := h F base E ρ w hρ hS hT
  generalize (execOp ρ o).run P w = x at *
  cases x with
  | ok n w' =>
    cases n with
    | value v => exact ⟨this.1, hl _ _ _ this.2⟩
    | skip => exact ⟨this.1, hl _ _ _ this.2⟩
    | enter f args => exact ⟨this.1, Calls.mono this.2 (fun e w'' ⟨x, h1, h2, h3⟩ => ⟨x, h1, h2, hl _ _ _ h3⟩)⟩
    | _ => exact this
  | halt x w' => exact this
def PLeL (xs ys : List PV) : Prop := xs.length = ys.length ∧ ∀ (i : Nat) x y, xs[i]? = some x → ys[i]? = some y → PLe x y
theorem PLeL.nil : PLeL [] [] := ⟨rfl, fun i x y h => by simp at h⟩
theorem PLeL.cons {x y : PV} {xs ys : List PV} (h : PLe x y) (hs : PLeL xs ys) : PLeL (x :: xs) (y :: ys) := ⟨by simp [hs.1], fun j a b h1 h2 => by
  cases j with
  | zero => simp at h1 h2; subst h1; subst h2; exact h
  | succ j => exact hs.2 j a b (by simpa using h1) (by simpa using h2)⟩
theorem PLe.aggL {xs ys : List PV} (h : PLeL xs ys) : PLe (.agg xs) (.agg ys) := fun E w v hv => by
  cases hv with
  | agg cs _ hl hr => exact .agg cs ys (hl.trans h.1) (fun i c u h1 h2 => by
      have hi : i < xs.length := by rw [h.1]; exact (List.getElem?_eq_some_iff.1 h2).1
      exact h.2 i xs[i] u (by simp [hi]) h2 E w c (hr i c _ h1 (by simp [hi])))
/-- The routes of a node. -/
noncomputable def toL (T : Topo) (D : List Bool) (n k : Nat) : List Ent := (List.range k).map fun d => ⟨nextL T D n d, false, []⟩
def downL (D : List Bool) (l : List Int) : List Int := l.filter fun a => downN D a.toNat
noncomputable def routesT (T : Topo) (D : List Bool) (n : Nat) : Tab := ⟨n, toL T D n T.nodes.toNat, downL D (outL T n)⟩
noncomputable def routesE (T : Topo) (D : List Bool) (n : Int) : Tab := if chkE T D [n] = 0 then routesT T D n.toNat else ⟨0, [], []⟩
theorem toL_step (T : Topo) (D : List Bool) (n k : Nat) : toL T D n (k + 1) = toL T D n k ++ [⟨nextL T D n k, false, []⟩] := by simp [toL, List.range_succ]
theorem toL_len (T : Topo) (D : List Bool) (n k : Nat) : (toL T D n k).length = k := by simp [toL]
end PW
end Go.Proofs.YtkaalpdfppbdeaaDoor
