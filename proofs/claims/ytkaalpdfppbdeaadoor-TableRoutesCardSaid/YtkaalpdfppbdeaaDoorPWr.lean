/- Pure walks, third part: literals, boxes and parts of slices. No program in sight. -/
import Derived.Test.YtkaalpdfppbdeaaDoorPWq
import Derived.Laws.Tables
import Derived.Great.BuildSlice
namespace Go.Proofs.YtkaalpdfppbdeaaDoor
namespace PW
open Go.RowKit Reg Mem

section
variable {P : Program} {σ : Sto} {t : Tms} {o : Oper}

/-- The cells of a value. -/
def cellsP : PV → Option (List PV)
  | .agg xs => some xs
  | .raw v => some (v.cells.toList.map .raw)
  | .any => none
  | .tuple _ => none
  | p => some [p]
theorem RepL.one {E : Env} {w : World} {v : Value} {p : PV} (h : Rep E w v p) : RepL E w [v] [p] := RepL.cons h (RepL.nil E w)
theorem cellsP_rep {E : Env} {w : World} {v : Value} {p : PV} {xs : List PV} (h : Rep E w v p) (hx : cellsP p = some xs) : RepL E w v.cells.toList xs := by
  cases h with
  | any => cases hx
  | raw =>
    simp only [cellsP, Option.some.injEq] at hx
    subst hx
    refine ⟨by simp, fun i x u h1 h2 => ?_⟩
    rw [List.getElem?_map, h1] at h2
    cases h2
    exact .raw x
  | nils => cases hx; exact RepL.one .nils
  | empty a c h => cases hx; exact RepL.one (.empty a c h)
  | slice b off n c cs xs h0 h1 h2 hb hM hc hl hr => cases hx; exact RepL.one (.slice b off n c cs _ h0 h1 h2 hb hM hc hl hr)
  | pin b o' off cs xs hb hM hc hl hr => cases hx; exact RepL.one (.pin b o' off cs _ hb hM hc hl hr)
  | agg cs xs hl hr => cases hx; exact ⟨by simpa [Value.cells] using hl, fun i x u h1 h2 => hr i x u (by simpa [Value.cells] using h1) h2⟩
  | tuple cs xs hl hr => cases hx
  | func f cs xs hl hr => cases hx; exact RepL.one (.func f cs _ hl hr)
  | ptr i off b hi h => cases hx; exact RepL.one (.ptr i off b hi h)
  | own i hi v h hs =>
    cases hx
    have : v.cells = #[v] := by cases v <;> first | rfl | cases hs
    rw [this]
    exact RepL.one (.own i hi v h hs)
def over (cells : List PV) (off : Nat) (ys : List PV) : List PV := cells.take off ++ (ys ++ cells.drop (off + ys.length))
def fillP (place : Nat → Option (Nat × Nat)) (cells : List PV) : List (Nat × List PV) → Option (List PV)
  | [] => some cells
  | (i, ys) :: rest => match place i with
    | none => none
    | some (off, size) => bif Nat.beq ys.length size && Nat.ble (off + size) cells.length then fillP place (over cells off ys) rest else none
theorem foldl_over : ∀ (l : List Value) (j off : Nat) (cs : Array Value), off + j + l.length ≤ cs.size →
    (((l.zipIdx j).foldl (fun cs (c, j) => cs.setIfInBounds (off + j) c) cs).toList = cs.toList.take (off + j) ++ (l ++ cs.toList.drop (off + j + l.length)))
  | [], j, off, cs, _ => by simp
  | c :: l, j, off, cs, h => by
    simp only [List.length_cons] at h
    have hlt : off + j < cs.toList.length := by rw [Array.length_toList]; omega
    rw [List.zipIdx_cons, List.foldl_cons, foldl_over l (j + 1) off _ (by simp; omega)]
    simp only [Array.toList_setIfInBounds]
    rw [show off + (j + 1) = off + j + 1 by omega, List.take_set, List.drop_set, if_pos (by omega), List.take_add_one]
    have e1 : cs.toList[off + j]?.toList = [cs.toList[off + j]] := by simp
    rw [e1, List.set_append_right _ _ (by rw [List.length_take]; omega), List.length_take, Nat.min_eq_left (by omega)]
    simp [Nat.add_assoc, Nat.add_comm 1 l.length, Nat.add_left_comm]
theorem over_rep {E : Env} {w : World} {cs : Array Value} {vs : List Value} {xs ys : List PV} (h : RepL E w cs.toList xs) (k : RepL E w vs ys) (off : Nat) (hl : off + vs.length ≤ cs.size) :
    RepL E w ((vs.zipIdx).foldl (fun cs (c, j) => cs.setIfInBounds (off + j) c) cs).toList (over xs off ys) := by
  have := foldl_over vs 0 off cs (by omega)
  simp only [Nat.add_zero] at this
  rw [this]
  unfold over
  rw [← k.1]
  exact (h.take off).append (k.append (h.drop _))
theorem fill_rep {E : Env} {w : World} (place : Nat → Option (Nat × Nat)) : ∀ (vs : List (Nat × Value)) (ps : List (Nat × List PV)) (cs : Array Value) (xs ys : List PV), RepL E w cs.toList xs → vs.length = ps.length →
    (∀ (i : Nat) (v : Nat × Value) (p : Nat × List PV), vs[i]? = some v → ps[i]? = some p → v.1 = p.1 ∧ RepL E w v.2.cells.toList p.2) → fillP place xs ps = some ys → ∃ cs', Instr.fill place cs vs = some cs' ∧ RepL E w cs'.toList ys
  | [], [], cs, xs, ys, h, _, _, hf => by simp only [fillP, Option.some.injEq] at hf; subst hf; exact ⟨cs, rfl, h⟩
  | [], _ :: _, _, _, _, _, hl, _, _ => by simp at hl
  | _ :: _, [], _, _, _, _, hl, _, _ => by simp at hl
  | (i, v) :: vs, (j, p) :: ps, cs, xs, ys, h, hl, hp, hf => by
    obtain ⟨he, hv⟩ := hp 0 (i, v) (j, p) rfl rfl
    simp only at he hv
    subst he
    simp only [fillP] at hf
    split at hf
    · cases hf
    · rename_i off size hpl
      rw [Bool.cond_eq_ite] at hf
      split at hf
      · rename_i hc
        simp only [Bool.and_eq_true, Nat.beq_eq, Nat.ble_eq] at hc
        have hsz : v.cells.size = size := by have := hv.1; rw [Array.length_toList] at this; omega
        have hcs : cs.size = xs.length := by have := h.1; rw [Array.length_toList] at this; exact this
        have hO := over_rep h hv off (by rw [Array.length_toList]; omega)
        obtain ⟨cs', h1, h2⟩ := fill_rep place vs ps _ _ ys hO (by simpa using hl) (fun k a b h1 h2 => hp (k + 1) a b (by simpa using h1) (by simpa using h2)) hf
        refine ⟨cs', ?_, h2⟩
        have hcond : (v.cells.size ≠ size || decide (off + v.cells.size > cs.size)) = false := by simp; omega
        simp only [Instr.fill, hpl]
        rw [if_neg (by simp; omega)]
        have : (Array.zipIdx v.cells).foldl (fun cs (x : Value × Nat) => cs.setIfInBounds (off + x.2) x.1) cs = (v.cells.toList.zipIdx).foldl (fun cs (x : Value × Nat) => cs.setIfInBounds (off + x.2) x.1) cs := by
          rw [← Array.foldl_toList, Array.toList_zipIdx]
        rw [this]
        exact h1
      · cases hf

/-- The parts of a literal. -/
def evalP (t : Tms) : List (Nat × Operand) → Option (List (Nat × List PV))
  | [] => some []
  | (i, x) :: l => match evalO t x with
    | none => none
    | some p => match cellsP p, evalP t l with
      | some q, some r => some ((i, q) :: r)
      | _, _ => none
theorem evalP_rep {E : Env} {w : World} {ρ : Operand → Value} (hρ : IsEval ρ) (h : RepT E w ρ t) : ∀ (l : List (Nat × Operand)) (ps : List (Nat × List PV)), evalP t l = some ps →
    (l.map fun x => (x.1, ρ x.2)).length = ps.length ∧ ∀ (i : Nat) (v : Nat × Value) (p : Nat × List PV), (l.map fun x => (x.1, ρ x.2))[i]? = some v → ps[i]? = some p → v.1 = p.1 ∧ RepL E w v.2.cells.toList p.2
  | [], ps, hx => by simp only [evalP, Option.some.injEq] at hx; subst hx; exact ⟨rfl, fun i v p h => by simp at h⟩
  | (i, x) :: l, ps, hx => by
    simp only [evalP] at hx
    split at hx
    · cases hx
    · rename_i p hp
      split at hx
      · rename_i q r hq hr
        cases hx
        obtain ⟨h1, h2⟩ := evalP_rep hρ h l r hr
        refine ⟨by simpa using h1, fun k v p' k1 k2 => ?_⟩
        cases k with
        | zero =>
          simp at k1 k2
          subst k1; subst k2
          exact ⟨rfl, cellsP_rep (evalO_rep hρ h hp) hq⟩
        | succ k => exact h2 k v p' (by simpa using k1) (by simpa using k2)
      · cases hx
/-- A struct type: places and zero. -/
def stK (P : Program) (ty : TypeId) : Option (List (Nat × Nat) × List Value) :=
  match P.info? ty, P.underlying ty with
  | some it, some (.struct fields) =>
    match it.zero, fields.toList.mapM (fun f => (P.info? f.type).map fun i => (f.offset, i.size)) with
    | some z, some places => some (places, z.cells.toList)
    | _, _ => none
  | _, _ => none
theorem y_build {ty : TypeId} {parts : Array (Nat × Operand)} {places : List (Nat × Nat)} {zero : List Value} {ps : List (Nat × List PV)} {xs : List PV} (ho : o.op = .build ty parts) (hk : stK P ty = some (places, zero)) (hp : evalP t parts.toList = some ps)
    (hf : fillP (places[·]?) (zero.map .raw) ps = some xs) : Yield P σ t o (.agg xs) := by
  intro F base E ρ w hρ hS hT
  obtain ⟨h1, h2⟩ := evalP_rep hρ hT parts.toList ps hp
  have hz : RepL E w zero.toArray.toList (zero.map .raw) := ⟨by simp, fun i x u k1 k2 => by
    simp only [List.getElem?_map, Option.map_eq_some_iff] at k2
    obtain ⟨y, hy, rfl⟩ := k2
    simp only at k1
    rw [hy] at k1
    cases k1
    exact .raw _⟩
  obtain ⟨cs, hc, hR⟩ := fill_rep (places[·]?) _ ps zero.toArray _ xs hz h1 h2 hf
  have hb : P.built ty ((parts.map fun (i, x) => (i, ρ x)).toList) = some cs := by
    unfold stK at hk
    split at hk
    · rename_i it fields hit hu
      split at hk
      · rename_i z pl hz' hpl
        cases hk
        simp only [Program.built, hit, hu, hz', hpl, Array.toList_map]
        simpa using hc
      · cases hk
    · cases hk
  have hrun := run_build (P := P) w ty (parts.map fun (i, x) => (i, ρ x)) cs hb
  simp only [execOp, ho, Sem.run_bind, hrun, Result.andThen_ok, Sem.run_pure]
  exact upon_val (.agg cs xs (by have := hR.1; rw [Array.length_toList] at this; exact this) (fun i x u k1 k2 => hR.2 i x u (by simpa using k1) k2))

theorem fresh_not {F : Nat → Prop} {base : Nat} {E : Env} {w : World} (hS : Sat F base σ E w) : ¬ E.M w.heap.size := fun h => Nat.lt_irrefl _ (hS.lt h)
theorem size_alloc (w : World) (o : Obj) : (w.alloc o).heap.size = w.heap.size + 1 := by simp
/-- A new row of cells, which nobody changes. -/
theorem pin_new {F : Nat → Prop} {base : Nat} {E : Env} {w : World} (hS : Sat F base σ E w) (cs : Array Value) (e : TypeId) {xs : List PV} (h : RepL E w cs.toList xs) : Rep E (w.alloc (.cells cs e)) (.pointer (some ⟨w.heap.size, 0, none⟩)) (.pin xs 0) := by
  have hE : Ext w (w.alloc (.cells cs e)) := (Ext.refl w).alloc _
  have := Rep.pin (E := E) (w := w.alloc (.cells cs e)) w.heap.size 0 0 cs.toList xs (by rw [size_alloc]; exact Nat.lt_succ_self _) (fresh_not hS) (fun i x hx => by simp only [World.cell?, heap_alloc_new]; simpa using hx) h.1 (fun i x u k1 k2 => (h.2 i x u k1 k2).ext hE)
  exact this
theorem slice_new {F : Nat → Prop} {base : Nat} {E : Env} {w : World} (hS : Sat F base σ E w) (cs : Array Value) (e : TypeId) {n : Nat} (hn : n ≤ maxLen) {xs : List PV} (h0 : 0 < n) (h : RepL E w cs.toList xs) : Rep E (w.alloc (.cells cs e)) (.slice (some ⟨w.heap.size, 0, none⟩) n n) (.slice n xs) := by
  have hE : Ext w (w.alloc (.cells cs e)) := (Ext.refl w).alloc _
  exact Rep.slice (E := E) (w := w.alloc (.cells cs e)) w.heap.size 0 n n cs.toList xs h0 (Nat.le_refl _) hn (by rw [size_alloc]; exact Nat.lt_succ_self _) (fresh_not hS) (fun i x hx => by simp only [World.cell?, heap_alloc_new]; simpa using hx) h.1 (fun i x u k1 k2 => (h.2 i x u k1 k2).ext hE)
theorem y_boxPin {ty : TypeId} {x : Operand} {p : PV} {xs : List PV} (ho : o.op = .box ty x) (hx : evalO t x = some p) (hc : cellsP p = some xs) : Yield P σ t o (.pin xs 0) := by
  intro F base E ρ w hρ hS hT
  have h := cellsP_rep (evalO_rep hρ hT hx) hc
  have hr : (Instr.box ty (ρ x)).run P w = .ok (.pointer (some ⟨w.heap.size, 0, none⟩)) (w.alloc (.cells (ρ x).cells ty)) := by
    simp [Instr.box, newVar, newRow]
  simp only [execOp, ho, Sem.run_bind, hr, Result.andThen_ok, Sem.run_pure]
  exact ⟨(Ext.refl w).alloc _, pin_new hS _ _ h⟩
/-- A slice type: its elements' type, size and zero. -/
def slK (P : Program) (ty : TypeId) : Option (TypeId × Nat × List Value) :=
  match P.underlying ty with
  | some (.slice e) => match P.info? e with
    | some i => match i.zero with
      | some z => if z.cells.size = i.size ∧ 0 < i.size then some (e, i.size, z.cells.toList) else none
      | none => none
    | none => none
  | _ => none
theorem slK_spec {ty e s : Nat} {z : List Value} (h : slK P ty = some (e, s, z)) : P.underlying ty = some (.slice e) ∧ ∃ i z', P.info? e = some i ∧ i.size = s ∧ i.zero = some z' ∧ z'.cells.toList = z ∧ z.length = s ∧ 0 < s := by
  unfold slK at h
  split at h
  · rename_i e' hu
    split at h
    · rename_i i hi
      split at h
      · rename_i z' hz
        split at h
        · rename_i hc; cases h; exact ⟨hu, i, z', hi, rfl, hz, rfl, by simpa using hc.1, hc.2⟩
        · cases h
      · cases h
    · cases h
  · cases h
def zeros (z : List PV) : Nat → List PV
  | 0 => []
  | n + 1 => z ++ zeros z n
theorem zeros_len (z : List PV) (n : Nat) : (zeros z n).length = n * z.length := by
  induction n with
  | zero => simp [zeros]
  | succ n ih => simp [zeros, ih, Nat.succ_mul]; omega
theorem zeros_get (z : List PV) : ∀ (n i : Nat), i < n * z.length → (zeros z n)[i]? = z[i % z.length]?
  | 0, i, h => by simp at h
  | n + 1, i, h => by
    simp only [zeros]
    by_cases hi : i < z.length
    · rw [List.getElem?_append_left hi, Nat.mod_eq_of_lt hi]
    · rw [List.getElem?_append_right (by omega), zeros_get z n (i - z.length) (by rw [Nat.succ_mul] at h; omega)]
      rw [Nat.mod_eq_sub_mod (by omega : i ≥ z.length)]
theorem zeros_rep {E : Env} {w : World} (z : Array Value) (n m : Nat) (hm : m = n * z.size) : RepL E w ((Array.range m).map (z[· % z.size]!)).toList (zeros (z.toList.map .raw) n) := by
  refine ⟨by simp [zeros_len, hm], fun i x u h1 h2 => ?_⟩
  have hi : i < m := by have := (List.getElem?_eq_some_iff.1 h1).1; simpa using this
  rw [zeros_get _ _ _ (by simp; omega)] at h2
  have hpos : 0 < z.size := by
    rcases Nat.eq_zero_or_pos z.size with h | h
    · rw [h] at hm; simp at hm; omega
    · exact h
  have hlt := Nat.mod_lt i hpos
  simp [hi] at h1
  simp [hlt] at h2
  subst h1; subst h2
  have : z[i % z.size]! = z[i % z.size] := by simp [hlt]
  rw [this]
  exact .raw _
theorem y_buildSlice {ty e s n : Nat} {parts : Array (Nat × Operand)} {z : List Value} {ps : List (Nat × List PV)} {xs : List PV} (ho : o.op = .buildSlice ty n parts) (hk : slK P ty = some (e, s, z)) (hn : 0 < n ∧ n * s ≤ 16777216) (hp : evalP t parts.toList = some ps)
    (hf : fillP (fun i => some (i * s, s)) (zeros (z.map .raw) n) ps = some xs) : Yield P σ t o (.slice n xs) := by
  intro F base E ρ w hρ hS hT
  obtain ⟨h1, h2⟩ := evalP_rep hρ hT parts.toList ps hp
  obtain ⟨hu, i, z', hi, hs, hz, hzz, hzl, hpos⟩ := slK_spec hk
  have hzs : z'.cells.size = s := by rw [← hzl, ← hzz]; simp
  have hR0 : RepL E w ((Array.range (n * s)).map (z'.cells[· % z'.cells.size]!)).toList (zeros (z.map .raw) n) := by
    rw [← hzz]; exact zeros_rep z'.cells n (n * s) (by rw [hzs])
  obtain ⟨cs, hc, hR⟩ := fill_rep (fun i => some (i * s, s)) _ ps _ _ xs hR0 h1 h2 hf
  have hns : 0 < n * s := Nat.mul_pos hn.1 hpos
  have hrun := run_buildSlice (P := P) w ty e n (parts.map fun (i, x) => (i, ρ x)) cs i z' hu hi hz (by rw [hs]; omega) (by rw [hs]; omega) (by rw [hs, Array.toList_map]; simpa using hc)
  simp only [execOp, ho, Sem.run_bind, hrun, Result.andThen_ok, Sem.run_pure]
  have hle : n ≤ n * s := Nat.le_mul_of_pos_right n hpos
  exact ⟨(Ext.refl w).alloc _, slice_new hS _ _ (by unfold maxLen; omega) hn.1 hR⟩
theorem y_emptySlice {ty e s : Nat} {z : List Value} (ho : o.op = .buildSlice ty 0 #[]) (hk : slK P ty = some (e, s, z)) : Yield P σ t o (.slice 0 []) := by
  intro F base E ρ w hρ hS hT
  obtain ⟨hu, i, z', hi, hs, hz, hzz, hzl, hpos⟩ := slK_spec hk
  have hrun : (Instr.buildSlice ty 0 #[]).run P w = .ok (.slice (some ⟨w.heap.size, 0, none⟩) 0 0) (w.alloc (.cells #[] e)) := by
    have : Array.map (fun _ : Nat => (default : Value)) (Array.range 0) = #[] := by simp [Array.range]
    simp [Instr.buildSlice, run_underlying hu, sizeOf, typeInfo, hi, Instr.fill, newRow, this]
  simp only [execOp, ho, Sem.run_bind, List.map_toArray, List.map_nil, hrun, Result.andThen_ok, Sem.run_pure]
  exact ⟨(Ext.refl w).alloc _, .empty _ _ (Nat.zero_le _)⟩

/-- A part of a slice. -/
theorem rep_sliced {E : Env} {w : World} {a : Option Addr} {n c l h m s : Nat} {xs : List PV} (hv : Rep E w (.slice a n c) (.slice n xs)) (hx : xs.length = n * s) (hl : l ≤ h) (hh : h ≤ n) (hm : h ≤ m) (hmc : m ≤ c) :
    Rep E w (.slice (if m = l then a else a.map (·.add (l * s))) (h - l) (m - l)) (.slice (h - l) ((xs.drop (l * s)).take ((h - l) * s))) := by
  by_cases h0 : h - l = 0
  · rw [h0]
    have : (xs.drop (l * s)).take (0 * s) = [] := by simp
    rw [this]
    have hcm : m - l ≤ maxLen ∨ a = none := by
      cases hv with
      | nils => exact .inr rfl
      | empty _ _ h' => exact .inl (by omega)
      | slice b off _ _ cs _ h0 h1 h2 hb hM hc hl hr => exact .inl (by omega)
    cases a with
    | none =>
      cases hv
      have : m - l = 0 := by omega
      rw [this]
      split <;> exact .nils
    | some ad =>
      have hcm' := hcm.resolve_right (by simp)
      split
      · exact .empty _ _ hcm'
      · exact .empty _ _ hcm'
  · cases hv with
    | nils => omega
    | empty _ _ h' => omega
    | slice b off _ _ cs _ h0 h1 h2 hb hM hc hll hr =>
      rw [if_neg (by omega)]
      have hR := ((show RepL E w cs xs from ⟨hll, hr⟩).drop (l * s)).take ((h - l) * s)
      have := Rep.slice (E := E) (w := w) b (off + l * s) (h - l) (m - l) _ _ (by omega) (by omega) (by omega) hb hM (fun i x hx => by
        rw [List.getElem?_take] at hx
        split at hx
        · rw [List.getElem?_drop] at hx; rw [Nat.add_assoc]; exact hc _ x hx
        · cases hx) hR.1 hR.2
      simpa [Addr.add_lit] using this
theorem rep_cap {E : Env} {w : World} {v : Value} {n : Nat} {xs : List PV} (h : Rep E w v (.slice n xs)) : ∃ a c, v = .slice a n c ∧ n ≤ c ∧ c ≤ maxLen := by
  cases h with
  | nils => exact ⟨_, _, rfl, Nat.le_refl _, Nat.zero_le _⟩
  | empty a c h => exact ⟨_, _, rfl, Nat.zero_le _, h⟩
  | slice b off _ c cs _ h0 h1 h2 => exact ⟨_, _, rfl, h1, h2⟩
theorem y_sliceLo {ty e s n l : Nat} {x lo : Operand} {xs : List PV} {k : IntKind} {li : Int} (ho : o.op = .slice ty x (some lo) none none) (he : elK P ty = some (e, s)) (hx : evalO t x = some (.slice n xs)) (hlo : evalO t lo = some (.raw (.int k li))) (hxl : xs.length = n * s) (hli : li = (l : Int)) (hl : l ≤ n) :
    Yield P σ t o (.slice (n - l) ((xs.drop (l * s)).take ((n - l) * s))) := by
  intro F base E ρ w hρ hS hT
  have h1 := evalO_rep hρ hT hx
  have h2 := evalO_rep hρ hT hlo
  obtain ⟨hu, i, hi, hs⟩ := elK_spec he
  generalize hz : ρ x = v at h1
  generalize hz' : ρ lo = u at h2
  cases h2
  subst hli
  obtain ⟨a, c, rfl, hc1, hc2⟩ := rep_cap h1
  have hR := rep_sliced (s := s) h1 hxl hl (Nat.le_refl _) hc1 (Nat.le_refl c)
  have hrun : (Instr.sliceAt ty (.slice a n c) (some (.int k (l : Int))) none none).run P w = .ok (.slice (if c = l then a else a.map (·.add (l * s))) (n - l) (c - l)) w := by
    simp [Instr.sliceAt, run_underlying hu, Instr.slice, Instr.sliceBounds, Instr.sliceBound, asIntOf, hl, sizeOf, typeInfo, hi, hs]
  simp only [execOp, ho, hz, hz', Option.map_some, Option.map_none, Sem.run_bind, hrun, Result.andThen_ok, Sem.run_pure]
  exact upon_val hR
theorem y_sliceHi {ty e s n h : Nat} {x hi' : Operand} {xs : List PV} {k : IntKind} {hii : Int} (ho : o.op = .slice ty x none (some hi') none) (he : elK P ty = some (e, s)) (hx : evalO t x = some (.slice n xs)) (hhi : evalO t hi' = some (.raw (.int k hii))) (hxl : xs.length = n * s) (hli : hii = (h : Int)) (hl : h ≤ n) :
    Yield P σ t o (.slice h (xs.take (h * s))) := by
  intro F base E ρ w hρ hS hT
  have h1 := evalO_rep hρ hT hx
  have h2 := evalO_rep hρ hT hhi
  obtain ⟨hu, i, hi, hs⟩ := elK_spec he
  generalize hz : ρ x = v at h1
  generalize hz' : ρ hi' = u at h2
  cases h2
  subst hli
  obtain ⟨a, c, rfl, hc1, hc2⟩ := rep_cap h1
  have hR := rep_sliced (s := s) (l := 0) h1 hxl (Nat.zero_le _) hl (Nat.le_trans hl hc1) (Nat.le_refl c)
  have hrun : (Instr.sliceAt ty (.slice a n c) none (some (.int k (h : Int))) none).run P w = .ok (.slice (if c = 0 then a else a.map (·.add (0 * s))) (h - 0) (c - 0)) w := by
    have : h ≤ c := Nat.le_trans hl hc1
    simp [Instr.sliceAt, run_underlying hu, Instr.slice, Instr.sliceBounds, Instr.sliceBound, asIntOf, this, sizeOf, typeInfo, hi]
  simp only [execOp, ho, hz, hz', Option.map_some, Option.map_none, Sem.run_bind, hrun, Result.andThen_ok, Sem.run_pure]
  refine upon_val ?_
  simpa using hR
theorem y_sliceLoHi {ty e s n l h : Nat} {x lo hi' : Operand} {xs : List PV} {k k' : IntKind} {li hii : Int} (ho : o.op = .slice ty x (some lo) (some hi') none) (he : elK P ty = some (e, s)) (hx : evalO t x = some (.slice n xs)) (hlo : evalO t lo = some (.raw (.int k li))) (hhi : evalO t hi' = some (.raw (.int k' hii))) (hxl : xs.length = n * s) (hli : li = (l : Int)) (hhii : hii = (h : Int)) (hlh : l ≤ h) (hl : h ≤ n) :
    Yield P σ t o (.slice (h - l) ((xs.drop (l * s)).take ((h - l) * s))) := by
  intro F base E ρ w hρ hS hT
  have h1 := evalO_rep hρ hT hx
  have h2 := evalO_rep hρ hT hlo
  have h3 := evalO_rep hρ hT hhi
  obtain ⟨hu, i, hi, hs⟩ := elK_spec he
  generalize hz : ρ x = v at h1
  generalize hz' : ρ lo = u at h2
  generalize hz'' : ρ hi' = u' at h3
  cases h2
  cases h3
  subst hli
  subst hhii
  obtain ⟨a, c, rfl, hc1, hc2⟩ := rep_cap h1
  have hR := rep_sliced (s := s) h1 hxl hlh hl (Nat.le_trans hl hc1) (Nat.le_refl c)
  have hrun : (Instr.sliceAt ty (.slice a n c) (some (.int k (l : Int))) (some (.int k' (h : Int))) none).run P w = .ok (.slice (if c = l then a else a.map (·.add (l * s))) (h - l) (c - l)) w := by
    have : h ≤ c := Nat.le_trans hl hc1
    simp [Instr.sliceAt, run_underlying hu, Instr.slice, Instr.sliceBounds, Instr.sliceBound, asIntOf, this, hlh, sizeOf, typeInfo, hi, hs]
  simp only [execOp, ho, hz, hz', hz'', Option.map_some, Option.map_none, Sem.run_bind, hrun, Result.andThen_ok, Sem.run_pure]
  exact upon_val hR
end
end PW
end Go.Proofs.YtkaalpdfppbdeaaDoor
