/- Texts of the proof, part 2. -/
import Derived.Laws.Tables
import Derived.Great.BuildSlice
import Derived.Deep.LoopGhost
import Derived.Laws.OwnMore
import Derived.Test.YtbpgndbjbaoolaaGreatCardTLB1
/- Pure walks, third part: literals, boxes and parts of slices. No program in sight. -/
namespace Go.Proofs.YtbpgndbjbaoolaaGreat
set_option linter.unusedVariables false
set_option linter.unusedSimpArgs false
namespace PW
open Go.RowKit Reg Mem

section
variable {P : Program} {σ : Sto} {t : Tms} {o : Oper}

/-- The cells of a value. -/
def cellsP : PV → Option (List PV)
  | .agg xs => some xs
  | .raw v => some (v.cells.toList.map .raw)
  | .any => none
  | .tuple _ => none
  | p => some [p]
theorem RepL.one {E : Env} {w : World} {v : Value} {p : PV} (h : Rep E w v p) : RepL E w [v] [p] := RepL.cons h (RepL.nil E w)
theorem cellsP_rep {E : Env} {w : World} {v : Value} {p : PV} {xs : List PV} (h : Rep E w v p) (hx : cellsP p = some xs) : RepL E w v.cells.toList xs := by
  cases h with
  | any => cases hx
  | raw =>
    simp only [cellsP, Option.some.injEq] at hx
    subst hx
    refine ⟨by simp, fun i x u h1 h2 => ?_⟩
    rw [List.getElem?_map, h1] at h2
    cases h2
    exact .raw x
  | nils => cases hx; exact RepL.one .nils
  | empty a c h => cases hx; exact RepL.one (.empty a c h)
  | slice b off n c cs xs h0 h1 h2 hb hM hc hl hr => cases hx; exact RepL.one (.slice b off n c cs _ h0 h1 h2 hb hM hc hl hr)
  | pin b o' off cs xs hb hM hc hl hr => cases hx; exact RepL.one (.pin b o' off cs _ hb hM hc hl hr)
  | agg cs xs hl hr => cases hx; exact ⟨by simpa [Value.cells] using hl, fun i x u h1 h2 => hr i x u (by simpa [Value.cells] using h1) h2⟩
  | tuple cs xs hl hr => cases hx
  | func f cs xs hl hr => cases hx; exact RepL.one (.func f cs _ hl hr)
  | ptr i off b hi h => cases hx; exact RepL.one (.ptr i off b hi h)
  | own i hi v h hs =>
    cases hx
    have : v.cells = #[v] := by cases v <;> first | rfl | cases hs
    rw [this]
    exact RepL.one (.own i hi v h hs)
def over (cells : List PV) (off : Nat) (ys : List PV) : List PV := cells.take off ++ (ys ++ cells.drop (off + ys.length))
def fillP (place : Nat → Option (Nat × Nat)) (cells : List PV) : List (Nat × List PV) → Option (List PV)
  | [] => some cells
  | (i, ys) :: rest => match place i with
    | none => none
    | some (off, size) => bif Nat.beq ys.length size && Nat.ble (off + size) cells.length then fillP place (over cells off ys) rest else none
theorem foldl_over : ∀ (l : List Value) (j off : Nat) (cs : Array Value), off + j + l.length ≤ cs.size →
    (((l.zipIdx j).foldl (fun cs (c, j) => cs.setIfInBounds (off + j) c) cs).toList = cs.toList.take (off + j) ++ (l ++ cs.toList.drop (off + j + l.length)))
  | [], j, off, cs, _ => by simp
  | c :: l, j, off, cs, h => by
    simp only [List.length_cons] at h
    have hlt : off + j < cs.toList.length := by rw [Array.length_toList]; omega
    rw [List.zipIdx_cons, List.foldl_cons, foldl_over l (j + 1) off _ (by simp; omega)]
    simp only [Array.toList_setIfInBounds]
    rw [show off + (j + 1) = off + j + 1 by omega, List.take_set, List.drop_set, if_pos (by omega), List.take_add_one]
    have e1 : cs.toList[off + j]?.toList = [cs.toList[off + j]] := by simp
    rw [e1, List.set_append_right _ _ (by rw [List.length_take]; omega), List.length_take, Nat.min_eq_left (by omega)]
    simp [Nat.add_assoc, Nat.add_comm 1 l.length, Nat.add_left_comm]
theorem over_rep {E : Env} {w : World} {cs : Array Value} {vs : List Value} {xs ys : List PV} (h : RepL E w cs.toList xs) (k : RepL E w vs ys) (off : Nat) (hl : off + vs.length ≤ cs.size) :
    RepL E w ((vs.zipIdx).foldl (fun cs (c, j) => cs.setIfInBounds (off + j) c) cs).toList (over xs off ys) := by
  have := foldl_over vs 0 off cs (by omega)
  simp only [Nat.add_zero] at this
  rw [this]
  unfold over
  rw [← k.1]
  exact (h.take off).append (k.append (h.drop _))
theorem fill_rep {E : Env} {w : World} (place : Nat → Option (Nat × Nat)) : ∀ (vs : List (Nat × Value)) (ps : List (Nat × List PV)) (cs : Array Value) (xs ys : List PV), RepL E w cs.toList xs → vs.length = ps.length →
    (∀ (i : Nat) (v : Nat × Value) (p : Nat × List PV), vs[i]? = some v → ps[i]? = some p → v.1 = p.1 ∧ RepL E w v.2.cells.toList p.2) → fillP place xs ps = some ys → ∃ cs', Instr.fill place cs vs = some cs' ∧ RepL E w cs'.toList ys
  | [], [], cs, xs, ys, h, _, _, hf => by simp only [fillP, Option.some.injEq] at hf; subst hf; exact ⟨cs, rfl, h⟩
  | [], _ :: _, _, _, _, _, hl, _, _ => by simp at hl
  | _ :: _, [], _, _, _, _, hl, _, _ => by simp at hl
  | (i, v) :: vs, (j, p) :: ps, cs, xs, ys, h, hl, hp, hf => by
    obtain ⟨he, hv⟩ := hp 0 (i, v) (j, p) rfl rfl
    simp only at he hv
    subst he
    simp only [fillP] at hf
    split at hf
    · cases hf
    · rename_i off size hpl
      rw [Bool.cond_eq_ite] at hf
      split at hf
      · rename_i hc
        simp only [Bool.and_eq_true, Nat.beq_eq, Nat.ble_eq] at hc
        have hsz : v.cells.size = size := by have := hv.1; rw [Array.length_toList] at this; omega
        have hcs : cs.size = xs.length := by have := h.1; rw [Array.length_toList] at this; exact this
        have hO := over_rep h hv off (by rw [Array.length_toList]; omega)
        obtain ⟨cs', h1, h2⟩ := fill_rep place vs ps _ _ ys hO (by simpa using hl) (fun k a b h1 h2 => hp (k + 1) a b (by simpa using h1) (by simpa using h2)) hf
        refine ⟨cs', ?_, h2⟩
        have hcond : (v.cells.size ≠ size || decide (off + v.cells.size > cs.size)) = false := by simp; omega
        simp only [Instr.fill, hpl]
        rw [if_neg (by simp; omega)]
        have : (Array.zipIdx v.cells).foldl (fun cs (x : Value × Nat) => cs.setIfInBounds (off + x.2) x.1) cs = (v.cells.toList.zipIdx).foldl (fun cs (x : Value × Nat) => cs.setIfInBounds (off + x.2) x.1) cs := by
          rw [← Array.foldl_toList, Array.toList_zipIdx]
        rw [this]
        exact h1
      · cases hf

/-- The parts of a literal. -/
def evalP (t : Tms) : List (Nat × Operand) → Option (List (Nat × List PV))
  | [] => some []
  | (i, x) :: l => match evalO t x with
    | none => none
    | some p => match cellsP p, evalP t l with
      | some q, some r => some ((i, q) :: r)
      | _, _ => none
theorem evalP_rep {E : Env} {w : World} {ρ : Operand → Value} (hρ : IsEval ρ) (h : RepT E w ρ t) : ∀ (l : List (Nat × Operand)) (ps : List (Nat × List PV)), evalP t l = some ps →
    (l.map fun x => (x.1, ρ x.2)).length = ps.length ∧ ∀ (i : Nat) (v : Nat × Value) (p : Nat × List PV), (l.map fun x => (x.1, ρ x.2))[i]? = some v → ps[i]? = some p → v.1 = p.1 ∧ RepL E w v.2.cells.toList p.2
  | [], ps, hx => by simp only [evalP, Option.some.injEq] at hx; subst hx; exact ⟨rfl, fun i v p h => by simp at h⟩
  | (i, x) :: l, ps, hx => by
    simp only [evalP] at hx
    split at hx
    · cases hx
    · rename_i p hp
      split at hx
      · rename_i q r hq hr
        cases hx
        obtain ⟨h1, h2⟩ := evalP_rep hρ h l r hr
        refine ⟨by simpa using h1, fun k v p' k1 k2 => ?_⟩
        cases k with
        | zero =>
          simp at k1 k2
          subst k1; subst k2
          exact ⟨rfl, cellsP_rep (evalO_rep hρ h hp) hq⟩
        | succ k => exact h2 k v p' (by simpa using k1) (by simpa using k2)
      · cases hx
/-- A struct type: places and zero. -/
def stK (P : Program) (ty : TypeId) : Option (List (Nat × Nat) × List Value) :=
  match P.info? ty, P.underlying ty with
  | some it, some (.struct fields) =>
    match it.zero, fields.toList.mapM (fun f => (P.info? f.type).map fun i => (f.offset, i.size)) with
    | some z, some places => some (places, z.cells.toList)
    | _, _ => none
  | _, _ => none
theorem y_build {ty : TypeId} {parts : Array (Nat × Operand)} {places : List (Nat × Nat)} {zero : List Value} {ps : List (Nat × List PV)} {xs : List PV} (ho : o.op = .build ty parts) (hk : stK P ty = some (places, zero)) (hp : evalP t parts.toList = some ps)
    (hf : fillP (places[·]?) (zero.map .raw) ps = some xs) : Yield P σ t o (.agg xs) := by
  intro F base E ρ w hρ hS hT
  obtain ⟨h1, h2⟩ := evalP_rep hρ hT parts.toList ps hp
  have hz : RepL E w zero.toArray.toList (zero.map .raw) := ⟨by simp, fun i x u k1 k2 => by
    simp only [List.getElem?_map, Option.map_eq_some_iff] at k2
    obtain ⟨y, hy, rfl⟩ := k2
    simp only at k1
    rw [hy] at k1
    cases k1
    exact .raw _⟩
  obtain ⟨cs, hc, hR⟩ := fill_rep (places[·]?) _ ps zero.toArray _ xs hz h1 h2 hf
  have hb : P.built ty ((parts.map fun (i, x) => (i, ρ x)).toList) = some cs := by
    unfold stK at hk
    split at hk
    · rename_i it fields hit hu
      split at hk
      · rename_i z pl hz' hpl
        cases hk
        simp only [Program.built, hit, hu, hz', hpl, Array.toList_map]
        simpa using hc
      · cases hk
    · cases hk
  have hrun := run_build (P := P) w ty (parts.map fun (i, x) => (i, ρ x)) cs hb
  simp only [execOp, ho, Sem.run_bind, hrun, Result.andThen_ok, Sem.run_pure]
  exact upon_val (.agg cs xs (by have := hR.1; rw [Array.length_toList] at this; exact this) (fun i x u k1 k2 => hR.2 i x u (by simpa using k1) k2))

theorem fresh_not {F : Nat → Prop} {base : Nat} {E : Env} {w : World} (hS : Sat F base σ E w) : ¬ E.M w.heap.size := fun h => Nat.lt_irrefl _ (hS.lt h)
theorem size_alloc (w : World) (o : Obj) : (w.alloc o).heap.size = w.heap.size + 1 := by simp
/-- A new row of cells, which nobody changes. -/
theorem pin_new {F : Nat → Prop} {base : Nat} {E : Env} {w : World} (hS : Sat F base σ E w) (cs : Array Value) (e : TypeId) {xs : List PV} (h : RepL E w cs.toList xs) : Rep E (w.alloc (.cells cs e)) (.pointer (some ⟨w.heap.size, 0, none⟩)) (.pin xs 0) := by
  have hE : Ext w (w.alloc (.cells cs e)) := (Ext.refl w).alloc _
  have := Rep.pin (E := E) (w := w.alloc (.cells cs e)) w.heap.size 0 0 cs.toList xs (by rw [size_alloc]; exact Nat.lt_succ_self _) (fresh_not hS) (fun i x hx => by simp only [World.cell?, heap_alloc_new]; simpa using hx) h.1 (fun i x u k1 k2 => (h.2 i x u k1 k2).ext hE)
  exact this
theorem slice_new {F : Nat → Prop} {base : Nat} {E : Env} {w : World} (hS : Sat F base σ E w) (cs : Array Value) (e : TypeId) {n : Nat} (hn : n ≤ maxLen) {xs : List PV} (h0 : 0 < n) (h : RepL E w cs.toList xs) : Rep E (w.alloc (.cells cs e)) (.slice (some ⟨w.heap.size, 0, none⟩) n n) (.slice n xs) := by
  have hE : Ext w (w.alloc (.cells cs e)) := (Ext.refl w).alloc _
  exact Rep.slice (E := E) (w := w.alloc (.cells cs e)) w.heap.size 0 n n cs.toList xs h0 (Nat.le_refl _) hn (by rw [size_alloc]; exact Nat.lt_succ_self _) (fresh_not hS) (fun i x hx => by simp only [World.cell?, heap_alloc_new]; simpa using hx) h.1 (fun i x u k1 k2 => (h.2 i x u k1 k2).ext hE)
theorem y_boxPin {ty : TypeId} {x : Operand} {p : PV} {xs : List PV} (ho : o.op = .box ty x) (hx : evalO t x = some p) (hc : cellsP p = some xs) : Yield P σ t o (.pin xs 0) := by
  intro F base E ρ w hρ hS hT
  have h := cellsP_rep (evalO_rep hρ hT hx) hc
  have hr : (Instr.box ty (ρ x)).run P w = .ok (.pointer (some ⟨w.heap.size, 0, none⟩)) (w.alloc (.cells (ρ x).cells ty)) := by
    simp [Instr.box, newVar, newRow]
  simp only [execOp, ho, Sem.run_bind, hr, Result.andThen_ok, Sem.run_pure]
  exact ⟨(Ext.refl w).alloc _, pin_new hS _ _ h⟩
/-- A slice type: its elements' type, size and zero. -/
def slK (P : Program) (ty : TypeId) : Option (TypeId × Nat × List Value) :=
  match P.underlying ty with
  | some (.slice e) => match P.info? e with
    | some i => match i.zero with
      | some z => if z.cells.size = i.size ∧ 0 < i.size then some (e, i.size, z.cells.toList) else none
      | none => none
    | none => none
  | _ => none
theorem slK_spec {ty e s : Nat} {z : List Value} (h : slK P ty = some (e, s, z)) : P.underlying ty = some (.slice e) ∧ ∃ i z', P.info? e = some i ∧ i.size = s ∧ i.zero = some z' ∧ z'.cells.toList = z ∧ z.length = s ∧ 0 < s := by
  unfold slK at h
  split at h
  · rename_i e' hu
    split at h
    · rename_i i hi
      split at h
      · rename_i z' hz
        split at h
        · rename_i hc; cases h; exact ⟨hu, i, z', hi, rfl, hz, rfl, by simpa using hc.1, hc.2⟩
        · cases h
      · cases h
    · cases h
  · cases h
def zeros (z : List PV) : Nat → List PV
  | 0 => []
  | n + 1 => z ++ zeros z n
theorem zeros_len (z : List PV) (n : Nat) : (zeros z n).length = n * z.length := by
  induction n with
  | zero => simp [zeros]
  | succ n ih => simp [zeros, ih, Nat.succ_mul]; omega
theorem zeros_get (z : List PV) : ∀ (n i : Nat), i < n * z.length → (zeros z n)[i]? = z[i % z.length]?
  | 0, i, h => by simp at h
  | n + 1, i, h => by
    simp only [zeros]
    by_cases hi : i < z.length
    · rw [List.getElem?_append_left hi, Nat.mod_eq_of_lt hi]
    · rw [List.getElem?_append_right (by omega), zeros_get z n (i - z.length) (by rw [Nat.succ_mul] at h; omega)]
      rw [Nat.mod_eq_sub_mod (by omega : i ≥ z.length)]
theorem zeros_rep {E : Env} {w : World} (z : Array Value) (n m : Nat) (hm : m = n * z.size) : RepL E w ((Array.range m).map (z[· % z.size]!)).toList (zeros (z.toList.map .raw) n) := by
  refine ⟨by simp [zeros_len, hm], fun i x u h1 h2 => ?_⟩
  have hi : i < m := by have := (List.getElem?_eq_some_iff.1 h1).1; simpa using this
  rw [zeros_get _ _ _ (by simp; omega)] at h2
  have hpos : 0 < z.size := by
    rcases Nat.eq_zero_or_pos z.size with h | h
    · rw [h] at hm; simp at hm; omega
    · exact h
  have hlt := Nat.mod_lt i hpos
  simp [hi] at h1
  simp [hlt] at h2
  subst h1; subst h2
  have : z[i % z.size]! = z[i % z.size] := by simp [hlt]
  rw [this]
  exact .raw _
theorem y_buildSlice {ty e s n : Nat} {parts : Array (Nat × Operand)} {z : List Value} {ps : List (Nat × List PV)} {xs : List PV} (ho : o.op = .buildSlice ty n parts) (hk : slK P ty = some (e, s, z)) (hn : 0 < n ∧ n * s ≤ 16777216) (hp : evalP t parts.toList = some ps)
    (hf : fillP (fun i => some (i * s, s)) (zeros (z.map .raw) n) ps = some xs) : Yield P σ t o (.slice n xs) := by
  intro F base E ρ w hρ hS hT
  obtain ⟨h1, h2⟩ := evalP_rep hρ hT parts.toList ps hp
  obtain ⟨hu, i, z', hi, hs, hz, hzz, hzl, hpos⟩ := slK_spec hk
  have hzs : z'.cells.size = s := by rw [← hzl, ← hzz]; simp
  have hR0 : RepL E w ((Array.range (n * s)).map (z'.cells[· % z'.cells.size]!)).toList (zeros (z.map .raw) n) := by
    rw [← hzz]; exact zeros_rep z'.cells n (n * s) (by rw [hzs])
  obtain ⟨cs, hc, hR⟩ := fill_rep (fun i => some (i * s, s)) _ ps _ _ xs hR0 h1 h2 hf
  have hns : 0 < n * s := Nat.mul_pos hn.1 hpos
  have hrun := run_buildSlice (P := P) w ty e n (parts.map fun (i, x) => (i, ρ x)) cs i z' hu hi hz (by rw [hs]; omega) (by rw [hs]; omega) (by rw [hs, Array.toList_map]; simpa using hc)
  simp only [execOp, ho, Sem.run_bind, hrun, Result.andThen_ok, Sem.run_pure]
  have hle : n ≤ n * s := Nat.le_mul_of_pos_right n hpos
  exact ⟨(Ext.refl w).alloc _, slice_new hS _ _ (by unfold maxLen; omega) hn.1 hR⟩
theorem y_emptySlice {ty e s : Nat} {z : List Value} (ho : o.op = .buildSlice ty 0 #[]) (hk : slK P ty = some (e, s, z)) : Yield P σ t o (.slice 0 []) := by
  intro F base E ρ w hρ hS hT
  obtain ⟨hu, i, z', hi, hs, hz, hzz, hzl, hpos⟩ := slK_spec hk
  have hrun : (Instr.buildSlice ty 0 #[]).run P w = .ok (.slice (some ⟨w.heap.size, 0, none⟩) 0 0) (w.alloc (.cells #[] e)) := by
    have : Array.map (fun _ : Nat => (default : Value)) (Array.range 0) = #[] := by simp [Array.range]
    simp [Instr.buildSlice, run_underlying hu, sizeOf, typeInfo, hi, Instr.fill, newRow, this]
  simp only [execOp, ho, Sem.run_bind, List.map_toArray, List.map_nil, hrun, Result.andThen_ok, Sem.run_pure]
  exact ⟨(Ext.refl w).alloc _, .empty _ _ (Nat.zero_le _)⟩

/-- A part of a slice. -/
theorem rep_sliced {E : Env} {w : World} {a : Option Addr} {n c l h m s : Nat} {xs : List PV} (hv : Rep E w (.slice a n c) (.slice n xs)) (hx : xs.length = n * s) (hl : l ≤ h) (hh : h ≤ n) (hm : h ≤ m) (hmc : m ≤ c) :
    Rep E w (.slice (if m = l then a else a.map (·.add (l * s))) (h - l) (m - l)) (.slice (h - l) ((xs.drop (l * s)).take ((h - l) * s))) := by
  by_cases h0 : h - l = 0
  · rw [h0]
    have : (xs.drop (l * s)).take (0 * s) = [] := by simp
    rw [this]
    have hcm : m - l ≤ maxLen ∨ a = none := by
      cases hv with
      | nils => exact .inr rfl
      | empty _ _ h' => exact .inl (by omega)
      | slice b off _ _ cs _ h0 h1 h2 hb hM hc hl hr => exact .inl (by omega)
    cases a with
    | none =>
      cases hv
      have : m - l = 0 := by omega
      rw [this]
      split <;> exact .nils
    | some ad =>
      have hcm' := hcm.resolve_right (by simp)
      split
      · exact .empty _ _ hcm'
      · exact .empty _ _ hcm'
  · cases hv with
    | nils => omega
    | empty _ _ h' => omega
    | slice b off _ _ cs _ h0 h1 h2 hb hM hc hll hr =>
      rw [if_neg (by omega)]
      have hR := ((show RepL E w cs xs from ⟨hll, hr⟩).drop (l * s)).take ((h - l) * s)
      have := Rep.slice (E := E) (w := w) b (off + l * s) (h - l) (m - l) _ _ (by omega) (by omega) (by omega) hb hM (fun i x hx => by
        rw [List.getElem?_take] at hx
        split at hx
        · rw [List.getElem?_drop] at hx; rw [Nat.add_assoc]; exact hc _ x hx
        · cases hx) hR.1 hR.2
      simpa [Addr.add_lit] using this
theorem rep_cap {E : Env} {w : World} {v : Value} {n : Nat} {xs : List PV} (h : Rep E w v (.slice n xs)) : ∃ a c, v = .slice a n c ∧ n ≤ c ∧ c ≤ maxLen := by
  cases h with
  | nils => exact ⟨_, _, rfl, Nat.le_refl _, Nat.zero_le _⟩
  | empty a c h => exact ⟨_, _, rfl, Nat.zero_le _, h⟩
  | slice b off _ c cs _ h0 h1 h2 => exact ⟨_, _, rfl, h1, h2⟩
theorem y_sliceLo {ty e s n l : Nat} {x lo : Operand} {xs : List PV} {k : IntKind} {li : Int} (ho : o.op = .slice ty x (some lo) none none) (he : elK P ty = some (e, s)) (hx : evalO t x = some (.slice n xs)) (hlo : evalO t lo = some (.raw (.int k li))) (hxl : xs.length = n * s) (hli : li = (l : Int)) (hl : l ≤ n) :
    Yield P σ t o (.slice (n - l) ((xs.drop (l * s)).take ((n - l) * s))) := by
  intro F base E ρ w hρ hS hT
  have h1 := evalO_rep hρ hT hx
  have h2 := evalO_rep hρ hT hlo
  obtain ⟨hu, i, hi, hs⟩ := elK_spec he
  generalize hz : ρ x = v at h1
  generalize hz' : ρ lo = u at h2
  cases h2
  subst hli
  obtain ⟨a, c, rfl, hc1, hc2⟩ := rep_cap h1
  have hR := rep_sliced (s := s) h1 hxl hl (Nat.le_refl _) hc1 (Nat.le_refl c)
  have hrun : (Instr.sliceAt ty (.slice a n c) (some (.int k (l : Int))) none none).run P w = .ok (.slice (if c = l then a else a.map (·.add (l * s))) (n - l) (c - l)) w := by
    simp [Instr.sliceAt, run_underlying hu, Instr.slice, Instr.sliceBounds, Instr.sliceBound, asIntOf, hl, sizeOf, typeInfo, hi, hs]
  simp only [execOp, ho, hz, hz', Option.map_some, Option.map_none, Sem.run_bind, hrun, Result.andThen_ok, Sem.run_pure]
  exact upon_val hR
theorem y_sliceHi {ty e s n h : Nat} {x hi' : Operand} {xs : List PV} {k : IntKind} {hii : Int} (ho : o.op = .slice ty x none (some hi') none) (he : elK P ty = some (e, s)) (hx : evalO t x = some (.slice n xs)) (hhi : evalO t hi' = some (.raw (.int k hii))) (hxl : xs.length = n * s) (hli : hii = (h : Int)) (hl : h ≤ n) :
    Yield P σ t o (.slice h (xs.take (h * s))) := by
  intro F base E ρ w hρ hS hT
  have h1 := evalO_rep hρ hT hx
  have h2 := evalO_rep hρ hT hhi
  obtain ⟨hu, i, hi, hs⟩ := elK_spec he
  generalize hz : ρ x = v at h1
  generalize hz' : ρ hi' = u at h2
  cases h2
  subst hli
  obtain ⟨a, c, rfl, hc1, hc2⟩ := rep_cap h1
  have hR := rep_sliced (s := s) (l := 0) h1 hxl (Nat.zero_le _) hl (Nat.le_trans hl hc1) (Nat.le_refl c)
  have hrun : (Instr.sliceAt ty (.slice a n c) none (some (.int k (h : Int))) none).run P w = .ok (.slice (if c = 0 then a else a.map (·.add (0 * s))) (h - 0) (c - 0)) w := by
    have : h ≤ c := Nat.le_trans hl hc1
    simp [Instr.sliceAt, run_underlying hu, Instr.slice, Instr.sliceBounds, Instr.sliceBound, asIntOf, this, sizeOf, typeInfo, hi]
  simp only [execOp, ho, hz, hz', Option.map_some, Option.map_none, Sem.run_bind, hrun, Result.andThen_ok, Sem.run_pure]
  refine upon_val ?_
  simpa using hR
theorem y_sliceLoHi {ty e s n l h : Nat} {x lo hi' : Operand} {xs : List PV} {k k' : IntKind} {li hii : Int} (ho : o.op = .slice ty x (some lo) (some hi') none) (he : elK P ty = some (e, s)) (hx : evalO t x = some (.slice n xs)) (hlo : evalO t lo = some (.raw (.int k li))) (hhi : evalO t hi' = some (.raw (.int k' hii))) (hxl : xs.length = n * s) (hli : li = (l : Int)) (hhii : hii = (h : Int)) (hlh : l ≤ h) (hl : h ≤ n) :
    Yield P σ t o (.slice (h - l) ((xs.drop (l * s)).take ((h - l) * s))) := by
  intro F base E ρ w hρ hS hT
  have h1 := evalO_rep hρ hT hx
  have h2 := evalO_rep hρ hT hlo
  have h3 := evalO_rep hρ hT hhi
  obtain ⟨hu, i, hi, hs⟩ := elK_spec he
  generalize hz : ρ x = v at h1
  generalize hz' : ρ lo = u at h2
  generalize hz'' : ρ hi' = u' at h3
  cases h2
  cases h3
  subst hli
  subst hhii
  obtain ⟨a, c, rfl, hc1, hc2⟩ := rep_cap h1
  have hR := rep_sliced (s := s) h1 hxl hlh hl (Nat.le_trans hl hc1) (Nat.le_refl c)
  have hrun : (Instr.sliceAt ty (.slice a n c) (some (.int k (l : Int))) (some (.int k' (h : Int))) none).run P w = .ok (.slice (if c = l then a else a.map (·.add (l * s))) (h - l) (c - l)) w := by
    have : h ≤ c := Nat.le_trans hl hc1
    simp [Instr.sliceAt, run_underlying hu, Instr.slice, Instr.sliceBounds, Instr.sliceBound, asIntOf, this, hlh, sizeOf, typeInfo, hi, hs]
  simp only [execOp, ho, hz, hz', hz'', Option.map_some, Option.map_none, Sem.run_bind, hrun, Result.andThen_ok, Sem.run_pure]
  exact upon_val hR
end
end PW
end Go.Proofs.YtbpgndbjbaoolaaGreat

/- Pure walks, fourth part: states, regions, code and calls. No program in sight. -/
namespace Go.Proofs.YtbpgndbjbaoolaaGreat
set_option linter.unusedVariables false
set_option linter.unusedSimpArgs false
namespace PW
open Go.RowKit Reg Mem

structure St where
  t : Tms
  σ : Sto
structure SatSt (F : Nat → Prop) (base N : Nat) (st : St) (E : Env) (a : Act) (w : World) : Prop where
  sat : Sat F base st.σ E w
  tmp : RepT E w a.eval st.t
  dfr : a.defers = []
  size : a.tmps.size = N
/-- From E, w on: some state of which K is known. -/
def Post (F : Nat → Prop) (base N : Nat) (E : Env) (w : World) (K : St → Prop) (a' : Act) (w' : World) : Prop :=
  ∃ st' E', K st' ∧ SatSt F base N st' E' a' w' ∧ Goes E w E' w' ∧ Below base w w'
theorem Below.ofExt {base : Nat} {w w' : World} (h : Ext w w') (hb : base ≤ w.heap.size) : Below base w w' := Below.mono h hb
/-- From E₀, w₀ to E, w. -/
structure Came (base L : Nat) (E₀ : Env) (w₀ : World) (E : Env) (w : World) : Prop where
  L : E₀.L = L
  g : Goes E₀ w₀ E w
  b : Below base w₀ w
theorem Came.on {base L : Nat} {E₀ E E' : Env} {w₀ w w' : World} (h : Came base L E₀ w₀ E w) (g : Goes E w E' w') (b : Below base w w') : Came base L E₀ w₀ E' w' := ⟨h.L, h.g.trans g, h.b.trans b⟩

/-- Less is known. -/
def Sub (t t' : Tms) : Prop := ∀ k p', look k t' = some p' → ∃ p, look k t = some p ∧ PLe p p'
theorem Sub.refl (t : Tms) : Sub t t := fun _ p h => ⟨p, h, PLe.refl p⟩
theorem Sub.nil (t : Tms) : Sub t [] := fun k p h => by cases h
theorem Sub.cons {t t' : Tms} {k : Nat} {p : PV} (h : look k t = some p) (hs : Sub t t') : Sub t ((k, p) :: t') := fun j q hj => by
  simp only [look] at hj
  rw [Bool.cond_eq_ite] at hj
  split at hj
  · rename_i he
    have := Nat.eq_of_beq_eq_true he
    subst this
    cases hj
    exact ⟨p, h, PLe.refl p⟩
  · exact hs j q hj
theorem Sub.consLe {t t' : Tms} {k : Nat} {p q : PV} (h : look k t = some p) (hl : PLe p q) (hs : Sub t t') : Sub t ((k, q) :: t') := fun j q' hj => by
  simp only [look] at hj
  rw [Bool.cond_eq_ite] at hj
  split at hj
  · rename_i he
    have := Nat.eq_of_beq_eq_true he
    subst this
    cases hj
    exact ⟨p, h, hl⟩
  · exact hs j q' hj
theorem Sub.skip {t t' : Tms} {k : Nat} {p : PV} (h : look k t' = none) (hs : Sub t t') : Sub ((k, p) :: t) t' := fun j q hj => by
  have hne : j ≠ k := fun e => by subst e; rw [h] at hj; cases hj
  obtain ⟨p', h1, h2⟩ := hs j q hj
  refine ⟨p', ?_, h2⟩
  simp only [look]
  rw [Bool.cond_eq_ite, if_neg (fun e => hne (Nat.eq_of_beq_eq_true e))]
  exact h1
theorem RepT.sub {E : Env} {w : World} {ρ : Operand → Value} {t t' : Tms} (h : RepT E w ρ t) (hs : Sub t t') : RepT E w ρ t' := fun k p hk => by
  obtain ⟨q, h1, h2⟩ := hs k p hk
  exact h2 E w _ (h k q h1)

theorem RepT.put {E : Env} {w : World} {a : Act} {t : Tms} (h : RepT E w a.eval t) {d : Nat} {v : Value} {p : PV} (hv : Rep E w v p) (hd : d < a.tmps.size) : RepT E w (a.put (some d) v).eval ((d, p) :: t) := fun k q hk => by
  simp only [look] at hk
  rw [Bool.cond_eq_ite] at hk
  split at hk
  · rename_i he
    have := Nat.eq_of_beq_eq_true he
    subst this
    cases hk
    have : (a.put (some k) v).eval (.tmp k) = v := by simp [Act.put, Act.eval, hd]
    rw [this]; exact hv
  · rename_i he
    have hne : k ≠ d := fun e => he (by rw [e]; exact Nat.beq_refl d)
    rw [Act.eval_put (fun d' hd' heq => by cases hd'; cases heq; exact hne rfl)]
    exact h k q hk
theorem SatSt.put {F : Nat → Prop} {base N : Nat} {t : Tms} {σ σ' : Sto} {E E' : Env} {a : Act} {w w' : World} (h : SatSt F base N ⟨t, σ⟩ E a w) (hs : Sat F base σ' E' w') (g : Goes E w E' w') {d : Nat} (hd : Nat.blt d N = true) {v : Value} {p : PV} (hv : Rep E' w' v p) : SatSt F base N ⟨(d, p) :: t, σ'⟩ E' (a.put (some d) v) w' :=
  ⟨hs, RepT.put (h.tmp.goes g) hv (by rw [h.size]; exact Nat.blt_eq.mp hd), by simpa [Act.put] using h.dfr, by simpa [Act.put] using h.size⟩
theorem SatSt.put0 {F : Nat → Prop} {base N : Nat} {t : Tms} {σ σ' : Sto} {E E' : Env} {a : Act} {w w' : World} (h : SatSt F base N ⟨t, σ⟩ E a w) (hs : Sat F base σ' E' w') (g : Goes E w E' w') (v : Value) : SatSt F base N ⟨t, σ'⟩ E' (a.put none v) w' :=
  ⟨hs, h.tmp.goes g, h.dfr, h.size⟩

section
variable {P : Program} {N L : Nat} {ops : Array Oper}

/-- The rest of a region in the order of the text. -/
def WR (P : Program) (N L : Nat) (ops : Array Oper) (l : List Oper) (st : St) (K : St → Prop) : Prop :=
  ∀ F base E₀ w₀ E a w, Came base L E₀ w₀ E w → SatSt F base N st E a w → ∀ (Q : Exit → Act → World → Prop) (k : Nat), (∀ a' w', Post F base N E₀ w₀ K a' w' → Q .normal a' w') → (∀ j, l[j]? = ops[k + j]?) → wpOps P ops Q (List.range' k l.length) a w

theorem WR_nil {st : St} {K : St → Prop} (h : K st) : WR P N L ops [] st K := by
  intro F base E₀ w₀ E a w hc hs Q k hQ _
  exact hQ a w ⟨st, E, h, hs, hc.g, hc.b⟩
theorem WR.mono {l : List Oper} {st : St} {K K' : St → Prop} (h : WR P N L ops l st K) (hk : ∀ s, K s → K' s) : WR P N L ops l st K' := by
  intro F base E₀ w₀ E a w hc hs Q k hQ hl
  exact h F base E₀ w₀ E a w hc hs Q k (fun a' w' ⟨s, E', h1, h2⟩ => hQ a' w' ⟨s, E', hk s h1, h2⟩) hl
theorem WR_sub {l : List Oper} {t t' : Tms} {σ : Sto} {K : St → Prop} (hs : Sub t t') (h : WR P N L ops l ⟨t', σ⟩ K) : WR P N L ops l ⟨t, σ⟩ K := by
  intro F base E₀ w₀ E a w hc hst
  exact h F base E₀ w₀ E a w hc ⟨hst.sat, hst.tmp.sub hs, hst.dfr, hst.size⟩

/-- How an operation's guard stands. -/
def wantB (ops : Array Oper) (t : Tms) (o : Oper) : Option Bool :=
  match o.guard with
  | none => some true
  | some (j, want) => match (ops[j]?).bind (·.dst) with
    | some k => match look k t with
      | some (.raw v) => match boolOf v with
        | some b => some (b == want)
        | none => some false
      | _ => none
    | none => none
theorem wantB_spec {E : Env} {w : World} {a : Act} {t : Tms} {o : Oper} {b : Bool} (hT : RepT E w a.eval t) (h : wantB ops t o = some b) : wantedR ops o a.eval = b := by
  unfold wantB at h
  unfold wantedR
  split at h
  · rename_i hg; rw [hg]; cases h; rfl
  · rename_i j want hg
    rw [hg]
    simp only
    split at h
    · rename_i k hk
      simp only [hk]
      split at h
      · rename_i b' hb
        have := hT k _ hb
        generalize a.eval (.tmp k) = z at this
        cases this
        split at h
        · rename_i b'' hb''
          cases h
          simp [hb'']
        · rename_i hb''
          cases h
          simp [hb'']
      · cases h
    · cases h

theorem WR_step {o : Oper} {rest : List Oper} {t : Tms} {σ : Sto} {K : St → Prop} (hw : wantB ops t o = some true)
    (h : ∀ F base E a w, SatSt F base N ⟨t, σ⟩ E a w → ∀ (next : Act → World → Prop) (Q : Exit → Act → World → Prop), (∀ a' w' s E', WR P N L ops rest s K → SatSt F base N s E' a' w' → Goes E w E' w' → Below base w w' → next a' w') → o.wp P a w next Q) :
    WR P N L ops (o :: rest) ⟨t, σ⟩ K := by
  intro F base E₀ w₀ E a w hc hs Q k hQ hl
  have h0 : ops[k]? = some o := by simpa using (hl 0).symm
  rw [List.length_cons, List.range'_succ, wpOps_cons]
  unfold wpOp
  simp only [h0]
  rw [wantedR_eval, wantB_spec hs.tmp hw, if_pos rfl]
  left
  refine h F base E a w hs _ Q (fun a' w' s E' h1 h2 h3 h4 => ?_)
  exact h1 F base E₀ w₀ E' a' w' (hc.on h3 h4) h2 Q (k + 1) hQ (fun j => by have := hl (j + 1); simpa [Nat.add_assoc, Nat.add_comm 1 j] using this)

theorem upon_of {a : Act} {w : World} {o : Oper} {Φ : Know} {next : Act → World → Prop} {Q : Exit → Act → World → Prop} (h : StepUpon P w Φ ((execOp a.eval o).run P w)) (hn : ∀ v w', Ext w w' → Φ v w' → next (a.put o.dst v) w') : o.wp P a w next Q := by
  unfold Oper.wp
  generalize (execOp a.eval o).run P w = r at *
  cases r with
  | ok x w' =>
    cases x <;> simp only [StepUpon] at h <;> simp only [Oper.upon]
    case value v => exact hn _ _ h.1 h.2
    case skip => exact hn _ _ h.1 h.2
    case enter f args =>
      refine h.2.mono fun e w'' ⟨v, he, hE', hv⟩ => ?_
      subst he
      exact hn _ _ (h.1.trans hE') hv
  | halt x w' => simp only [StepUpon] at h

/-- A quiet operation. -/
theorem WR_val {o : Oper} {rest : List Oper} {t : Tms} {σ : Sto} {K : St → Prop} {d : Nat} {p : PV} (hy : Yield P σ t o p) (hd : o.dst = some d) (hw : wantB ops t o = some true) (hN : Nat.blt d N = true) (h : WR P N L ops rest ⟨(d, p) :: t, σ⟩ K) : WR P N L ops (o :: rest) ⟨t, σ⟩ K := by
  refine WR_step hw fun F base E a w hs next Q hn => upon_of (hy F base E a.eval w (isEval a) hs.sat hs.tmp) fun v w' hE hv => hn _ _ _ E h ?_ (.ext hE) (Below.ofExt hE hs.sat.bl)
  rw [hd]
  exact hs.put (hs.sat.ext hE) (.ext hE) hN hv
/-- An operation whose guard is not met. -/
theorem WR_skip {o : Oper} {rest : List Oper} {t : Tms} {σ : Sto} {K : St → Prop} {d : Nat} (hd : o.dst = some d) (hw : wantB ops t o = some false) (hN : Nat.blt d N = true) (h : WR P N L ops rest ⟨(d, .raw undef) :: t, σ⟩ K) : WR P N L ops (o :: rest) ⟨t, σ⟩ K := by
  intro F base E₀ w₀ E a w hc hs Q k hQ hl
  have h0 : ops[k]? = some o := by simpa using (hl 0).symm
  rw [List.length_cons, List.range'_succ, wpOps_cons]
  unfold wpOp
  simp only [h0]
  rw [wantedR_eval, wantB_spec hs.tmp hw, if_neg Bool.false_ne_true]
  refine h F base E₀ w₀ E _ w hc ?_ Q (k + 1) hQ (fun j => by have := hl (j + 1); simpa [Nat.add_assoc, Nat.add_comm 1 j] using this)
  rw [hd]
  exact hs.put hs.sat (Goes.refl _ _) hN (.raw _)
/-- An operation that changes the call's own store. -/
def Loud (P : Program) (σ : Sto) (t : Tms) (o : Oper) (p : PV) (σ' : Sto) : Prop :=
  ∀ F base E ρ w, IsEval ρ → Sat F base σ E w → RepT E w ρ t → ∃ v w' E', ((execOp ρ o).run P w = .ok (.value v) w' ∨ (v = undef ∧ (execOp ρ o).run P w = .ok .skip w')) ∧ Sat F base σ' E' w' ∧ Goes E w E' w' ∧ Below base w w' ∧ Rep E' w' v p
theorem WR_loud {o : Oper} {rest : List Oper} {t : Tms} {σ σ' : Sto} {K : St → Prop} {d : Nat} {p : PV} (hy : Loud P σ t o p σ') (hd : o.dst = some d) (hw : wantB ops t o = some true) (hN : Nat.blt d N = true) (h : WR P N L ops rest ⟨(d, p) :: t, σ'⟩ K) : WR P N L ops (o :: rest) ⟨t, σ⟩ K := by
  refine WR_step hw fun F base E a w hs next Q hn => ?_
  obtain ⟨v, w', E', hr, h1, h2, h3, h4⟩ := hy F base E a.eval w (isEval a) hs.sat hs.tmp
  have hn' := hn (a.put o.dst v) w' _ E' h (by rw [hd]; exact hs.put h1 h2 hN h4) h2 h3
  unfold Oper.wp
  rcases hr with hr | ⟨rfl, hr⟩
  · rw [hr]; exact hn'
  · rw [hr]; exact hn'
theorem WR_loud0 {o : Oper} {rest : List Oper} {t : Tms} {σ σ' : Sto} {K : St → Prop} {p : PV} (hy : Loud P σ t o p σ') (hd : o.dst = none) (hw : wantB ops t o = some true) (h : WR P N L ops rest ⟨t, σ'⟩ K) : WR P N L ops (o :: rest) ⟨t, σ⟩ K := by
  refine WR_step hw fun F base E a w hs next Q hn => ?_
  obtain ⟨v, w', E', hr, h1, h2, h3, h4⟩ := hy F base E a.eval w (isEval a) hs.sat hs.tmp
  have hn' := hn (a.put o.dst v) w' _ E' h (by rw [hd]; exact hs.put0 h1 h2 v) h2 h3
  unfold Oper.wp
  rcases hr with hr | ⟨rfl, hr⟩
  · rw [hr]; exact hn'
  · rw [hr]; exact hn'
/-- A contract of a function that changes its caller's store. -/
def CanS (P : Program) (f : FuncId) (ps : List PV) (σ : Sto) (R : PV → Sto → Prop) : Prop :=
  ∀ F base E w (vs : Array Value), Sat F base σ E w → RepL E w vs.toList ps → Calls P f vs w fun e w' => ∃ v r σ' E', e = .returned v ∧ R r σ' ∧ Sat F base σ' E' w' ∧ Goes E w E' w' ∧ Below base w w' ∧ Rep E' w' v r
theorem WR_callS {o : Oper} {rest : List Oper} {t : Tms} {σ : Sto} {K : St → Prop} {d : Nat} {f : FuncId} {x : Operand} {args : Array Operand} {ats : Array TypeId} {cap ps : List PV} (ho : o.op = .call { callee := .value x, args, argTypes := ats }) (hf : enters P f = true) (hx : evalO t x = some (.func f cap)) (ha : evalL t args.toList = some ps)
    (hd : o.dst = some d) (hw : wantB ops t o = some true) (hN : Nat.blt d N = true) (hc : CanS P f (ps ++ cap) σ (fun r σ' => WR P N L ops rest ⟨(d, r) :: t, σ'⟩ K)) : WR P N L ops (o :: rest) ⟨t, σ⟩ K := by
  refine WR_step hw fun F base E a w hs next Q hn => ?_
  have h1 := evalO_rep (isEval a) hs.tmp hx
  have h2 := evalL_rep (isEval a) hs.tmp ha
  generalize hz : a.eval x = z at h1
  cases h1 with
  | func _ cs _ hl hr =>
    unfold Oper.wp
    rw [run_callValue hf ho hz w]
    simp only [Oper.upon]
    have h3 : RepL E w (args.map a.eval ++ cs).toList (ps ++ cap) := by
      rw [Array.toList_append, Array.toList_map]
      exact h2.append ⟨by simpa using hl, fun i x u k1 k2 => hr i x u (by simpa using k1) k2⟩
    refine (hc F base E w _ hs.sat h3).mono ?_
    rintro e w' ⟨v, r, σ', E', rfl, hR, hS', hG, hB, hv⟩
    exact hn _ _ _ E' hR (by rw [hd]; exact hs.put hS' hG hN hv) hG hB

/-- A region of quiet operations, whatever its order. -/
inductive Chain (P : Program) (N : Nat) (ops : Array Oper) (σ : Sto) : List Oper → Tms → Tms → Prop
  | nil {t t' : Tms} : Sub t t' → Chain P N ops σ [] t t'
  | val {o : Oper} {rest : List Oper} {t t' : Tms} {d : Nat} {p : PV} : Yield P σ t o p → o.dst = some d → wantB ops t o = some true → Nat.blt d N = true → Chain P N ops σ rest ((d, p) :: t) t' → Chain P N ops σ (o :: rest) t t'
  | skip {o : Oper} {rest : List Oper} {t t' : Tms} {d : Nat} : o.dst = some d → wantB ops t o = some false → Nat.blt d N = true → Chain P N ops σ rest ((d, .raw undef) :: t) t' → Chain P N ops σ (o :: rest) t t'
  | le {l : List Oper} {t u t' : Tms} : Sub t u → Chain P N ops σ l u t' → Chain P N ops σ l t t'
theorem Chain.wr {σ : Sto} {l : List Oper} {t t' : Tms} (h : Chain P N ops σ l t t') {K : St → Prop} (hk : K ⟨t', σ⟩) : WR P N L ops l ⟨t, σ⟩ K := by
  induction h with
  | nil hs => exact WR_sub hs (WR_nil hk)
  | val hy hd hw hN _ ih => exact WR_val hy hd hw hN (ih hk)
  | skip hd hw hN _ ih => exact WR_skip hd hw hN (ih hk)
  | le hs _ ih => exact WR_sub hs (ih hk)

/-- Code. -/
def W (P : Program) (N L : Nat) (c : Code) (st : St) (Q : Exit → St → Prop) : Prop :=
  ∀ F base E₀ w₀ E a w, Came base L E₀ w₀ E w → SatSt F base N st E a w → c.wp P (fun e a' w' => Post F base N E₀ w₀ (Q e) a' w') a w
theorem W.mono {c : Code} {st : St} {Q Q' : Exit → St → Prop} (h : W P N L c st Q) (hq : ∀ e s, Q e s → Q' e s) : W P N L c st Q' := fun F base E₀ w₀ E a w hc hs =>
  wp_mono (h F base E₀ w₀ E a w hc hs) fun e _ _ ⟨s, E', h1, h2⟩ => ⟨s, E', hq e s h1, h2⟩
theorem W_sub {c : Code} {t t' : Tms} {σ : Sto} {Q : Exit → St → Prop} (hs : Sub t t') (h : W P N L c ⟨t', σ⟩ Q) : W P N L c ⟨t, σ⟩ Q := fun F base E₀ w₀ E a w hc hst =>
  h F base E₀ w₀ E a w hc ⟨hst.sat, hst.tmp.sub hs, hst.dfr, hst.size⟩
theorem W_skip {st : St} {Q : Exit → St → Prop} (h : Q .normal st) : W P N L .skip st Q := fun _ _ _ _ E _ _ hc hs => wp_skip ⟨st, E, h, hs, hc.g, hc.b⟩
theorem W_ret {st : St} {Q : Exit → St → Prop} (h : Q .ret st) : W P N L .ret st Q := fun _ _ _ _ E _ _ hc hs => wp_ret ⟨st, E, h, hs, hc.g, hc.b⟩
theorem W_exit {id : Nat} {st : St} {Q : Exit → St → Prop} (h : Q (.exit id) st) : W P N L (.exit id) st Q := fun _ _ _ _ E _ _ hc hs => wp_exit ⟨st, E, h, hs, hc.g, hc.b⟩
def thenQ (K : St → Prop) (Q : Exit → St → Prop) : Exit → St → Prop
  | .normal, s => K s
  | e, s => Q e s
theorem W_seq {x y : Code} {st : St} {Q : Exit → St → Prop} (h : W P N L x st (thenQ (fun s => W P N L y s Q) Q)) : W P N L (.seq x y) st Q := fun F base E₀ w₀ E a w hc hs => by
  refine wp_seq (wp_mono (h F base E₀ w₀ E a w hc hs) fun e a' w' ⟨s, E', h1, h2, h3, h4⟩ => ?_)
  cases e
  case normal => exact h1 F base E₀ w₀ E' a' w' ⟨hc.L, h3, h4⟩ h2
  all_goals exact ⟨s, E', h1, h2, h3, h4⟩
theorem W_cond {k : Nat} {x y : Code} {st : St} {Q : Exit → St → Prop} {b : Bool} (hc : look k st.t = some (.raw (.bool b))) (ht : b = true → W P N L x st Q) (hf : b = false → W P N L y st Q) : W P N L (.cond (.tmp k) x y) st Q := fun F base E₀ w₀ E a w hcm hs => by
  have h1 := hs.tmp k _ hc
  generalize hz : a.eval (.tmp k) = z at h1
  cases h1
  exact wp_cond_split hz (fun h => ht h F base E₀ w₀ E a w hcm hs) (fun h => hf h F base E₀ w₀ E a w hcm hs)
theorem W_condT {k : Nat} {x y : Code} {st : St} {Q : Exit → St → Prop} (hc : look k st.t = some (.raw (.bool true))) (ht : W P N L x st Q) : W P N L (.cond (.tmp k) x y) st Q := W_cond hc (fun _ => ht) (fun h => by cases h)
theorem W_condF {k : Nat} {x y : Code} {st : St} {Q : Exit → St → Prop} (hc : look k st.t = some (.raw (.bool false))) (hf : W P N L y st Q) : W P N L (.cond (.tmp k) x y) st Q := W_cond hc (fun h => by cases h) (fun _ => hf)
def blockQ (id : Nat) (Q : Exit → St → Prop) : Exit → St → Prop
  | .exit j, s => bif Nat.beq j id then Q .normal s else Q (.exit j) s
  | e, s => Q e s
theorem W_block {id : Nat} {c : Code} {st : St} {Q : Exit → St → Prop} (h : W P N L c st (blockQ id Q)) : W P N L (.block id c) st Q := fun F base E₀ w₀ E a w hc hs => by
  refine wp_block (wp_mono (h F base E₀ w₀ E a w hc hs) fun e a' w' ⟨s, E', h1, h2⟩ => ?_)
  cases e with
  | exit j =>
    simp only [blockQ] at h1
    rw [Bool.cond_eq_ite] at h1
    simp only [Exit.inBlock]
    split at h1
    · rename_i hj; rw [if_pos (Nat.eq_of_beq_eq_true hj)]; exact ⟨s, E', h1, h2⟩
    · rename_i hj; rw [if_neg (fun e => hj (by rw [e]; exact Nat.beq_refl id))]; exact ⟨s, E', h1, h2⟩
  | normal => exact ⟨s, E', h1, h2⟩
  | goto _ => exact ⟨s, E', h1, h2⟩
  | ret => exact ⟨s, E', h1, h2⟩
  | panic _ => exact ⟨s, E', h1, h2⟩
  | outgrown => exact ⟨s, E', h1, h2⟩
/-- A loop: I n: what holds at its head, n rounds at most ahead. -/
theorem W_loop {c : Code} {st : St} {Q : Exit → St → Prop} (I : Nat → St → Prop) (n₀ : Nat) (h₀ : I n₀ st) (round : ∀ n s, I n s → W P N L c s (thenQ (fun s' => ∃ m, m < n ∧ I m s') Q)) : W P N L (.loop c) st Q := fun F base E₀ w₀ E a w hc hs => by
  refine wp_loop_ghost (fun n a' w' => Post F base N E₀ w₀ (I n) a' w') n₀ ⟨st, E, h₀, hs, hc.g, hc.b⟩ ?_
  rintro n a' w' ⟨s, E', h1, h2, h3, h4⟩
  refine wp_mono (round n s h1 F base E₀ w₀ E' a' w' ⟨hc.L, h3, h4⟩ h2) ?_
  rintro e a'' w'' ⟨s', E'', k1, k2⟩
  cases e
  case normal =>
    obtain ⟨m, hm, hI⟩ := k1
    exact ⟨m, hm, s', E'', hI, k2⟩
  all_goals exact ⟨s', E'', k1, k2⟩
theorem W_region {id : Nat} {l : List Oper} {st : St} {Q : Exit → St → Prop} (h : WR P N L l.toArray l st (fun s => Q .normal s)) : W P N L (.region id l.toArray false) st Q := fun F base E₀ w₀ E a w hc hs => by
  refine wp_region ?_
  have := h F base E₀ w₀ E a w hc hs (fun e a' w' => Post F base N E₀ w₀ (Q e) a' w') 0 (fun a' w' hp => hp) (fun j => by simp)
  rw [← List.range_eq_range'] at this
  simpa using this
/-- A region, and what follows. -/
theorem W_rs {id : Nat} {l : List Oper} {y : Code} {st : St} {Q : Exit → St → Prop} (h : WR P N L l.toArray l st (fun s => W P N L y s Q)) : W P N L (.seq (.region id l.toArray false) y) st Q := W_seq (W_region h)
theorem W_cs {id : Nat} {l : List Oper} {y : Code} {t t' : Tms} {σ : Sto} {Q : Exit → St → Prop} (h : Chain P N l.toArray σ l t t') (hq : W P N L y ⟨t', σ⟩ Q) : W P N L (.seq (.region id l.toArray false) y) ⟨t, σ⟩ Q := W_rs (h.wr hq)
theorem W_csB {id : Nat} {l : List Oper} {y : Code} {t : Tms} {σ : Sto} {Q : Exit → St → Prop} (k : Nat) (p : PV) (h : Chain P N l.toArray σ l t ((k, p) :: t)) (hq : W P N L y ⟨(k, p) :: t, σ⟩ Q) : W P N L (.seq (.region id l.toArray false) y) ⟨t, σ⟩ Q := W_cs h hq
theorem W_chain {id : Nat} {l : List Oper} {t t' : Tms} {σ : Sto} {Q : Exit → St → Prop} (h : Chain P N l.toArray σ l t t') (hq : Q .normal ⟨t', σ⟩) : W P N L (.region id l.toArray false) ⟨t, σ⟩ Q := W_region (h.wr hq)

theorem W_chainB {id : Nat} {l : List Oper} {t : Tms} {σ : Sto} {Q : Exit → St → Prop} (k : Nat) (p : PV) (h : Chain P N l.toArray σ l t ((k, p) :: t)) (hq : Q .normal ⟨(k, p) :: t, σ⟩) : W P N L (.region id l.toArray false) ⟨t, σ⟩ Q := W_chain h hq

/-- Other numbers for the blocks of the store: fs: the old ones. -/
inductive Ren (fs : List Nat) : PV → PV → Prop
  | pure {p : PV} [IsPure p] : Ren fs p p
  | any {p : PV} : Ren fs .any p
  | own {i j : Nat} : fs[i]? = some j → Ren fs (.own i) (.own j)
  | ptr {i j k : Nat} : fs[i]? = some j → Ren fs (.ptr i k) (.ptr j k)
  | agg {xs ys : List PV} (hl : ys.length = xs.length) (hs : ∀ (j : Nat) x y, xs[j]? = some x → ys[j]? = some y → Ren fs x y) : Ren fs (.agg xs) (.agg ys)
  | tuple {xs ys : List PV} (hl : ys.length = xs.length) (hs : ∀ (j : Nat) x y, xs[j]? = some x → ys[j]? = some y → Ren fs x y) : Ren fs (.tuple xs) (.tuple ys)
def RenL (fs : List Nat) (xs ys : List PV) : Prop := ys.length = xs.length ∧ ∀ (j : Nat) x y, xs[j]? = some x → ys[j]? = some y → Ren fs x y
theorem RenL.nil {fs : List Nat} : RenL fs [] [] := ⟨rfl, fun j x y h => by simp at h⟩
theorem RenL.cons {fs : List Nat} {x y : PV} {xs ys : List PV} (h : Ren fs x y) (hs : RenL fs xs ys) : RenL fs (x :: xs) (y :: ys) := ⟨by simp [hs.1], fun j a b h1 h2 => by
  cases j with
  | zero => simp at h1 h2; subst h1; subst h2; exact h
  | succ j => exact hs.2 j a b (by simpa using h1) (by simpa using h2)⟩
theorem RenL.pure {fs : List Nat} {xs : List PV} [h : IsPureL xs] : RenL fs xs xs := ⟨rfl, fun j x y h1 h2 => by
  rw [h1] at h2; cases h2
  haveI := h.out j x h1
  exact Ren.pure⟩
theorem Ren.aggL {fs : List Nat} {xs ys : List PV} (h : RenL fs xs ys) : Ren fs (.agg xs) (.agg ys) := .agg h.1 h.2
def Env.ren (E : Env) (fs : List Nat) (M : Nat → Prop) : Env := ⟨fs.length, fun i => E.at_ (fs.getD i 0), M⟩
theorem Ren.rep {E : Env} {w : World} {fs : List Nat} {M : Nat → Prop} (hM : ∀ b, M b → E.M b) {p q : PV} (h : Ren fs p q) : ∀ v, Rep E w v q → Rep (E.ren fs M) w v p := by
  induction h with
  | @pure p hp =>
    intro v h
    have := hp.out E M w v hM h
    exact this.goes (E := EF M) (E' := E.ren fs M) (w := w) (w' := w) ⟨Nat.zero_le _, fun i hi => absurd hi (Nat.not_lt_zero i), fun _ _ h => h, Nat.le_refl _, fun _ _ _ => rfl⟩
  | any => intro v _; exact .any v
  | @own i j hij =>
    intro v h
    cases h with
    | own _ hi _ h hs => exact .own i (List.getElem?_eq_some_iff.1 hij).1 v (by simp [Env.ren, List.getD_eq_getElem?_getD, hij, h]) hs
  | @ptr i j k hij =>
    intro v h
    cases h with
    | ptr _ _ b hi h => exact .ptr i k b (List.getElem?_eq_some_iff.1 hij).1 (by simpa [Env.ren, List.getD_eq_getElem?_getD, hij] using h)
  | @agg xs ys hl _ ih =>
    intro v h
    cases h with
    | agg cs _ hl' hr => exact .agg cs xs (hl'.trans hl) (fun j c u h1 h2 => by
        have hj : j < ys.length := by rw [hl]; exact (List.getElem?_eq_some_iff.1 h2).1
        exact ih j u ys[j] h2 (by simp [hj]) c (hr j c _ h1 (by simp [hj])))
  | @tuple xs ys hl _ ih =>
    intro v h
    cases h with
    | tuple cs _ hl' hr => exact .tuple cs xs (hl'.trans hl) (fun j c u h1 h2 => by
        have hj : j < ys.length := by rw [hl]; exact (List.getElem?_eq_some_iff.1 h2).1
        exact ih j u ys[j] h2 (by simp [hj]) c (hr j c _ h1 (by simp [hj])))
inductive BRen (fs : List Nat) : Blk → Blk → Prop
  | cells {ty : TypeId} {xs ys : List PV} : RenL fs xs ys → BRen fs (.cells ty xs) (.cells ty ys)
  | row {e s n : Nat} {xs ys : List PV} : RenL fs xs ys → BRen fs (.row e s n xs) (.row e s n ys)
  | rowP {e s n n' : Nat} {xs ys : List PV} (hn : n' = n) (h : ys = xs) [IsPureL xs] : BRen fs (.row e s n xs) (.row e s n' ys)
  | mp {kv : List (Value × PV)} [IsPureL (kv.map (·.2))] : BRen fs (.mp kv) (.mp kv)
/-- The store with other numbers: σ' from σ. -/
inductive SRen (fs : List Nat) (σ : Sto) : Sto → List Nat → Prop
  | nil : SRen fs σ [] []
  | gone {σ' : Sto} {js : List Nat} {j : Nat} : SRen fs σ σ' js → SRen fs σ (none :: σ') (j :: js)
  | kept {σ' : Sto} {js : List Nat} {j : Nat} {b b' : Blk} : σ[j]? = some (some b) → BRen fs b' b → SRen fs σ σ' js → SRen fs σ (some b' :: σ') (j :: js)
theorem SRen.get {fs : List Nat} {σ σ' : Sto} {js : List Nat} (h : SRen fs σ σ' js) : σ'.length = js.length ∧ ∀ (i : Nat) b', σ'[i]? = some (some b') → ∃ j b, js[i]? = some j ∧ σ[j]? = some (some b) ∧ BRen fs b' b := by
  induction h with
  | nil => exact ⟨rfl, fun i b' h => by simp at h⟩
  | gone _ ih => exact ⟨by simp [ih.1], fun i b' h => by
      cases i with
      | zero => simp at h
      | succ i => simpa using ih.2 i b' (by simpa using h)⟩
  | @kept σ' js j b b' h1 h2 _ ih => exact ⟨by simp [ih.1], fun i b'' h => by
      cases i with
      | zero => simp at h; subst h; exact ⟨j, b, rfl, h1, h2⟩
      | succ i => simpa using ih.2 i b'' (by simpa using h)⟩
theorem RenL.rep {E : Env} {w : World} {fs : List Nat} {M : Nat → Prop} (hM : ∀ b, M b → E.M b) {xs ys : List PV} (h : RenL fs xs ys) {cs : List Value} (hs : RepL E w cs ys) : RepL (E.ren fs M) w cs xs :=
  ⟨hs.1.trans h.1, fun j c u h1 h2 => by
    have hj : j < ys.length := by rw [h.1]; exact (List.getElem?_eq_some_iff.1 h2).1
    exact (h.2 j u ys[j] h2 (by simp [hj])).rep hM c (hs.2 j c _ h1 (by simp [hj]))⟩
def nodupB : List Nat → Bool
  | [] => true
  | x :: l => !(l.contains x) && nodupB l
theorem nodupB_inj : ∀ {l : List Nat}, nodupB l = true → ∀ (i j : Nat) x, l[i]? = some x → l[j]? = some x → i = j
  | [], _, i, j, x, h1, _ => by simp at h1
  | y :: l, h, i, j, x, h1, h2 => by
    simp only [nodupB, Bool.and_eq_true, Bool.not_eq_true', List.contains_eq_mem, decide_eq_false_iff_not] at h
    cases i with
    | zero =>
      cases j with
      | zero => rfl
      | succ j => simp at h1 h2; subst h1; exact absurd (List.mem_of_getElem? h2) h.1
    | succ i =>
      cases j with
      | zero => simp at h1 h2; subst h2; exact absurd (List.mem_of_getElem? h1) h.1
      | succ j => rw [nodupB_inj h.2 i j x (by simpa using h1) (by simpa using h2)]
theorem Sat.ren {F : Nat → Prop} {base : Nat} {E : Env} {w : World} {σ σ' : Sto} {fs : List Nat} (hS : Sat F base σ E w) (h : SRen fs σ σ' fs) (hn : nodupB fs = true) :
    ∃ M, (∀ b, M b → E.M b) ∧ Sat F base σ' (E.ren fs M) w := by
  obtain ⟨hl, hg⟩ := h.get
  have hat : ∀ i j, fs[i]? = some j → fs.getD i 0 = j := fun i j hij => by simp [List.getD_eq_getElem?_getD, hij]
  refine ⟨fun b => F b ∨ ∃ i blk, σ'[i]? = some (some blk) ∧ blockOf (E.at_ (fs.getD i 0)) = some b, fun b hb => ?_, ?_⟩
  · rcases hb with hb | ⟨i, blk, h1, h2⟩
    · exact (hS.mm b).2 (.inl hb)
    · obtain ⟨j, b', h3, h4, _⟩ := hg i blk h1
      rw [hat i j h3] at h2
      exact (hS.mm b).2 (.inr ⟨j, b', h4, h2⟩)
  · have hM : ∀ b, (F b ∨ ∃ i blk, σ'[i]? = some (some blk) ∧ blockOf (E.at_ (fs.getD i 0)) = some b) → E.M b := fun b hb => by
      rcases hb with hb | ⟨i, blk, h1, h2⟩
      · exact (hS.mm b).2 (.inl hb)
      · obtain ⟨j, b', h3, h4, _⟩ := hg i blk h1
        rw [hat i j h3] at h2
        exact (hS.mm b).2 (.inr ⟨j, b', h4, h2⟩)
    refine ⟨hS.bl, fun b hb => ⟨(hS.fb b hb).1, fun i blk hi => ?_⟩, by simp [Env.ren, hl], fun b => Iff.rfl, fun i blk hi => ?_, fun i j bi bj b hi hj h1 h2 => ?_, hS.gl.sub hM⟩
    · obtain ⟨j, b', h3, h4, _⟩ := hg i blk hi
      simp only [Env.ren, hat i j h3]
      exact (hS.fb b hb).2 j b' h4
    · obtain ⟨j, b', h3, h4, h5⟩ := hg i blk hi
      have hB := hS.blk j b' h4
      simp only [Env.ren, hat i j h3]
      cases h5 with
      | cells hr =>
        obtain ⟨b, cs, k1, k2, k3, k4⟩ := hB
        exact ⟨b, cs, k1, k2, k3, hr.rep hM k4⟩
      | row hr =>
        obtain ⟨cs, k1, k2⟩ := hB
        exact ⟨cs, k1, hr.rep hM k2⟩
      | rowP hn' hx =>
        subst hn'
        subst hx
        obtain ⟨cs, k1, k2⟩ := hB
        exact ⟨cs, k1, (RenL.pure (fs := fs)).rep hM k2⟩
      | mp =>
        obtain ⟨r, es, ck, k1, k2, k3, k4, k5⟩ := hB
        exact ⟨r, es, ck, k1, k2, k3, k4, (RenL.pure (fs := fs)).rep hM k5⟩
    · obtain ⟨i', bi', h3, h4, _⟩ := hg i bi hi
      obtain ⟨j', bj', h5, h6, _⟩ := hg j bj hj
      simp only [Env.ren, hat i i' h3] at h1
      simp only [Env.ren, hat j j' h5] at h2
      have := hS.inj i' j' bi' bj' b h4 h6 h1 h2
      subst this
      exact nodupB_inj hn i j i' h3 h5
/-- Temporaries with other numbers. -/
inductive TRen (fs : List Nat) (t : Tms) : Tms → Prop
  | nil : TRen fs t []
  | cons {t' : Tms} {p p' : PV} (k : Nat) : look k t = some p → Ren fs p' p → TRen fs t t' → TRen fs t ((k, p') :: t')
theorem TRen.get {fs : List Nat} {t t' : Tms} (h : TRen fs t t') : ∀ k p', look k t' = some p' → ∃ p, look k t = some p ∧ Ren fs p' p := by
  induction h with
  | nil => intro k p' h; cases h
  | @cons t' p p' k h1 h2 _ ih =>
    intro j q hj
    simp only [look] at hj
    rw [Bool.cond_eq_ite] at hj
    split at hj
    · rename_i he
      have := Nat.eq_of_beq_eq_true he
      subst this
      cases hj
      exact ⟨p, h1, h2⟩
    · exact ih j q hj
def idB (fs : List Nat) : Nat → Bool
  | 0 => true
  | k + 1 => (match fs[k]? with | some j => Nat.beq j k | none => false) && idB fs k
theorem idB_spec {fs : List Nat} : ∀ {k : Nat}, idB fs k = true → ∀ i, i < k → fs[i]? = some i
  | 0, _, i, hi => by omega
  | k + 1, h, i, hi => by
    simp only [idB, Bool.and_eq_true] at h
    by_cases e : i = k
    · subst e
      obtain ⟨h1, _⟩ := h
      split at h1
      · rename_i j hj; rw [hj, Nat.eq_of_beq_eq_true h1]
      · cases h1
    · exact idB_spec h.2 i (by omega)
theorem ren_sat {F : Nat → Prop} {base : Nat} {E₀ E : Env} {w₀ w : World} {a : Act} {t t' : Tms} {σ σ' : Sto} (fs : List Nat) (hT : TRen fs t t') (hS : SRen fs σ σ' fs) (hn : nodupB fs = true) (hi : idB fs L = true) (hc : Came base L E₀ w₀ E w) (hs : SatSt F base N ⟨t, σ⟩ E a w) :
    ∃ E', Came base L E₀ w₀ E' w ∧ SatSt F base N ⟨t', σ'⟩ E' a w := by
  obtain ⟨M, hM, hS'⟩ := hs.sat.ren hS hn
  refine ⟨_, ⟨hc.L, ⟨?_, fun i hi' => ?_, fun b hb h h' => hc.g.M b hb h (hM b h'), hc.g.size, hc.g.heap⟩, hc.b⟩, hS', fun k p hk => ?_, hs.dfr, hs.size⟩
  · rw [hc.L]
    have : L ≤ fs.length := by
      rcases Nat.eq_zero_or_pos L with h | h
      · omega
      · have := idB_spec hi (L - 1) (by omega)
        have := (List.getElem?_eq_some_iff.1 this).1
        omega
    exact this
  · have := idB_spec hi i (by rw [← hc.L]; exact hi')
    have h2 : fs.getD i 0 = i := by simp [List.getD_eq_getElem?_getD, this]
    simp only [Env.ren, h2]
    exact hc.g.at_ i hi'
  · obtain ⟨q, h1, h2⟩ := hT.get k p hk
    exact h2.rep hM _ (hs.tmp k q h1)
theorem W_ren {c : Code} {t t' : Tms} {σ σ' : Sto} {Q : Exit → St → Prop} (fs : List Nat) (hT : TRen fs t t') (hS : SRen fs σ σ' fs) (hn : nodupB fs = true) (hi : idB fs L = true) (h : W P N L c ⟨t', σ'⟩ Q) : W P N L c ⟨t, σ⟩ Q := fun F base E₀ w₀ E a w hc hs => by
  obtain ⟨E', h1, h2⟩ := ren_sat fs hT hS hn hi hc hs
  exact h F base E₀ w₀ E' a w h1 h2
theorem WR_ren {l : List Oper} {t t' : Tms} {σ σ' : Sto} {K : St → Prop} (fs : List Nat) (hT : TRen fs t t') (hS : SRen fs σ σ' fs) (hn : nodupB fs = true) (hi : idB fs L = true) (h : WR P N L ops l ⟨t', σ'⟩ K) : WR P N L ops l ⟨t, σ⟩ K := fun F base E₀ w₀ E a w hc hs => by
  obtain ⟨E', h1, h2⟩ := ren_sat fs hT hS hn hi hc hs
  exact h F base E₀ w₀ E' a w h1 h2
end
end PW
end Go.Proofs.YtbpgndbjbaoolaaGreat

/- Pure walks, fifth part: the call's own store, regions that draw their order, calls. No program in sight. -/
namespace Go.Proofs.YtbpgndbjbaoolaaGreat
set_option linter.unusedVariables false
set_option linter.unusedSimpArgs false
namespace PW
open Go.RowKit Reg Mem

/-- One block more. -/
def Env.push (E : Env) (v : Value) : Env := ⟨E.L + 1, fun i => if i = E.L then v else E.at_ i, fun b => E.M b ∨ blockOf v = some b⟩
/-- One block less. -/
def Env.kill (E : Env) (i : Nat) : Env := ⟨E.L, E.at_, fun b => E.M b ∧ blockOf (E.at_ i) ≠ some b⟩
section
variable {F : Nat → Prop} {base : Nat} {σ : Sto} {E : Env} {w w' : World}

theorem push_goes (hw : ∀ b, b < w.heap.size → ¬ E.M b → w'.heap[b]? = w.heap[b]?) (hs : w.heap.size ≤ w'.heap.size) {v : Value} (hv : ∀ b, blockOf v = some b → w.heap.size ≤ b ∨ E.M b) : Goes E w (E.push v) w' :=
  ⟨Nat.le_succ _, fun i hi => by simp [Env.push, Nat.ne_of_lt hi], fun b hb hM h => by
    rcases h with h | h
    · exact hM h
    · rcases hv b h with h' | h'
      · omega
      · exact hM h', hs, hw⟩
theorem Sat.push (hS : Sat F base σ E w) (hE : Ext w w') {v : Value} {blk : Blk} (hv : ∀ b, blockOf v = some b → w.heap.size ≤ b) (hb : BlkSat base (E.push v) w' v blk) : Sat F base (σ ++ [some blk]) (E.push v) w' ∧ Goes E w (E.push v) w' := by
  have g : Goes E w (E.push v) w' := push_goes (fun b h _ => hE.block b h) hE.size (fun b h => .inl (hv b h))
  have hat : ∀ i, i < σ.length → (E.push v).at_ i = E.at_ i := fun i hi => g.at_ i (by rw [hS.len]; exact hi)
  have hnew : (E.push v).at_ σ.length = v := by simp [Env.push, hS.len]
  have split : ∀ i (b : Blk), (σ ++ [some blk])[i]? = some (some b) → (i < σ.length ∧ σ[i]? = some (some b)) ∨ (i = σ.length ∧ b = blk) := fun i b h => by
    by_cases hi : i < σ.length
    · rw [List.getElem?_append_left hi] at h; exact .inl ⟨hi, h⟩
    · rw [List.getElem?_append_right (by omega)] at h
      have : i - σ.length = 0 := by
        rcases Nat.eq_zero_or_pos (i - σ.length) with h' | h'
        · exact h'
        · rw [List.getElem?_eq_none (by simp; omega)] at h; cases h
      rw [this] at h
      simp at h
      exact .inr ⟨by omega, h.symm⟩
  refine ⟨⟨Nat.le_trans hS.bl hE.size, fun b hb' => ⟨Nat.lt_of_lt_of_le (hS.fb b hb').1 hE.size, fun i bl hi => ?_⟩, by simp [Env.push, hS.len], fun b => ?_, fun i bl hi => ?_, fun i j bi bj b hi hj hbi hbj => ?_, hS.gl.goes g⟩, g⟩
  · rcases split i bl hi with ⟨h1, h2⟩ | ⟨rfl, _⟩
    · rw [hat i h1]; exact (hS.fb b hb').2 i bl h2
    · rw [hnew]; intro h; have := hv b h; have := (hS.fb b hb').1; omega
  · constructor
    · rintro (h | h)
      · rcases (hS.mm b).1 h with h | ⟨i, bl, h1, h2⟩
        · exact .inl h
        · have hi : i < σ.length := (List.getElem?_eq_some_iff.1 h1).1
          exact .inr ⟨i, bl, by rw [List.getElem?_append_left hi]; exact h1, by rw [hat i hi]; exact h2⟩
      · exact .inr ⟨σ.length, blk, by simp, by rw [hnew]; exact h⟩
    · rintro (h | ⟨i, bl, h1, h2⟩)
      · exact .inl ((hS.mm b).2 (.inl h))
      · rcases split i bl h1 with ⟨h3, h4⟩ | ⟨rfl, _⟩
        · rw [hat i h3] at h2; exact .inl ((hS.mm b).2 (.inr ⟨i, bl, h4, h2⟩))
        · rw [hnew] at h2; exact .inr h2
  · rcases split i bl hi with ⟨h1, h2⟩ | ⟨rfl, rfl⟩
    · rw [hat i h1]
      exact (hS.blk i bl h2).goes g (fun b hb => hE.block b ((hS.blk i bl h2).lt hb).2)
    · rw [hnew]; exact hb
  · rcases split i bi hi with ⟨h1, h2⟩ | ⟨rfl, rfl⟩ <;> rcases split j bj hj with ⟨h3, h4⟩ | ⟨rfl, rfl⟩
    · rw [hat i h1] at hbi; rw [hat j h3] at hbj; exact hS.inj i j bi bj b h2 h4 hbi hbj
    · rw [hat i h1] at hbi; rw [hnew] at hbj
      have := ((hS.blk i bi h2).lt hbi).2; have := hv b hbj; omega
    · rw [hnew] at hbi; rw [hat j h3] at hbj
      have := ((hS.blk j bj h4).lt hbj).2; have := hv b hbi; omega
    · rfl
theorem set_none {i j : Nat} {bl : Blk} (h : (σ.set i none)[j]? = some (some bl)) : j ≠ i ∧ σ[j]? = some (some bl) := by
  rw [List.getElem?_set] at h
  split at h
  · rename_i he; subst he; split at h <;> simp at h
  · rename_i he; exact ⟨Ne.symm he, h⟩
theorem Sat.kill (hS : Sat F base σ E w) (i : Nat) {bi : Blk} (hi : σ[i]? = some (some bi)) : Sat F base (σ.set i none) (E.kill i) w ∧ Goes E w (E.kill i) w := by
  have g : Goes E w (E.kill i) w := ⟨Nat.le_refl _, fun _ _ => rfl, fun b _ hM h => hM h.1, Nat.le_refl _, fun _ _ _ => rfl⟩
  refine ⟨⟨hS.bl, fun b hb => ⟨(hS.fb b hb).1, fun j bl hj => (hS.fb b hb).2 j bl (set_none hj).2⟩, by simp [Env.kill, hS.len], fun b => ?_, fun j bl hj => ?_, fun j k bj bk b hj hk h1 h2 => hS.inj j k bj bk b (set_none hj).2 (set_none hk).2 h1 h2, hS.gl.goes g⟩, g⟩
  · constructor
    · rintro ⟨h1, h2⟩
      rcases (hS.mm b).1 h1 with h | ⟨j, bl, h3, h4⟩
      · exact .inl h
      · refine .inr ⟨j, bl, ?_, h4⟩
        have hne : i ≠ j := fun e => by rw [← e] at h4; exact h2 h4
        rw [List.getElem?_set, if_neg hne]; exact h3
    · rintro (h | ⟨j, bl, h1, h2⟩)
      · exact ⟨(hS.mm b).2 (.inl h), (hS.fb b h).2 i bi hi⟩
      · obtain ⟨hne, h3⟩ := set_none h1
        refine ⟨(hS.mm b).2 (.inr ⟨j, bl, h3, h2⟩), fun h4 => hne (hS.inj j i bl bi b h3 hi h2 h4)⟩
  · exact (hS.blk j bl (set_none hj).2).goes g (fun _ _ => rfl)
/-- One block is turned; the others stay. -/
theorem Sat.turn (hS : Sat F base σ E w) {i b : Nat} {bi bi' : Blk} (hi : σ[i]? = some (some bi)) (hb : blockOf (E.at_ i) = some b) (hs : w.heap.size ≤ w'.heap.size) (ho : ∀ k, k < w.heap.size → k ≠ b → w'.heap[k]? = w.heap[k]?) (hn : BlkSat base E w' (E.at_ i) bi') :
    Sat F base (σ.set i (some bi')) E w' ∧ Goes E w E w' := by
  have hbM : E.M b := (hS.mm b).2 (.inr ⟨i, bi, hi, hb⟩)
  have hil : i < σ.length := (List.getElem?_eq_some_iff.1 hi).1
  have g : Goes E w E w' := ⟨Nat.le_refl _, fun _ _ => rfl, fun _ _ h => h, hs, fun k hk hM => ho k hk (fun e => hM (by rw [e]; exact hbM))⟩
  have split : ∀ j (bl : Blk), (σ.set i (some bi'))[j]? = some (some bl) → (j ≠ i ∧ σ[j]? = some (some bl)) ∨ (j = i ∧ bl = bi') := fun j bl h => by
    rw [List.getElem?_set] at h
    split at h
    · rename_i he; subst he; simp at h; exact .inr ⟨rfl, h.symm⟩
    · rename_i he; exact .inl ⟨Ne.symm he, h⟩
  have back : ∀ j (bl : Blk), σ[j]? = some (some bl) → ∃ bl', (σ.set i (some bi'))[j]? = some (some bl') := fun j bl h => by
    by_cases he : i = j
    · subst he; exact ⟨bi', by rw [List.getElem?_set, if_pos rfl, if_pos hil]⟩
    · exact ⟨bl, by rw [List.getElem?_set, if_neg he]; exact h⟩
  have fwd : ∀ j (bl : Blk), (σ.set i (some bi'))[j]? = some (some bl) → ∃ bl', σ[j]? = some (some bl') := fun j bl h => by
    rcases split j bl h with ⟨_, h2⟩ | ⟨rfl, _⟩
    · exact ⟨bl, h2⟩
    · exact ⟨bi, hi⟩
  refine ⟨⟨Nat.le_trans hS.bl hs, fun k hk => ⟨Nat.lt_of_lt_of_le (hS.fb k hk).1 hs, fun j bl hj => ?_⟩, by simp [hS.len], fun k => ?_, fun j bl hj => ?_, fun j k bj bk c hj hk h1 h2 => ?_, hS.gl.goes g⟩, g⟩
  · obtain ⟨bl', h'⟩ := fwd j bl hj
    exact (hS.fb k hk).2 j bl' h'
  · rw [hS.mm k]
    constructor
    · rintro (h | ⟨j, bl, h1, h2⟩)
      · exact .inl h
      · obtain ⟨bl', h'⟩ := back j bl h1
        exact .inr ⟨j, bl', h', h2⟩
    · rintro (h | ⟨j, bl, h1, h2⟩)
      · exact .inl h
      · obtain ⟨bl', h'⟩ := fwd j bl h1
        exact .inr ⟨j, bl', h', h2⟩
  · rcases split j bl hj with ⟨h1, h2⟩ | ⟨rfl, rfl⟩
    · exact (hS.blk j bl h2).goes g (fun k hk => ho k ((hS.blk j bl h2).lt hk).2 (fun e => h1 (hS.inj j i bl bi b h2 hi (by rw [← e]; exact hk) hb)))
    · exact hn
  · obtain ⟨bj', hj'⟩ := fwd j bj hj
    obtain ⟨bk', hk'⟩ := fwd k bk hk
    exact hS.inj j k bj' bk' c hj' hk' h1 h2
end

section
variable {P : Program} {σ : Sto} {t : Tms} {o : Oper}

theorem tyK_size {ty : TypeId} {k : Option Nat} (h : tyK P ty = some k) (w : World) : (sizeOf ty).run P w = .ok (k.getD 1) w := by
  unfold tyK at h
  split at h
  · rename_i d i hu hi
    have hr : (sizeOf ty).run P w = .ok i.size w := by simp [sizeOf, typeInfo, hi]
    rw [hr]
    split at h
    · cases h; rfl
    · cases h; rfl
    · split at h
      · rename_i h1; cases h; simp [h1]
      · cases h
  · cases h
def Blk.setXs : Blk → List PV → Blk
  | .cells t _, xs => .cells t xs
  | .row e s n _, xs => .row e s n xs
  | .mp kv, _ => .mp kv
theorem over_repL {E : Env} {w : World} {cs vs : List Value} {xs ys : List PV} (h : RepL E w cs xs) (k : RepL E w vs ys) (off : Nat) : RepL E w (cs.take off ++ vs ++ cs.drop (off + vs.length)) (over xs off ys) := by
  unfold over
  rw [List.append_assoc, ← k.1]
  exact (h.take off).append (k.append (h.drop _))
theorem store_core {ty : TypeId} {k : Option Nat} {x y : Operand} {i off : Nat} {blk : Blk} {ys : List PV} {F : Nat → Prop} {base : Nat} {E : Env} {ρ : Operand → Value} {w : World} (ho : o.op = .store ty x y) (hk : tyK P ty = some k) (hx : evalO t x = some (.ptr i off)) (h2 : RepL E w (ρ y).cells.toList ys) (hl : ys.length = k.getD 1)
    (hi : σ[i]? = some (some blk)) (hoff : off + ys.length ≤ blk.xs.length) [IsOneL ys] (hρ : IsEval ρ) (hS : Sat F base σ E w) (hT : RepT E w ρ t) :
    ∃ v w' E', ((execOp ρ o).run P w = .ok (.value v) w' ∨ (v = undef ∧ (execOp ρ o).run P w = .ok .skip w')) ∧ Sat F base (σ.set i (some (blk.setXs (over blk.xs off ys)))) E' w' ∧ Goes E w E' w' ∧ Below base w w' ∧ Rep E' w' v (.raw undef) := by
  have h1 := evalO_rep hρ hT hx
  generalize hz : ρ x = z at h1
  cases h1 with
  | ptr _ _ b hiL hat =>
    have hbk : blockOf (E.at_ i) = some b := by rcases hat with hat | ⟨n, c, hat⟩ <;> rw [hat] <;> rfl
    have hbM : E.M b := (hS.mm b).2 (.inr ⟨i, blk, hi, hbk⟩)
    have hB := hS.blk i blk hi
    have hbase := hB.lt hbk
    have hone := h2.oneCell
    have hsz : (ρ y).cells.size = k.getD 1 := by rw [← Array.length_toList, h2.1, hl]
    have go : ∀ (cur : Array Value) (e : TypeId), w.heap[b]? = some (.cells cur e (0, 0)) → off + ys.length ≤ cur.size →
        (execOp ρ o).run P w = .ok .skip (w.setRow b (cur.toList.take off ++ (ρ y).cells.toList ++ cur.toList.drop (off + (ρ y).cells.toList.length)).toArray) := fun cur e hcur hle => by
      have hst := run_storeCells_at P b off e (ρ y).cells.toList 0 cur w hcur (by rw [Nat.add_zero, h2.1]; exact hle) hone
      simp only [Nat.add_zero] at hst
      have hrun : (Instr.storeAt ty (.pointer (some ⟨b, off, none⟩)) (ρ y)).run P w = .ok () (w.setRow b (cur.toList.take off ++ (ρ y).cells.toList ++ cur.toList.drop (off + (ρ y).cells.toList.length)).toArray) := by
        simp only [Instr.storeAt, Instr.sureAddr, storeVar, Sem.run_bind, Sem.run_pure, Result.andThen_ok, tyK_size hk, hsz, ne_eq, not_true_eq_false, if_false]
        exact hst
      simp only [execOp, ho, hz, Sem.run_bind, hrun, Result.andThen_ok, Sem.run_pure]
    have oth : ∀ (cs : Array Value) j, j < w.heap.size → j ≠ b → (w.setRow b cs).heap[j]? = w.heap[j]? := fun cs j _ hj => setRow_other w b j cs hj
    have hsize : ∀ cs : Array Value, w.heap.size ≤ (w.setRow b cs).heap.size := fun cs => by simp
    have hbelow : ∀ cs : Array Value, Below base w (w.setRow b cs) := fun cs => ⟨rfl, rfl, rfl, hsize cs, fun j hj => setRow_other w b j cs (by omega)⟩
    cases blk with
    | cells ty' xs =>
      obtain ⟨b', cs, he, k1, k2, k3⟩ := hB
      have : b = b' := by rw [he] at hbk; simp [blockOf] at hbk; exact hbk.symm
      subst this
      have hlen : cs.size = xs.length := by have := k3.1; rw [Array.length_toList] at this; exact this
      have hrun := go cs ty' k2 (by rw [hlen]; exact hoff)
      have hn := hS.turn (w' := w.setRow b (cs.toList.take off ++ (ρ y).cells.toList ++ cs.toList.drop (off + (ρ y).cells.toList.length)).toArray) (bi' := .cells ty' (over xs off ys)) hi hbk (hsize _) (oth _) ⟨b, _, he, k1, setRow_heap w b cs _ ty' _ k2, by
        have := over_repL k3 h2 off
        have g : Goes E w E (w.setRow b (cs.toList.take off ++ (ρ y).cells.toList ++ cs.toList.drop (off + (ρ y).cells.toList.length)).toArray) := ⟨Nat.le_refl _, fun _ _ => rfl, fun _ _ h => h, hsize _, fun j hj hM => oth _ j hj (fun e => hM (by rw [e]; exact hbM))⟩
        exact this.goes g⟩
      exact ⟨undef, _, E, .inr ⟨rfl, hrun⟩, hn.1, hn.2, hbelow _, .raw _⟩
    | row e s n xs =>
      obtain ⟨cs, k1, k2⟩ := hB
      obtain ⟨hcl, k1'⟩ := k1
      rcases k1' with ⟨hv, _⟩ | ⟨g, cap, cur, hv, hb0, hg, hnc, hcm, hcs, htake⟩
      · rw [hv] at hbk; cases hbk
      · have : b = g := by rw [hv] at hbk; simp [blockOf] at hbk; exact hbk.symm
        subst this
        have hle : n * s ≤ cur.size := by rw [hcs]; exact Nat.mul_le_mul_right _ hnc
        have hxl : xs.length = n * s := by rw [← k2.1, hcl]
        have hoff' : off + ys.length ≤ n * s := by rw [← hxl]; exact hoff
        have hrun := go cur e hg (by omega)
        have hlenv : (ρ y).cells.toList.length = ys.length := h2.1
        have htk : (cur.toList.take off ++ (ρ y).cells.toList ++ cur.toList.drop (off + (ρ y).cells.toList.length)).take (n * s) = cs.take off ++ (ρ y).cells.toList ++ cs.drop (off + (ρ y).cells.toList.length) := by
          rw [← htake, List.append_assoc, List.take_append, List.take_append, List.take_take, List.length_take, Array.length_toList]
          rw [List.append_assoc, List.take_take, List.drop_take]
          congr 1
          · congr 1; omega
          · congr 1
            · rw [List.take_of_length_le (by rw [hlenv]; omega)]
            · congr 1; rw [hlenv]; omega
        have hn := hS.turn (w' := w.setRow b (cur.toList.take off ++ (ρ y).cells.toList ++ cur.toList.drop (off + (ρ y).cells.toList.length)).toArray) (bi' := .row e s n (over xs off ys)) hi hbk (hsize _) (oth _) ⟨cs.take off ++ (ρ y).cells.toList ++ cs.drop (off + (ρ y).cells.toList.length), ⟨by
            simp only [List.length_append, List.length_take, List.length_drop, hlenv, hcl]; omega, .inr ⟨b, cap, _, hv, hb0, setRow_heap w b cur _ e _ hg, hnc, hcm, by
            simp only [List.size_toArray, List.length_append, List.length_take, List.length_drop, Array.length_toList, hlenv]; omega, htk⟩⟩, by
          have := over_repL k2 h2 off
          have g : Goes E w E (w.setRow b (cur.toList.take off ++ (ρ y).cells.toList ++ cur.toList.drop (off + (ρ y).cells.toList.length)).toArray) := ⟨Nat.le_refl _, fun _ _ => rfl, fun _ _ h => h, hsize _, fun j hj hM => oth _ j hj (fun e => hM (by rw [e]; exact hbM))⟩
          exact this.goes g⟩
        exact ⟨undef, _, E, .inr ⟨rfl, hrun⟩, hn.1, hn.2, hbelow _, .raw _⟩
    | mp kv =>
      obtain ⟨r, es, ck, he, _⟩ := hB
      rcases hat with hat | ⟨n, c, hat⟩ <;> (rw [hat] at he; cases he)

/-- A store. -/
theorem l_store {ty : TypeId} {k : Option Nat} {x y : Operand} {i off : Nat} {p : PV} {blk : Blk} {ys : List PV} (ho : o.op = .store ty x y) (hk : tyK P ty = some k) (hx : evalO t x = some (.ptr i off)) (hy : evalO t y = some p) (hc : cellsP p = some ys) (hl : ys.length = k.getD 1)
    (hi : σ[i]? = some (some blk)) (hoff : off + ys.length ≤ blk.xs.length) [IsOneL ys] : Loud P σ t o (.raw undef) (σ.set i (some (blk.setXs (over blk.xs off ys)))) := by
  intro F base E ρ w hρ hS hT
  exact store_core ho hk hx (cellsP_rep (evalO_rep hρ hT hy) hc) hl hi hoff hρ hS hT
/-- A store of one cell. -/
theorem l_store1 {ty : TypeId} {x y : Operand} {i off : Nat} {p : PV} {blk : Blk} (ho : o.op = .store ty x y) (hk : tyK P ty = some none) (hx : evalO t x = some (.ptr i off)) (hy : evalO t y = some p) (hi : σ[i]? = some (some blk)) (hoff : off < blk.xs.length) [hone : IsOne p] : Loud P σ t o (.raw undef) (σ.set i (some (blk.setXs (over blk.xs off [p])))) := by
  intro F base E ρ w hρ hS hT
  have hv := evalO_rep hρ hT hy
  have h1 := hone.out E w _ hv
  have hcells : (ρ y).cells = #[ρ y] := by
    generalize ρ y = v at h1
    cases v <;> first | rfl | cases h1
  have h2 : RepL E w (ρ y).cells.toList [p] := by rw [hcells]; exact RepL.cons hv (RepL.nil E w)
  exact store_core ho hk hx (ys := [p]) h2 rfl hi (by simp; omega) hρ hS hT
theorem alloc_cells {F : Nat → Prop} {base : Nat} {E : Env} {w : World} (hS : Sat F base σ E w) (ty : TypeId) (cs : Array Value) {xs : List PV} (h : RepL E w cs.toList xs) :
    Sat F base (σ ++ [some (.cells ty xs)]) (E.push (.pointer (some ⟨w.heap.size, 0, none⟩))) (w.alloc (.cells cs ty)) ∧ Goes E w (E.push (.pointer (some ⟨w.heap.size, 0, none⟩))) (w.alloc (.cells cs ty)) ∧ Below base w (w.alloc (.cells cs ty)) ∧
    Rep (E.push (.pointer (some ⟨w.heap.size, 0, none⟩))) (w.alloc (.cells cs ty)) (.pointer (some ⟨w.heap.size, 0, none⟩)) (.ptr σ.length 0) := by
  have hE : Ext w (w.alloc (.cells cs ty)) := (Ext.refl w).alloc _
  have g := push_goes (E := E) (w := w) (w' := w.alloc (.cells cs ty)) (fun b h _ => hE.block b h) hE.size (v := .pointer (some ⟨w.heap.size, 0, none⟩)) (fun b h => by simp [blockOf] at h; exact .inl (by omega))
  have hp := hS.push hE (v := .pointer (some ⟨w.heap.size, 0, none⟩)) (blk := .cells ty xs) (fun b h => by simp [blockOf] at h; omega) ⟨w.heap.size, cs, rfl, hS.bl, heap_alloc_new w _, h.goes g⟩
  refine ⟨hp.1, hp.2, Below.ofExt hE hS.bl, .ptr σ.length 0 w.heap.size (by simp [Env.push, hS.len]) (.inl ?_)⟩
  simp [Env.push, hS.len]
theorem l_box {ty : TypeId} {x : Operand} {p : PV} {xs : List PV} (ho : o.op = .box ty x) (hx : evalO t x = some p) (hc : cellsP p = some xs) : Loud P σ t o (.ptr σ.length 0) (σ ++ [some (.cells ty xs)]) := by
  intro F base E ρ w hρ hS hT
  have h := cellsP_rep (evalO_rep hρ hT hx) hc
  have hr : (execOp ρ o).run P w = .ok (.value (.pointer (some ⟨w.heap.size, 0, none⟩))) (w.alloc (.cells (ρ x).cells ty)) := by
    simp [execOp, ho, Instr.box, newVar, newRow]
  obtain ⟨a1, a2, a3, a4⟩ := alloc_cells hS ty _ h
  exact ⟨_, _, _, .inl hr, a1, a2, a3, a4⟩
def zeroK (P : Program) (ty : TypeId) : Option (List Value) :=
  match P.info? ty with
  | some i => match i.zero with
    | some z => some z.cells.toList
    | none => none
  | none => none
theorem raws_rep {E : Env} {w : World} (cs : List Value) : RepL E w cs (cs.map .raw) := ⟨by simp, fun i x u k1 k2 => by
  simp only [List.getElem?_map, Option.map_eq_some_iff] at k2
  obtain ⟨y, hy, rfl⟩ := k2
  rw [hy] at k1; cases k1
  exact .raw _⟩
theorem l_alloc {ty : TypeId} {z : List Value} (ho : o.op = .alloc ty) (hz : zeroK P ty = some z) : Loud P σ t o (.ptr σ.length 0) (σ ++ [some (.cells ty (z.map .raw))]) := by
  intro F base E ρ w hρ hS hT
  unfold zeroK at hz
  split at hz
  · rename_i i hi
    split at hz
    · rename_i z' hz'
      cases hz
      have hr : (execOp ρ o).run P w = .ok (.value (.pointer (some ⟨w.heap.size, 0, none⟩))) (w.alloc (.cells z'.cells ty)) := by
        simp [execOp, ho, Instr.alloc, zeroValue, typeInfo, hi, hz', newVar, newRow]
      obtain ⟨a1, a2, a3, a4⟩ := alloc_cells hS ty z'.cells (raws_rep (E := E) (w := w) z'.cells.toList)
      exact ⟨_, _, _, .inl hr, a1, a2, a3, a4⟩
    · cases hz
  · cases hz
/-- A row that the call owns is laid. -/
theorem lay_row {F : Nat → Prop} {base : Nat} {E : Env} {w w' : World} (hS : Sat F base σ E w) (hE : Ext w w') {e s n : Nat} {v : Value} {cs : List Value} {xs : List PV} (hv : ∀ b, blockOf v = some b → w.heap.size ≤ b) (ho : w'.ownsRow base e s v n cs) (hR : RepL E w cs xs) :
    Sat F base (σ ++ [some (.row e s n xs)]) (E.push v) w' ∧ Goes E w (E.push v) w' ∧ Below base w w' ∧ Rep (E.push v) w' v (.own σ.length) := by
  have g := push_goes (E := E) (w := w) (w' := w') (fun b h _ => hE.block b h) hE.size (v := v) (fun b h => .inl (hv b h))
  have hp := hS.push hE (v := v) (blk := .row e s n xs) hv ⟨cs, ho, hR.goes g⟩
  refine ⟨hp.1, hp.2, Below.ofExt hE hS.bl, .own σ.length (by simp [Env.push, hS.len]) v (by simp [Env.push, hS.len]) ?_⟩
  rcases ho.2 with ⟨rfl, _⟩ | ⟨g', cap, cur, rfl, _⟩ <;> rfl
/-- Slice types with what append and make ask for. -/
def rowK (P : Program) (ty : TypeId) : Option (TypeId × Nat × Nat × List Value) :=
  match P.underlying ty with
  | some (.slice e) => match P.info? e with
    | some i => match i.zero with
      | some z => if z.cells.size = i.size ∧ 0 < i.size then some (e, i.size, i.bytes, z.cells.toList) else none
      | none => none
    | none => none
  | _ => none
theorem rowK_spec {ty e s by' : Nat} {z : List Value} (h : rowK P ty = some (e, s, by', z)) : P.underlying ty = some (.slice e) ∧ ∃ i z', P.info? e = some i ∧ i.size = s ∧ i.bytes = by' ∧ i.zero = some z' ∧ z'.cells.toList = z ∧ z'.cells.size = s ∧ 0 < s := by
  unfold rowK at h
  split at h
  · rename_i e' hu
    split at h
    · rename_i i hi
      split at h
      · rename_i z' hz
        split at h
        · rename_i hc; cases h; exact ⟨hu, i, z', hi, rfl, rfl, hz, rfl, hc.1, hc.2⟩
        · cases h
      · cases h
    · cases h
  · cases h
theorem l_make {ty e s by' : Nat} {z : List Value} {l c : Operand} {n : Nat} {li ci : Int} {k k' : IntKind} (ho : o.op = .makeSlice ty l c) (hk : rowK P ty = some (e, s, by', z)) (hl : evalO t l = some (.raw (.int k li))) (hc : evalO t c = some (.raw (.int k' ci))) (hli : li = (n : Int)) (hci : ci = (n : Int)) (hn : n ≤ maxLen ∧ by' * n ≤ 281474976710656) :
    Loud P σ t o (.own σ.length) (σ ++ [some (.row e s n (zeros (z.map .raw) n))]) := by
  intro F base E ρ w hρ hS hT
  have h1 := evalO_rep hρ hT hl
  have h2 := evalO_rep hρ hT hc
  generalize hz1 : ρ l = v1 at h1
  generalize hz2 : ρ c = v2 at h2
  cases h1; cases h2
  subst hli; subst hci
  obtain ⟨hu, i, z', hi, hs, hby, hz, hzz, hzs, hpos⟩ := rowK_spec hk
  obtain ⟨w', hrun, hown, hg⟩ := run_make_full (P := P) w base ty e i z' s hu hi hz hs k k' n (by rw [hby]; exact hn.2) hn.1 hS.bl
  have hr : (execOp ρ o).run P w = .ok (.value (.slice (some ⟨w.heap.size, 0, none⟩) n n)) w' := by
    simp only [execOp, ho, hz1, hz2, Sem.run_bind, hrun, Result.andThen_ok, Sem.run_pure]
  have hR : RepL E w (madeCells z'.cells (n * s)).toList (zeros (z.map .raw) n) := by
    rw [← hzz]; exact zeros_rep z'.cells n (n * s) (by rw [hzs])
  obtain ⟨a1, a2, a3, a4⟩ := lay_row hS (ext_of_grown hg) (fun b h => by simp [blockOf] at h; omega) hown hR
  exact ⟨_, _, _, .inl hr, a1, a2, a3, a4⟩
theorem over_len (xs : List PV) (off : Nat) (ys : List PV) (h : off + ys.length ≤ xs.length) : (over xs off ys).length = xs.length := by
  simp [over]; omega
theorem fillP_len {place : Nat → Option (Nat × Nat)} : ∀ {ps : List (Nat × List PV)} {xs ys : List PV}, fillP place xs ps = some ys → ys.length = xs.length
  | [], xs, ys, h => by simp only [fillP, Option.some.injEq] at h; rw [h]
  | (i, q) :: ps, xs, ys, h => by
    simp only [fillP] at h
    split at h
    · cases h
    · rename_i off size hpl
      rw [Bool.cond_eq_ite] at h
      split at h
      · rename_i hc
        simp only [Bool.and_eq_true, Nat.beq_eq, Nat.ble_eq] at hc
        rw [fillP_len h, over_len _ _ _ (by omega)]
      · cases h
theorem l_buildSlice {ty e s n : Nat} {parts : Array (Nat × Operand)} {z : List Value} {ps : List (Nat × List PV)} {xs : List PV} (ho : o.op = .buildSlice ty n parts) (hk : slK P ty = some (e, s, z)) (hn : 0 < n ∧ n * s ≤ 16777216) (hp : evalP t parts.toList = some ps)
    (hf : fillP (fun i => some (i * s, s)) (zeros (z.map .raw) n) ps = some xs) : Loud P σ t o (.own σ.length) (σ ++ [some (.row e s n xs)]) := by
  intro F base E ρ w hρ hS hT
  obtain ⟨h1, h2⟩ := evalP_rep hρ hT parts.toList ps hp
  obtain ⟨hu, i, z', hi, hs, hz, hzz, hzl, hpos⟩ := slK_spec hk
  have hzs : z'.cells.size = s := by rw [← hzl, ← hzz]; simp
  have hR0 : RepL E w ((Array.range (n * s)).map (z'.cells[· % z'.cells.size]!)).toList (zeros (z.map .raw) n) := by
    rw [← hzz]; exact zeros_rep z'.cells n (n * s) (by rw [hzs])
  obtain ⟨cs, hc, hR⟩ := fill_rep (fun i => some (i * s, s)) _ ps _ _ xs hR0 h1 h2 hf
  have hns : 0 < n * s := Nat.mul_pos hn.1 hpos
  have hrun := run_buildSlice (P := P) w ty e n (parts.map fun (i, x) => (i, ρ x)) cs i z' hu hi hz (by rw [hs]; omega) (by rw [hs]; omega) (by rw [hs, Array.toList_map]; simpa using hc)
  have hr : (execOp ρ o).run P w = .ok (.value (.slice (some ⟨w.heap.size, 0, none⟩) n n)) (w.alloc (.cells cs e)) := by
    simp only [execOp, ho, Sem.run_bind, hrun, Result.andThen_ok, Sem.run_pure]
  have hle : n ≤ n * s := Nat.le_mul_of_pos_right n hpos
  have hcsz : cs.size = n * s := by
    have h3 := hR.1
    have h4 := fillP_len hf
    rw [Array.length_toList] at h3
    rw [h3, h4, zeros_len]; simp [hzl]
  obtain ⟨a1, a2, a3, a4⟩ := lay_row hS ((Ext.refl w).alloc (.cells cs e)) (fun b h => by simp [blockOf] at h; omega) (World.ownsRow_lit (base := base) (e := e) (size := s) w cs n hS.bl (by unfold maxLen; omega) hcsz) hR
  exact ⟨_, _, _, .inl hr, a1, a2, a3, a4⟩
end
end PW
end Go.Proofs.YtbpgndbjbaoolaaGreat
