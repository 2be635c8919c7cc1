/- Pure walks, first part: plain values, what it means that a value of the machine stands for a plain one, and the store of a call. No program in sight. -/
import Derived.Test.YtkaalpdfppbdeaaDoorMem
namespace Go.Proofs.YtkaalpdfppbdeaaDoor
namespace PW
open Go.RowKit Reg Mem

/-- Plain values: what is known of a value of the machine. -/
inductive PV where
  | any
  | raw (v : Value)
  | slice (n : Nat) (xs : List PV)
  | pin (xs : List PV) (off : Nat)
  | agg (xs : List PV)
  | tuple (xs : List PV)
  | func (f : FuncId) (cap : List PV)
  | ptr (i off : Nat)
  | own (i : Nat)

/-- Where the blocks of a call's store lie, and which blocks may change. -/
structure Env where
  L : Nat
  at_ : Nat → Value
  M : Nat → Prop

def blockOf : Value → Option Nat
  | .slice (some a) _ _ => some a.block
  | .pointer (some a) => some a.block
  | _ => none

inductive Rep (E : Env) (w : World) : Value → PV → Prop
  | any (v : Value) : Rep E w v .any
  | raw (v : Value) : Rep E w v (.raw v)
  | nils : Rep E w (.slice none 0 0) (.slice 0 [])
  | empty (a : Addr) (c : Nat) (h : c ≤ maxLen) : Rep E w (.slice (some a) 0 c) (.slice 0 [])
  | slice (b off n c : Nat) (cs : List Value) (xs : List PV) (h0 : 0 < n) (h1 : n ≤ c) (h2 : c ≤ maxLen) (hb : b < w.heap.size) (hM : ¬ E.M b)
      (hc : ∀ (i : Nat) x, cs[i]? = some x → w.cell? ⟨b, off + i, none⟩ = some x) (hl : cs.length = xs.length) (hr : ∀ (i : Nat) x u, cs[i]? = some x → xs[i]? = some u → Rep E w x u) :
      Rep E w (.slice (some ⟨b, off, none⟩) n c) (.slice n xs)
  | pin (b o off : Nat) (cs : List Value) (xs : List PV) (hb : b < w.heap.size) (hM : ¬ E.M b)
      (hc : ∀ (i : Nat) x, cs[i]? = some x → w.cell? ⟨b, o + i, none⟩ = some x) (hl : cs.length = xs.length) (hr : ∀ (i : Nat) x u, cs[i]? = some x → xs[i]? = some u → Rep E w x u) :
      Rep E w (.pointer (some ⟨b, o + off, none⟩)) (.pin xs off)
  | agg (cs : Array Value) (xs : List PV) (hl : cs.size = xs.length) (hr : ∀ (i : Nat) x u, cs[i]? = some x → xs[i]? = some u → Rep E w x u) : Rep E w (.agg cs) (.agg xs)
  | tuple (cs : Array Value) (xs : List PV) (hl : cs.size = xs.length) (hr : ∀ (i : Nat) x u, cs[i]? = some x → xs[i]? = some u → Rep E w x u) : Rep E w (.tuple cs) (.tuple xs)
  | func (f : FuncId) (cs : Array Value) (xs : List PV) (hl : cs.size = xs.length) (hr : ∀ (i : Nat) x u, cs[i]? = some x → xs[i]? = some u → Rep E w x u) : Rep E w (.func (.func f) #[] cs) (.func f xs)
  | ptr (i off b : Nat) (hi : i < E.L) (h : E.at_ i = .pointer (some ⟨b, 0, none⟩) ∨ ∃ n c, E.at_ i = .slice (some ⟨b, 0, none⟩) n c) : Rep E w (.pointer (some ⟨b, off, none⟩)) (.ptr i off)
  | own (i : Nat) (hi : i < E.L) (v : Value) (h : E.at_ i = v) (hs : v.oneCell' = true) : Rep E w v (.own i)

/-- The world goes on: what is known stays known. -/
structure Goes (E : Env) (w : World) (E' : Env) (w' : World) : Prop where
  L : E.L ≤ E'.L
  at_ : ∀ i, i < E.L → E'.at_ i = E.at_ i
  M : ∀ b, b < w.heap.size → ¬ E.M b → ¬ E'.M b
  size : w.heap.size ≤ w'.heap.size
  heap : ∀ b, b < w.heap.size → ¬ E.M b → w'.heap[b]? = w.heap[b]?

theorem Goes.refl (E : Env) (w : World) : Goes E w E w := ⟨Nat.le_refl _, fun _ _ => rfl, fun _ _ h => h, Nat.le_refl _, fun _ _ _ => rfl⟩
theorem Goes.trans {E E' E'' : Env} {w w' w'' : World} (h : Goes E w E' w') (k : Goes E' w' E'' w'') : Goes E w E'' w'' :=
  ⟨Nat.le_trans h.L k.L, fun i hi => (k.at_ i (Nat.lt_of_lt_of_le hi h.L)).trans (h.at_ i hi), fun b hb hM => k.M b (Nat.lt_of_lt_of_le hb h.size) (h.M b hb hM), Nat.le_trans h.size k.size,
    fun b hb hM => (k.heap b (Nat.lt_of_lt_of_le hb h.size) (h.M b hb hM)).trans (h.heap b hb hM)⟩
theorem Goes.ext {E : Env} {w w' : World} (h : Ext w w') : Goes E w E w' := ⟨Nat.le_refl _, fun _ _ => rfl, fun _ _ h => h, h.size, fun b hb _ => h.block b hb⟩

theorem cell_same {w w' : World} {a : Addr} (h : w'.heap[a.block]? = w.heap[a.block]?) : w'.cell? a = w.cell? a := World.cell?_of_block h

theorem Rep.goes {E E' : Env} {w w' : World} (g : Goes E w E' w') {v : Value} {p : PV} (h : Rep E w v p) : Rep E' w' v p := by
  induction h with
  | any v => exact .any v
  | raw v => exact .raw v
  | nils => exact .nils
  | empty a c h => exact .empty a c h
  | slice b off n c cs xs h0 h1 h2 hb hM hc hl _ ih =>
    exact .slice b off n c cs xs h0 h1 h2 (Nat.lt_of_lt_of_le hb g.size) (g.M b hb hM) (fun i x hx => by rw [cell_same (g.heap b hb hM)]; exact hc i x hx) hl ih
  | pin b o off cs xs hb hM hc hl _ ih =>
    exact .pin b o off cs xs (Nat.lt_of_lt_of_le hb g.size) (g.M b hb hM) (fun i x hx => by rw [cell_same (g.heap b hb hM)]; exact hc i x hx) hl ih
  | agg cs xs hl _ ih => exact .agg cs xs hl ih
  | tuple cs xs hl _ ih => exact .tuple cs xs hl ih
  | func f cs xs hl _ ih => exact .func f cs xs hl ih
  | ptr i off b hi h => exact .ptr i off b (Nat.lt_of_lt_of_le hi g.L) (by rw [g.at_ i hi]; exact h)
  | own i hi v h hs => exact .own i (Nat.lt_of_lt_of_le hi g.L) v (by rw [g.at_ i hi]; exact h) hs
theorem Rep.ext {E : Env} {w w' : World} (g : Ext w w') {v : Value} {p : PV} (h : Rep E w v p) : Rep E w' v p := h.goes (.ext g)

/-- Lists of values. -/
def RepL (E : Env) (w : World) (cs : List Value) (xs : List PV) : Prop := cs.length = xs.length ∧ ∀ (i : Nat) x u, cs[i]? = some x → xs[i]? = some u → Rep E w x u
theorem RepL.goes {E E' : Env} {w w' : World} (g : Goes E w E' w') {cs : List Value} {xs : List PV} (h : RepL E w cs xs) : RepL E' w' cs xs := ⟨h.1, fun i x u h1 h2 => (h.2 i x u h1 h2).goes g⟩
theorem RepL.nil (E : Env) (w : World) : RepL E w [] [] := ⟨rfl, fun i x u h => by simp at h⟩
theorem RepL.cons {E : Env} {w : World} {c : Value} {x : PV} {cs : List Value} {xs : List PV} (h : Rep E w c x) (hs : RepL E w cs xs) : RepL E w (c :: cs) (x :: xs) := by
  refine ⟨by simp [hs.1], fun i a u h1 h2 => ?_⟩
  cases i with
  | zero => simp at h1 h2; subst h1; subst h2; exact h
  | succ i => exact hs.2 i a u (by simpa using h1) (by simpa using h2)
theorem RepL.uncons {E : Env} {w : World} {c : Value} {x : PV} {cs : List Value} {xs : List PV} (h : RepL E w (c :: cs) (x :: xs)) : Rep E w c x ∧ RepL E w cs xs :=
  ⟨h.2 0 c x rfl rfl, by simpa using h.1, fun i a u h1 h2 => h.2 (i + 1) a u (by simpa using h1) (by simpa using h2)⟩
theorem RepL.append {E : Env} {w : World} {cs ds : List Value} {xs ys : List PV} (h : RepL E w cs xs) (k : RepL E w ds ys) : RepL E w (cs ++ ds) (xs ++ ys) := by
  refine ⟨by simp [h.1, k.1], fun i a u h1 h2 => ?_⟩
  by_cases hi : i < cs.length
  · rw [List.getElem?_append_left hi] at h1
    rw [List.getElem?_append_left (by rw [← h.1]; exact hi)] at h2
    exact h.2 i a u h1 h2
  · rw [List.getElem?_append_right (by omega)] at h1
    rw [List.getElem?_append_right (by rw [← h.1]; omega), ← h.1] at h2
    exact k.2 _ a u h1 h2
theorem RepL.set {E : Env} {w : World} {cs : List Value} {xs : List PV} (h : RepL E w cs xs) (j : Nat) {c : Value} {x : PV} (hx : Rep E w c x) : RepL E w (cs.set j c) (xs.set j x) := by
  refine ⟨by simp [h.1], fun i a u h1 h2 => ?_⟩
  rw [List.getElem?_set] at h1 h2
  by_cases hj : j = i
  · rw [if_pos hj] at h1 h2
    split at h1
    · split at h2
      · cases h1; cases h2; exact hx
      · cases h2
    · cases h1
  · rw [if_neg hj] at h1 h2
    exact h.2 i a u h1 h2
theorem RepL.take {E : Env} {w : World} {cs : List Value} {xs : List PV} (h : RepL E w cs xs) (n : Nat) : RepL E w (cs.take n) (xs.take n) := by
  refine ⟨by simp [h.1], fun i a u h1 h2 => ?_⟩
  rw [List.getElem?_take] at h1 h2
  split at h1
  · rename_i hi; rw [if_pos hi] at h2; exact h.2 i a u h1 h2
  · cases h1
theorem RepL.drop {E : Env} {w : World} {cs : List Value} {xs : List PV} (h : RepL E w cs xs) (n : Nat) : RepL E w (cs.drop n) (xs.drop n) := by
  refine ⟨by simp [h.1], fun i a u h1 h2 => ?_⟩
  rw [List.getElem?_drop] at h1 h2
  exact h.2 _ a u h1 h2
theorem RepL.get {E : Env} {w : World} {cs : List Value} {xs : List PV} (h : RepL E w cs xs) {i : Nat} {u : PV} (hu : xs[i]? = some u) : ∃ c, cs[i]? = some c ∧ Rep E w c u := by
  have hi : i < cs.length := by
    have := (List.getElem?_eq_some_iff.1 hu).1
    rw [h.1]; exact this
  exact ⟨cs[i], by simp [hi], h.2 i _ u (by simp [hi]) hu⟩

/-- What a call's store holds. -/
inductive Blk where
  | cells (t : TypeId) (xs : List PV)
  | row (e : TypeId) (size n : Nat) (xs : List PV)
def BlkSat (base : Nat) (E : Env) (w : World) (v : Value) : Blk → Prop
  | .cells t xs => ∃ b cs, v = .pointer (some ⟨b, 0, none⟩) ∧ base ≤ b ∧ w.heap[b]? = some (.cells cs t (0, 0)) ∧ RepL E w cs.toList xs
  | .row e size n xs => ∃ cs, w.ownsRow base e size v n cs ∧ RepL E w cs xs
abbrev Sto := List (Option Blk)
structure Sat (F : Nat → Prop) (base : Nat) (σ : Sto) (E : Env) (w : World) : Prop where
  bl : base ≤ w.heap.size
  fb : ∀ b, F b → b < w.heap.size ∧ ∀ i blk, σ[i]? = some (some blk) → blockOf (E.at_ i) ≠ some b
  len : E.L = σ.length
  mm : ∀ b, E.M b ↔ F b ∨ ∃ i blk, σ[i]? = some (some blk) ∧ blockOf (E.at_ i) = some b
  blk : ∀ i blk, σ[i]? = some (some blk) → BlkSat base E w (E.at_ i) blk
  inj : ∀ i j bi bj b, σ[i]? = some (some bi) → σ[j]? = some (some bj) → blockOf (E.at_ i) = some b → blockOf (E.at_ j) = some b → i = j

theorem own_block {v : Value} {w : World} {base : Nat} {e : TypeId} {size n : Nat} {xs : List Value} (h : w.ownsRow base e size v n xs) : blockOf v = v.ownBlock := by
  rcases h.2 with ⟨rfl, _⟩ | ⟨g, cap, cur, rfl, _⟩ <;> rfl
theorem BlkSat.lt {base : Nat} {E : Env} {w : World} {v : Value} {blk : Blk} (h : BlkSat base E w v blk) {b : Nat} (hb : blockOf v = some b) : base ≤ b ∧ b < w.heap.size := by
  cases blk with
  | cells t xs =>
    obtain ⟨b', cs, rfl, h1, h2, _⟩ := h
    simp [blockOf] at hb
    subst hb
    exact ⟨h1, (Array.getElem?_eq_some_iff.1 h2).1⟩
  | row e size n xs =>
    obtain ⟨cs, h1, _⟩ := h
    rw [own_block h1] at hb
    exact h1.lt b hb
/-- A block stays as it is where its block of memory does. -/
theorem BlkSat.goes {base : Nat} {E E' : Env} {w w' : World} (g : Goes E w E' w') {v : Value} {blk : Blk} (h : BlkSat base E w v blk) (hb : ∀ b, blockOf v = some b → w'.heap[b]? = w.heap[b]?) : BlkSat base E' w' v blk := by
  cases blk with
  | cells t xs =>
    obtain ⟨b', cs, rfl, h1, h2, h3⟩ := h
    exact ⟨b', cs, rfl, h1, by rw [hb b' rfl]; exact h2, h3.goes g⟩
  | row e size n xs =>
    obtain ⟨cs, h1, h2⟩ := h
    refine ⟨cs, ⟨h1.1, ?_⟩, h2.goes g⟩
    rcases h1.2 with h | ⟨g', cap, cur, rfl, k1, k2, k3⟩
    · exact .inl h
    · exact .inr ⟨g', cap, cur, rfl, k1, by rw [hb g' rfl]; exact k2, k3⟩
theorem Sat.ext {F : Nat → Prop} {base : Nat} {σ : Sto} {E : Env} {w w' : World} (h : Sat F base σ E w) (hE : Ext w w') : Sat F base σ E w' :=
  ⟨Nat.le_trans h.bl hE.size, fun b hb => ⟨Nat.lt_of_lt_of_le (h.fb b hb).1 hE.size, (h.fb b hb).2⟩, h.len, h.mm, fun i blk hi => (h.blk i blk hi).goes (.ext hE) (fun b hb => hE.block b ((h.blk i blk hi).lt hb).2), h.inj⟩
theorem Sat.lt {F : Nat → Prop} {base : Nat} {σ : Sto} {E : Env} {w : World} (h : Sat F base σ E w) {b : Nat} (hb : E.M b) : b < w.heap.size := by
  rcases (h.mm b).1 hb with hf | ⟨i, blk, hi, hb'⟩
  · exact (h.fb b hf).1
  · exact ((h.blk i blk hi).lt hb').2
/-- A call's own store is empty at first; F: what its caller may change. -/
def EF (F : Nat → Prop) : Env := ⟨0, fun _ => undef, F⟩
theorem Sat.start (F : Nat → Prop) (w : World) (hF : ∀ b, F b → b < w.heap.size) : Sat F w.heap.size [] (EF F) w :=
  ⟨Nat.le_refl _, fun b hb => ⟨hF b hb, fun i blk h => by simp at h⟩, rfl, fun b => by simp [EF], fun i blk h => by simp at h, fun i j bi bj b h => by simp at h⟩
/-- What a callee hands back. -/
theorem Rep.back {E : Env} {w : World} {v : Value} {p : PV} (h : Rep (EF E.M) w v p) : Rep E w v p :=
  h.goes (E := EF E.M) (E' := E) (w := w) (w' := w) ⟨Nat.zero_le _, fun i hi => absurd hi (Nat.not_lt_zero i), fun _ _ h => h, Nat.le_refl _, fun _ _ _ => rfl⟩

/-- The temporaries. -/
abbrev Tms := List (Nat × PV)
def look (k : Nat) : Tms → Option PV
  | [] => none
  | (j, p) :: t => bif Nat.beq k j then some p else look k t
def RepT (E : Env) (w : World) (ρ : Operand → Value) (t : Tms) : Prop := ∀ k p, look k t = some p → Rep E w (ρ (.tmp k)) p
theorem RepT.goes {E E' : Env} {w w' : World} (g : Goes E w E' w') {ρ : Operand → Value} {t : Tms} (h : RepT E w ρ t) : RepT E' w' ρ t := fun k p hk => (h k p hk).goes g
def evalO (t : Tms) : Operand → Option PV
  | .tmp k => look k t
  | .const v => some (.raw v)
  | .global g => some (.raw (.pointer (some ⟨g, 0, none⟩)))
  | .func f => some (.func f [])
theorem evalO_rep {E : Env} {w : World} {ρ : Operand → Value} {t : Tms} (hρ : IsEval ρ) (h : RepT E w ρ t) {x : Operand} {p : PV} (hx : evalO t x = some p) : Rep E w (ρ x) p := by
  match x, hx with
  | .tmp k, hx => exact h k p hx
  | .const v, hx => simp [evalO] at hx; subst hx; rw [hρ.const]; exact .raw v
  | .global g, hx => simp [evalO] at hx; subst hx; rw [hρ.glob]; exact .raw _
  | .func f, hx => simp [evalO] at hx; subst hx; rw [hρ.func]; exact .func f #[] [] rfl (fun i x u h => by simp at h)

/-- More is known by p than by q. -/
def PLe (p q : PV) : Prop := ∀ E w v, Rep E w v p → Rep E w v q
theorem PLe.refl (p : PV) : PLe p p := fun _ _ _ h => h
theorem PLe.any (p : PV) : PLe p .any := fun _ _ v _ => .any v
theorem PLe.nils : PLe (.raw (.slice none 0 0)) (.slice 0 []) := fun _ _ _ h => by cases h; exact .nils

/-- Values that lead to no block of a call's store. -/
class IsPure (p : PV) : Prop where
  out : ∀ (E : Env) (F : Nat → Prop) (w : World) (v : Value), (∀ b, F b → E.M b) → Rep E w v p → Rep (EF F) w v p
class IsPureL (xs : List PV) : Prop where
  out : ∀ (i : Nat) u, xs[i]? = some u → IsPure u
instance : IsPure .any := ⟨fun _ _ _ v _ _ => .any v⟩
instance (v : Value) : IsPure (.raw v) := ⟨fun _ _ _ _ _ h => by cases h; exact .raw v⟩
instance : IsPureL [] := ⟨fun i u h => by simp at h⟩
instance (x : PV) (xs : List PV) [h : IsPure x] [hs : IsPureL xs] : IsPureL (x :: xs) := ⟨fun i u hu => by
  cases i with
  | zero => simp at hu; subst hu; exact h
  | succ i => exact hs.out i u (by simpa using hu)⟩
instance (xs ys : List PV) [h : IsPureL xs] [hs : IsPureL ys] : IsPureL (xs ++ ys) := ⟨fun i u hu => by
  by_cases hi : i < xs.length
  · rw [List.getElem?_append_left hi] at hu; exact h.out i u hu
  · rw [List.getElem?_append_right (by omega)] at hu; exact hs.out _ u hu⟩
theorem IsPureL.map {α : Type} (f : α → PV) (l : List α) (h : ∀ a, IsPure (f a)) : IsPureL (l.map f) := ⟨fun i u hu => by
  simp only [List.getElem?_map, Option.map_eq_some_iff] at hu
  obtain ⟨a, _, rfl⟩ := hu
  exact h a⟩
theorem IsPureL.flatMap {α : Type} (f : α → List PV) (l : List α) (h : ∀ a, IsPureL (f a)) : IsPureL (l.flatMap f) := ⟨fun i u hu => by
  have hm : u ∈ l.flatMap f := List.mem_of_getElem? hu
  obtain ⟨a, _, ha⟩ := List.mem_flatMap.1 hm
  obtain ⟨j, hj⟩ := List.getElem?_of_mem ha
  exact (h a).out j u hj⟩
instance (n : Nat) (xs : List PV) [h : IsPureL xs] : IsPure (.slice n xs) := ⟨fun E F w v hF hv => by
  cases hv with
  | nils => exact .nils
  | empty a c hc => exact .empty a c hc
  | slice b off _ c cs _ h0 h1 h2 hb hM hc hl hr => exact .slice b off n c cs xs h0 h1 h2 hb (fun hf => hM (hF b hf)) hc hl (fun i x u k1 k2 => (h.out i u k2).out E F w x hF (hr i x u k1 k2))⟩
instance (xs : List PV) (k : Nat) [h : IsPureL xs] : IsPure (.pin xs k) := ⟨fun E F w v hF hv => by
  cases hv with
  | pin b o' _ cs _ hb hM hc hl hr => exact .pin b o' k cs xs hb (fun hf => hM (hF b hf)) hc hl (fun i x u k1 k2 => (h.out i u k2).out E F w x hF (hr i x u k1 k2))⟩
instance (xs : List PV) [h : IsPureL xs] : IsPure (.agg xs) := ⟨fun E F w v hF hv => by
  cases hv with
  | agg cs _ hl hr => exact .agg cs xs hl (fun i x u k1 k2 => (h.out i u k2).out E F w x hF (hr i x u k1 k2))⟩
instance (xs : List PV) [h : IsPureL xs] : IsPure (.tuple xs) := ⟨fun E F w v hF hv => by
  cases hv with
  | tuple cs _ hl hr => exact .tuple cs xs hl (fun i x u k1 k2 => (h.out i u k2).out E F w x hF (hr i x u k1 k2))⟩
instance (f : FuncId) (xs : List PV) [h : IsPureL xs] : IsPure (.func f xs) := ⟨fun E F w v hF hv => by
  cases hv with
  | func _ cs _ hl hr => exact .func f cs xs hl (fun i x u k1 k2 => (h.out i u k2).out E F w x hF (hr i x u k1 k2))⟩
theorem RepL.pure {E : Env} {F : Nat → Prop} {w : World} {cs : List Value} {xs : List PV} [h : IsPureL xs] (hF : ∀ b, F b → E.M b) (hs : RepL E w cs xs) : RepL (EF F) w cs xs :=
  ⟨hs.1, fun i x u k1 k2 => (h.out i u k2).out E F w x hF (hs.2 i x u k1 k2)⟩

/-- Values that lead into no memory. -/
class IsFlat (p : PV) : Prop where
  out : ∀ (E E' : Env) (w w' : World) (v : Value), Rep E w v p → Rep E' w' v p
class IsFlatL (xs : List PV) : Prop where
  out : ∀ (i : Nat) u, xs[i]? = some u → IsFlat u
instance (v : Value) : IsFlat (.raw v) := ⟨fun _ _ _ _ _ h => by cases h; exact .raw v⟩
instance : IsFlatL [] := ⟨fun i u h => by simp at h⟩
instance (x : PV) (xs : List PV) [h : IsFlat x] [hs : IsFlatL xs] : IsFlatL (x :: xs) := ⟨fun i u hu => by
  cases i with
  | zero => simp at hu; subst hu; exact h
  | succ i => exact hs.out i u (by simpa using hu)⟩
instance (xs : List PV) [h : IsFlatL xs] : IsFlat (.agg xs) := ⟨fun E E' w w' v hv => by
  cases hv with
  | agg cs _ hl hr => exact .agg cs xs hl (fun i x u k1 k2 => (h.out i u k2).out E E' w w' x (hr i x u k1 k2))⟩
instance (xs : List PV) [h : IsFlatL xs] : IsFlat (.tuple xs) := ⟨fun E E' w w' v hv => by
  cases hv with
  | tuple cs _ hl hr => exact .tuple cs xs hl (fun i x u k1 k2 => (h.out i u k2).out E E' w w' x (hr i x u k1 k2))⟩
/-- Values of one cell. -/
class IsOne (p : PV) : Prop where
  out : ∀ (E : Env) (w : World) (v : Value), Rep E w v p → v.oneCell' = true
class IsOneL (xs : List PV) : Prop where
  out : ∀ (i : Nat) u, xs[i]? = some u → IsOne u
instance (k : IntKind) (n : Int) : IsOne (.raw (.int k n)) := ⟨fun _ _ _ h => by cases h; rfl⟩
instance (b : Bool) : IsOne (.raw (.bool b)) := ⟨fun _ _ _ h => by cases h; rfl⟩
instance (b : ByteArray) : IsOne (.raw (.string b)) := ⟨fun _ _ _ h => by cases h; rfl⟩
instance (a : Option Addr) (n c : Nat) : IsOne (.raw (.slice a n c)) := ⟨fun _ _ _ h => by cases h; rfl⟩
instance (a : Option Addr) : IsOne (.raw (.pointer a)) := ⟨fun _ _ _ h => by cases h; rfl⟩
instance (n : Nat) (xs : List PV) : IsOne (.slice n xs) := ⟨fun _ _ _ h => by cases h <;> rfl⟩
instance (xs : List PV) (k : Nat) : IsOne (.pin xs k) := ⟨fun _ _ _ h => by cases h; rfl⟩
instance (f : FuncId) (xs : List PV) : IsOne (.func f xs) := ⟨fun _ _ _ h => by cases h; rfl⟩
instance (i k : Nat) : IsOne (.ptr i k) := ⟨fun _ _ _ h => by cases h; rfl⟩
instance (i : Nat) : IsOne (.own i) := ⟨fun _ _ _ h => by cases h with | own _ _ _ _ hs => exact hs⟩
instance : IsOneL [] := ⟨fun i u h => by simp at h⟩
instance (x : PV) (xs : List PV) [h : IsOne x] [hs : IsOneL xs] : IsOneL (x :: xs) := ⟨fun i u hu => by
  cases i with
  | zero => simp at hu; subst hu; exact h
  | succ i => exact hs.out i u (by simpa using hu)⟩
theorem IsOneL.map {α : Type} (f : α → PV) (l : List α) (h : ∀ a, IsOne (f a)) : IsOneL (l.map f) := ⟨fun i u hu => by
  simp only [List.getElem?_map, Option.map_eq_some_iff] at hu
  obtain ⟨a, _, rfl⟩ := hu
  exact h a⟩
theorem IsOneL.flatMap {α : Type} (f : α → List PV) (l : List α) (h : ∀ a, IsOneL (f a)) : IsOneL (l.flatMap f) := ⟨fun i u hu => by
  have hm : u ∈ l.flatMap f := List.mem_of_getElem? hu
  obtain ⟨a, _, ha⟩ := List.mem_flatMap.1 hm
  obtain ⟨j, hj⟩ := List.getElem?_of_mem ha
  exact (h a).out j u hj⟩
instance (xs : List PV) (n : Nat) [h : IsOneL xs] : IsOneL (xs.take n) := ⟨fun i u hu => by
  rw [List.getElem?_take] at hu
  split at hu
  · exact h.out i u hu
  · cases hu⟩
instance (xs : List PV) (n : Nat) [h : IsOneL xs] : IsOneL (xs.drop n) := ⟨fun i u hu => by
  rw [List.getElem?_drop] at hu; exact h.out _ u hu⟩
instance (xs : List PV) (n : Nat) [h : IsPureL xs] : IsPureL (xs.take n) := ⟨fun i u hu => by
  rw [List.getElem?_take] at hu
  split at hu
  · exact h.out i u hu
  · cases hu⟩
instance (xs : List PV) (n : Nat) [h : IsPureL xs] : IsPureL (xs.drop n) := ⟨fun i u hu => by
  rw [List.getElem?_drop] at hu; exact h.out _ u hu⟩
theorem RepL.oneCell {E : Env} {w : World} {cs : List Value} {xs : List PV} [h : IsOneL xs] (hs : RepL E w cs xs) : ∀ c ∈ cs, c.oneCell' = true := by
  intro c hc
  obtain ⟨i, hi⟩ := List.getElem?_of_mem hc
  have hlt := (List.getElem?_eq_some_iff.1 hi).1
  rw [hs.1] at hlt
  exact (h.out i xs[i] (by simp [hlt])).out E w c (hs.2 i c _ hi (by simp [hlt]))

/-- The values of operands. -/
def evalL (t : Tms) : List Operand → Option (List PV)
  | [] => some []
  | x :: l => match evalO t x, evalL t l with
    | some p, some q => some (p :: q)
    | _, _ => none
theorem evalL_rep {E : Env} {w : World} {ρ : Operand → Value} {t : Tms} (hρ : IsEval ρ) (h : RepT E w ρ t) : ∀ {l : List Operand} {ps : List PV}, evalL t l = some ps → RepL E w (l.map ρ) ps
  | [], ps, hx => by simp [evalL] at hx; subst hx; exact RepL.nil E w
  | x :: l, ps, hx => by
    simp only [evalL] at hx
    split at hx
    · rename_i p q hp hq
      cases hx
      exact RepL.cons (evalO_rep hρ h hp) (evalL_rep hρ h hq)
    · cases hx

/-- What an operation leaves, where it changes no memory that is there. -/
def Yield (P : Program) (σ : Sto) (t : Tms) (o : Oper) (p : PV) : Prop :=
  ∀ F base E ρ w, IsEval ρ → Sat F base σ E w → RepT E w ρ t → StepUpon P w (fun v w' => Rep E w' v p) ((execOp ρ o).run P w)

end PW
end Go.Proofs.YtkaalpdfppbdeaaDoor
