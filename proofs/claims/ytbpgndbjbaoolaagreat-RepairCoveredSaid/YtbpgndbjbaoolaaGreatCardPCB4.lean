/- Texts of the proof, part 4. -/
import Derived.Deep.Slices
import Derived.Lib.SmallJoins
import Derived.OpenShut
import Derived.Test.YtbpgndbjbaoolaaGreatRows
import Derived.WalkKit
import Derived.ProofKit
import Derived.ShutString
import Derived.ChangeOld
import Derived.Below
import Derived.Test.YtbpgndbjbaoolaaGreatCardPCB3
/- Plain data: numbers, masks, topologies. -/
namespace Go.Proofs.YtbpgndbjbaoolaaGreat
set_option linter.unusedVariables false
set_option linter.unusedSimpArgs false
namespace PW
open Go.RowKit Reg Mem Net

abbrev num (n : Int) : PV := .raw (.int .i64 n)
abbrev flag (b : Bool) : PV := .raw (.bool b)
theorem getD_mem {α : Type} {L : List α} {i : Nat} {d : α} (h : i < L.length) : L.getD i d ∈ L := by
  have : L.getD i d = L[i] := by simp [h]
  rw [this]; exact List.getElem_mem h
theorem take_step {α : Type} (L : List α) (i : Nat) (d : α) (h : i < L.length) : L.take (i + 1) = L.take i ++ [L.getD i d] := by
  rw [List.take_add_one]; simp [h]
def intsP (L : List Int) : List PV := L.map fun n => .raw (.int .i64 n)
def boolsP (L : List Bool) : List PV := L.map fun b => .raw (.bool b)
def intsV (L : List Int) : PV := .slice L.length (intsP L)
def boolsV (L : List Bool) : PV := .slice L.length (boolsP L)
def lnkP (l : Lnk) : List PV := [.raw (.int .i64 l.a), .raw (.int .i64 l.b), .raw (.int .i64 l.c0), .raw (.int .i64 l.c1), .raw (.int .i64 l.cap), .raw (.int .i64 l.delay), .raw (.int .i64 l.grp)]
def lnksP (L : List Lnk) : List PV := L.flatMap lnkP
def topoP (T : Topo) : List PV := [.raw (.int .i64 T.nodes), boolsV T.over, .slice T.links.length (lnksP T.links)]
def topoV (T : Topo) : PV := .agg (topoP T)
instance (L : List Int) : IsPureL (intsP L) := IsPureL.map _ _ fun _ => inferInstance
instance (L : List Bool) : IsPureL (boolsP L) := IsPureL.map _ _ fun _ => inferInstance
instance (L : List Int) : IsOneL (intsP L) := IsOneL.map _ _ fun _ => inferInstance
instance (L : List Bool) : IsOneL (boolsP L) := IsOneL.map _ _ fun _ => inferInstance
instance (l : Lnk) : IsPureL (lnkP l) := by unfold lnkP; infer_instance
instance (l : Lnk) : IsOneL (lnkP l) := by unfold lnkP; infer_instance
instance (L : List Lnk) : IsPureL (lnksP L) := IsPureL.flatMap _ _ fun _ => inferInstance
instance (L : List Lnk) : IsOneL (lnksP L) := IsOneL.flatMap _ _ fun _ => inferInstance
instance (L : List Int) : IsPure (intsV L) := by unfold intsV; infer_instance
instance (L : List Bool) : IsPure (boolsV L) := by unfold boolsV; infer_instance
instance (T : Topo) : IsPureL (topoP T) := by unfold topoP; infer_instance
instance (T : Topo) : IsPure (topoV T) := by unfold topoV; infer_instance
instance (L : List Int) : IsOne (intsV L) := by unfold intsV; infer_instance
instance (L : List Bool) : IsOne (boolsV L) := by unfold boolsV; infer_instance
theorem ints_get (L : List Int) (i : Nat) (h : i < L.length) : (intsP L)[i]? = some (.raw (.int .i64 (L.getD i 0))) := by simp [intsP, h]
theorem bools_getP (L : List Bool) (i : Nat) (h : i < L.length) : (boolsP L)[i]? = some (.raw (.bool (L.getD i false))) := by simp [boolsP, h]
theorem intsP_snoc (L : List Int) (n : Int) : intsP L ++ [.raw (.int .i64 n)] = intsP (L ++ [n]) := by simp [intsP]
theorem over_ints (L : List Int) (i : Nat) (n : Int) (h : i < L.length) : over (intsP L) i [.raw (.int .i64 n)] = intsP (L.set i n) := by
  unfold over intsP
  rw [List.map_set, List.set_eq_take_append_cons_drop, if_pos (by simpa using h)]
  simp
theorem over_bools (L : List Bool) (i : Nat) (n : Bool) (h : i < L.length) : over (boolsP L) i [.raw (.bool n)] = boolsP (L.set i n) := by
  unfold over boolsP
  rw [List.map_set, List.set_eq_take_append_cons_drop, if_pos (by simpa using h)]
  simp
theorem CanS.mono {P : Program} {f : FuncId} {ps : List PV} {σ : Sto} {R R' : PV → Sto → Prop} (h : CanS P f ps σ R) (hr : ∀ r σ', R r σ' → R' r σ') : CanS P f ps σ R' := fun F base E w vs hS hR =>
  (h F base E w vs hS hR).mono fun _ _ ⟨v, r, σ', E', h1, h2, h3⟩ => ⟨v, r, σ', E', h1, hr r σ' h2, h3⟩
/-- Stores into rows of numbers and of flags. -/
theorem l_storeInts {P : Program} {σ : Sto} {t : Tms} {o : Oper} {ty e n : Nat} {x y : Operand} {i j : Nat} {c : Int} {L : List Int} (ho : o.op = .store ty x y) (hk : tyK P ty = some none) (hx : evalO t x = some (.ptr i j)) (hy : evalO t y = some (num c)) (hi : σ[i]? = some (some (.row e 1 n (intsP L)))) (hj : j < L.length) :
    Loud P σ t o (.raw undef) (σ.set i (some (.row e 1 n (intsP (L.set j c))))) := by
  have := l_store1 ho hk hx hy hi (by show j < (intsP L).length; simpa [intsP] using hj)
  have he : Blk.setXs (.row e 1 n (intsP L)) (over (Blk.xs (.row e 1 n (intsP L))) j [num c]) = .row e 1 n (intsP (L.set j c)) := by
    show Blk.row e 1 n (over (intsP L) j [num c]) = _
    rw [over_ints L j c hj]
  rw [he] at this
  exact this
theorem l_storeBools {P : Program} {σ : Sto} {t : Tms} {o : Oper} {ty e n : Nat} {x y : Operand} {i j : Nat} {c : Bool} {L : List Bool} (ho : o.op = .store ty x y) (hk : tyK P ty = some none) (hx : evalO t x = some (.ptr i j)) (hy : evalO t y = some (flag c)) (hi : σ[i]? = some (some (.row e 1 n (boolsP L)))) (hj : j < L.length) :
    Loud P σ t o (.raw undef) (σ.set i (some (.row e 1 n (boolsP (L.set j c))))) := by
  have := l_store1 ho hk hx hy hi (by show j < (boolsP L).length; simpa [boolsP] using hj)
  have he : Blk.setXs (.row e 1 n (boolsP L)) (over (Blk.xs (.row e 1 n (boolsP L))) j [flag c]) = .row e 1 n (boolsP (L.set j c)) := by
    show Blk.row e 1 n (over (boolsP L) j [flag c]) = _
    rw [over_bools L j c hj]
  rw [he] at this
  exact this
theorem zeros_ints (n : Nat) : zeros [.raw (.int .i64 0)] n = intsP (List.replicate n 0) := by
  induction n with
  | zero => rfl
  | succ n ih => simp only [zeros, ih, List.replicate_succ, intsP]; rfl
theorem zeros_bools (n : Nat) : zeros [.raw (.bool false)] n = boolsP (List.replicate n false) := by
  induction n with
  | zero => rfl
  | succ n ih => simp only [zeros, ih, List.replicate_succ, boolsP]; rfl
theorem lnks_getP (L : List Lnk) (i j : Nat) (hi : i < L.length) (hj : j < 7) : (lnksP L)[i * 7 + j]? = (lnkP (lnk L i))[j]? := by
  induction L generalizing i with
  | nil => simp at hi
  | cons l L ih =>
    cases i with
    | zero =>
      simp only [lnksP, List.flatMap_cons, Nat.zero_mul, Nat.zero_add]
      rw [List.getElem?_append_left (by simp [lnkP]; omega)]
      rfl
    | succ i =>
      have := ih i (by simpa using hi)
      simp only [lnksP, List.flatMap_cons] at *
      rw [List.getElem?_append_right (by simp [lnkP]; omega)]
      rw [show (i + 1) * 7 + j - (lnkP l).length = i * 7 + j by simp [lnkP]; omega]
      rw [this]
      rfl

theorem rep_raw {E : Env} {w : World} {v u : Value} (h : Rep E w v (.raw u)) : v = u := by cases h; rfl
theorem lnk_drop (L : List Lnk) (i : Nat) (hi : i < L.length) : ((lnksP L).drop (i * 7)).take 7 = lnkP (lnk L i) := by
  refine List.ext_getElem? fun j => ?_
  by_cases hj : j < 7
  · rw [List.getElem?_take, if_pos hj, List.getElem?_drop, lnks_getP L i j hi hj]
  · rw [List.getElem?_eq_none (by simp; omega), List.getElem?_eq_none (by simp [lnkP]; omega)]
end PW
end Go.Proofs.YtbpgndbjbaoolaaGreat

/- Arguments that came in, as plain values. No program in sight. -/
namespace Go.Proofs.YtbpgndbjbaoolaaGreat
set_option linter.unusedVariables false
set_option linter.unusedSimpArgs false
namespace PW
open Go.RowKit Reg Mem
open Go.Deep
section
variable {P : Program} {H : Type} {enc : TypeId × Value → H} {W : World}
/-- Nothing may change. -/
abbrev EN : Env := EF fun _ => False
/-- A slice, by its elements. -/
theorem rd_slice {α : Type} {f : α → List PV} {s : Nat} {t e : TypeId} {fuel : Nat} {v : Value} {x : DataW H × List MemPlace} (ht : P.underlying t = some (.slice e)) (hc : P.cellsOf e = s) (hs0 : 0 < s)
    (hel : ∀ n cs y, DataW.trod enc P W 0 (fun _ => true) true n e cs = some y → cs.length = s → ∃ a, RepL EN W cs (f a))
    (h : DataW.trod enc P W 0 (fun _ => true) true fuel t [v] = some x) : ∃ L : List α, Rep EN W v (.slice L.length (L.flatMap f)) := by
  rcases open_slice ht h with ⟨hcs, _⟩ | ⟨a, len, cap, m, n, D, Pl, hcs, _, hl, hm, hmm, _, hx⟩
  · simp at hcs; subst hcs
    exact ⟨[], .nils⟩
  · simp at hcs; subst hcs
    rw [hc] at hx
    simp only [if_true] at hmm
    subst hmm
    have hall : ∀ k, k ≤ len → ∃ (L : List α) (cs : List Value), L.length = k ∧ cs.length = k * s ∧ RepL EN W cs (L.flatMap f) ∧ ∀ (i : Nat) u, cs[i]? = some u → W.cell? (a.add i) = some u := by
      intro k
      induction k with
      | zero => intro _; exact ⟨[], [], rfl, by simp, RepL.nil _ _, fun i u h => by simp at h⟩
      | succ k ih =>
        intro hk
        obtain ⟨L, cs, h1, h2, h3, h4⟩ := ih (by omega)
        obtain ⟨cs', h5, h6⟩ := hx k (by omega)
        obtain ⟨_, hlen, hget⟩ := World.cells?_some h5
        obtain ⟨b, hb⟩ := hel n cs' _ h6 hlen
        refine ⟨L ++ [b], cs ++ cs', by simp [h1], by rw [List.length_append, h2, hlen, Nat.succ_mul], by rw [List.flatMap_append]; simpa using h3.append hb, fun i u hu => ?_⟩
        by_cases hi : i < cs.length
        · rw [List.getElem?_append_left hi] at hu; exact h4 i u hu
        · rw [List.getElem?_append_right (by omega)] at hu
          have hj : i - cs.length < s := by have := (List.getElem?_eq_some_iff.1 hu).1; omega
          have := hget (i - cs.length) hj
          rw [hu] at this
          rw [← this]
          rw [Addr.add_add]
          congr 2
          omega
    obtain ⟨L, cs, h1, h2, h3, h4⟩ := hall len (Nat.le_refl _)
    by_cases h0 : len = 0
    · subst h0
      have : L = [] := List.eq_nil_of_length_eq_zero h1
      subst this
      exact ⟨[], .empty _ _ hm⟩
    · obtain ⟨b, off, spot⟩ := a
      have hlt : 0 < cs.length := by rw [h2]; exact Nat.mul_pos (by omega) hs0
      have hc0 := h4 0 cs[0] (by simp [hlt])
      have hspot : spot = none := by simpa [Addr.add] using World.cell?_spot hc0
      subst hspot
      have hbs : b < W.heap.size := by
        unfold World.cell? at hc0
        split at hc0
        · rename_i hh; exact (Array.getElem?_eq_some_iff.1 hh).1
        · cases hc0
      refine ⟨L, ?_⟩
      rw [h1]
      exact .slice b off len _ cs _ (by omega) hl hm hbs (fun hf => hf) (fun i u hu => by have := h4 i u hu; rw [Addr.add_lit] at this; exact this) h3.1 h3.2
end
end PW
end Go.Proofs.YtbpgndbjbaoolaaGreat

/- The arguments of the laws: numbers, masks, topologies. -/
namespace Go.Proofs.YtbpgndbjbaoolaaGreat
set_option linter.unusedVariables false
set_option linter.unusedSimpArgs false
namespace PW
open Go.RowKit Reg Mem Net
section
variable {H : Type} {enc : TypeId × Value → H} {W : World}
theorem rd_int {n : Nat} {cs : List Value} {y : DataW H × List MemPlace} (h : DataW.trod enc Tryz.prog W 0 (fun _ => true) true n 3 cs = some y) : ∃ a : Int, cs = [.int .i64 a] := by
  obtain ⟨a, h1, _⟩ := DataW.trod_int Tryz.underlying3 h
  exact ⟨a, h1⟩
theorem flatMap_one {α : Type} (f : α → PV) (l : List α) : l.flatMap (fun a => [f a]) = l.map f := by induction l with
  | nil => rfl
  | cons a l ih => simp [ih]
theorem rd_bools {n : Nat} {v : Value} {y : DataW H × List MemPlace} (h : DataW.trod enc Tryz.prog W 0 (fun _ => true) true n 22 [v] = some y) : ∃ L, Rep EN W v (boolsV L) := by
  obtain ⟨L, hL⟩ := rd_slice (f := fun a : Bool => [PV.raw (.bool a)]) (s := 1) Tryz.underlying22 (by kernel_rfl) (by omega) (fun n cs y hy _ => by
    obtain ⟨a, rfl, _⟩ := DataW.trod_bool Tryz.underlying4 hy
    exact ⟨a, RepL.one (.raw _)⟩) h
  refine ⟨L, ?_⟩
  rw [flatMap_one] at hL
  exact hL
set_option maxRecDepth 10000 in
theorem rd_link {n : Nat} {cs : List Value} {y : DataW H × List MemPlace} (h : DataW.trod enc Tryz.prog W 0 (fun _ => true) true n 72 cs = some y) (hl : cs.length = 7) : ∃ l : Lnk, RepL EN W cs (lnkP l) := by
  have c3 : Tryz.prog.cellsOf 3 = 1 := by kernel_rfl
  have c54 : Tryz.prog.cellsOf 70 = 2 := by kernel_rfl
  obtain ⟨xs, m, _, _, _, hlen, hf⟩ := DataW.trod_struct Tryz.underlying72 h
  match cs, hl with
  | [c0, c1, c2, c3', c4, c5, c6], _ =>
    match xs, hlen with
    | [y0, y1, y2, y3, y4, y5], _ =>
      have f0 : DataW.trod enc Tryz.prog W 0 (fun _ => true) true m 3 (([c0, c1, c2, c3', c4, c5, c6].drop 0).take (Tryz.prog.cellsOf 3)) = some y0 := hf 0 _ rfl
      rw [c3] at f0
      have f1 : DataW.trod enc Tryz.prog W 0 (fun _ => true) true m 3 (([c0, c1, c2, c3', c4, c5, c6].drop 1).take (Tryz.prog.cellsOf 3)) = some y1 := hf 1 _ rfl
      rw [c3] at f1
      have f2 : DataW.trod enc Tryz.prog W 0 (fun _ => true) true m 70 (([c0, c1, c2, c3', c4, c5, c6].drop 2).take (Tryz.prog.cellsOf 70)) = some y2 := hf 2 _ rfl
      rw [c54] at f2
      have f3 : DataW.trod enc Tryz.prog W 0 (fun _ => true) true m 3 (([c0, c1, c2, c3', c4, c5, c6].drop 4).take (Tryz.prog.cellsOf 3)) = some y3 := hf 3 _ rfl
      rw [c3] at f3
      have f4 : DataW.trod enc Tryz.prog W 0 (fun _ => true) true m 3 (([c0, c1, c2, c3', c4, c5, c6].drop 5).take (Tryz.prog.cellsOf 3)) = some y4 := hf 4 _ rfl
      rw [c3] at f4
      have f5 : DataW.trod enc Tryz.prog W 0 (fun _ => true) true m 3 (([c0, c1, c2, c3', c4, c5, c6].drop 6).take (Tryz.prog.cellsOf 3)) = some y5 := hf 5 _ rfl
      rw [c3] at f5
      obtain ⟨a0, h0⟩ := rd_int f0
      obtain ⟨a1, h1⟩ := rd_int f1
      obtain ⟨a3, h3⟩ := rd_int f3
      obtain ⟨a4, h4⟩ := rd_int f4
      obtain ⟨a5, h5⟩ := rd_int f5
      obtain ⟨zs, m2, _, _, _, hz, hg⟩ := DataW.trod_array Tryz.underlying70 f2
      match zs, hz with
      | [z0, z1], _ =>
        have g0 := hg 0 (by omega)
        have g1 := hg 1 (by omega)
        rw [c3] at g0 g1
        obtain ⟨b0, k0⟩ := rd_int g0
        obtain ⟨b1, k1⟩ := rd_int g1
        simp at h0 h1 h3 h4 h5 k0 k1
        subst h0 h1 h3 h4 h5 k0 k1
        exact ⟨⟨a0, a1, b0, b1, a3, a4, a5⟩, RepL.cons (.raw _) <| RepL.cons (.raw _) <| RepL.cons (.raw _) <| RepL.cons (.raw _) <| RepL.cons (.raw _) <| RepL.cons (.raw _) <| RepL.cons (.raw _) (RepL.nil _ _)⟩
set_option maxRecDepth 10000 in
theorem rd_topo {base : Nat} {v : Value} {d : DataW H} {p : List MemPlace} (hv : Value.okWide Tryz.prog W .any base 25 v) (h : DataW.Trod enc Tryz.prog W 0 (fun _ => true) true 25 v d p) : ∃ T, Rep EN W v (topoV T) := by
  obtain ⟨v0, v1, v2, y0, y1, y2, n, rfl, _, _, h0, h1, h2⟩ := Joins.open_agg3 Tryz.underlying25 (by kernel_rfl) (by kernel_rfl) hv h
  obtain ⟨a, ha⟩ := rd_int h0
  obtain ⟨B, hB⟩ := rd_bools h1
  obtain ⟨L, hL⟩ := rd_slice (f := lnkP) (s := 7) Tryz.underlying23 (by kernel_rfl) (by omega) (fun n cs y hy hl => rd_link hy hl) h2
  cases ha
  refine ⟨⟨a, B, L⟩, .agg #[_, v1, v2] _ rfl (fun i x u k1 k2 => ?_)⟩
  match i, k1, k2 with
  | 0, k1, k2 => cases k1; cases k2; exact .raw _
  | 1, k1, k2 => cases k1; cases k2; exact hB
  | 2, k1, k2 => cases k1; cases k2; exact hL
  | _ + 3, _, k2 => simp [topoP] at k2
end
end PW
end Go.Proofs.YtbpgndbjbaoolaaGreat

/- The frame of the laws of a plain seat: what all of them share. -/
namespace Go.Proofs.YtbpgndbjbaoolaaGreat
set_option linter.unusedVariables false
set_option linter.unusedSimpArgs false
namespace PW
open Go.ChangeShapes Go.WideShapes Go.ChangeAt Go.RowKit
open Go.Joins Reg Mem

theorem own : ownKnob Tryz.prog.godebug = none := by kernel_rfl
theorem laidOut : laidOutB Tryz.prog = true := by kernel_rfl

theorem lt_of {H : Type} {enc : TypeId × Value → H} {W : World} {t : TypeId} {v : Value} {d : DataW H} {p : List MemPlace} (h : DataW.Trod enc Tryz.prog W 0 (fun _ => true) true t v d p) : ∀ x ∈ p, x.block < W.heap.size := by
  obtain ⟨m, hm⟩ := h; exact DataW.trod_lt m _ _ _ hm
theorem noGlob (F : Nat → Prop) (W : World) : Glob F W := fun g cs h => by simp [GG] at h
end PW
end Go.Proofs.YtbpgndbjbaoolaaGreat

/- Pure walks: all orders of a region, one by one. No program in sight. -/
namespace Go.Proofs.YtbpgndbjbaoolaaGreat
set_option linter.unusedVariables false
set_option linter.unusedSimpArgs false
namespace PW
open Go.RowKit Reg Mem
section
variable {P : Program} {N L : Nat} {ops : Array Oper}
/-- All orders of the operations that are left. -/
def WA (P : Program) (N L : Nat) (ops : Array Oper) : Nat → Array Bool → St → (St → Prop) → Prop
  | 0, ls, st, K => Region.ready .any ops ls = [] ∧ K st
  | n + 1, ls, st, K => Region.ready .any ops ls ≠ [] ∧ ∀ i ∈ Region.ready .any ops ls, ∃ o, ops[i]? = some o ∧ o.guard = none ∧ WR P N L [o].toArray [o] st (fun s => WA P N L ops n (ls.setIfInBounds i true) s K)
def WAs (P : Program) (N L : Nat) (ops : Array Oper) (n : Nat) (ls : Array Bool) (st : St) (K : St → Prop) (is : List Nat) : Prop :=
  ∀ i ∈ is, ∃ o, ops[i]? = some o ∧ o.guard = none ∧ WR P N L [o].toArray [o] st (fun s => WA P N L ops n (ls.setIfInBounds i true) s K)
theorem WA_nil {ls : Array Bool} {st : St} {K : St → Prop} (h : Region.ready .any ops ls = []) (hk : K st) : WA P N L ops 0 ls st K := ⟨h, hk⟩
theorem WA_step {n : Nat} {ls : Array Bool} {st : St} {K : St → Prop} (i : Nat) (is : List Nat) (h : Region.ready .any ops ls = i :: is) (hk : WAs P N L ops n ls st K (i :: is)) : WA P N L ops (n + 1) ls st K :=
  ⟨by rw [h]; simp, fun j hj => hk j (by rw [← h]; exact hj)⟩
theorem WAs_nil {n : Nat} {ls : Array Bool} {st : St} {K : St → Prop} : WAs P N L ops n ls st K [] := fun i hi => by simp at hi
theorem WAs_cons {n : Nat} {ls : Array Bool} {st : St} {K : St → Prop} {i : Nat} {is : List Nat} {o : Oper} (ho : ops[i]? = some o) (hg : o.guard = none) (h : WR P N L [o].toArray [o] st (fun s => WA P N L ops n (ls.setIfInBounds i true) s K)) (hs : WAs P N L ops n ls st K is) : WAs P N L ops n ls st K (i :: is) := fun j hj => by
  rcases List.mem_cons.1 hj with rfl | hj
  · exact ⟨o, ho, hg, h⟩
  · exact hs j hj
/-- What follows an operation. -/
def Qnext (K : Act → World → Prop) (Q : Exit → Act → World → Prop) : Exit → Act → World → Prop
  | .normal, a, w => K a w
  | e, a, w => Q e a w
theorem oper_wp_next {o : Oper} {a : Act} {w : World} {K K' K'' : Act → World → Prop} {Q : Exit → Act → World → Prop} (h : ∀ a w, K a w → K' a w) (hh : o.wp P a w K (Qnext K'' Q)) : o.wp P a w K' Q := by
  unfold Oper.wp at *
  generalize (execOp a.eval o).run P w = x at *
  cases x with
  | ok n w' =>
    cases n <;> simp only [Oper.upon] at hh ⊢ <;>
      first
        | exact h _ _ hh
        | exact Calls.mono hh (fun e w'' he => by cases e <;> first | exact h _ _ he | exact he)
        | exact Rows.mono hh (fun _ _ he => h _ _ he)
  | halt x w' => cases x <;> simp only [Oper.upon] at hh ⊢ <;> exact hh
theorem WA.any : ∀ {n : Nat} {ls : Array Bool} {st : St} {K : St → Prop}, WA P N L ops n ls st K → ∀ F base E₀ w₀ E a w, Came base L E₀ w₀ E w → SatSt F base N st E a w → ∀ (Q : Exit → Act → World → Prop), (∀ a' w', Post F base N E₀ w₀ K a' w' → Q .normal a' w') → wpAny P .any ops Q n ls a w
  | 0, ls, st, K, h, F, base, E₀, w₀, E, a, w, hc, hs, Q, hQ => ⟨h.1, hQ a w ⟨st, E, h.2, hs, hc.g, hc.b⟩⟩
  | n + 1, ls, st, K, h, F, base, E₀, w₀, E, a, w, hc, hs, Q, hQ => by
    refine ⟨fun h0 => absurd h0 h.1, fun i hi => ?_⟩
    obtain ⟨o, ho, hg, hw⟩ := h.2 i hi
    have h1 := hw F base E₀ w₀ E a w hc hs (Qnext (wpAny P .any ops Q n (ls.setIfInBounds i true)) Q) 0 (fun a' w' ⟨s, E', k1, k2, k3, k4⟩ => by
      show wpAny P .any ops Q n (ls.setIfInBounds i true) a' w'
      exact WA.any k1 F base E₀ w₀ E' a' w' ⟨hc.L, k3, k4⟩ k2 Q hQ) (fun j => by simp)
    simp only [List.length_singleton] at h1
    rw [List.range'_succ, wpOps_cons] at h1
    unfold wpOp at h1 ⊢
    have hw1 : ∀ y, Region.wanted o y = true := fun y => by unfold Region.wanted; rw [hg]
    simp only [List.getElem?_toArray, List.getElem?_cons_zero, hw1, if_true] at h1
    simp only [ho, hw1, if_true]
    rcases h1 with h1 | ⟨h1, h2⟩
    · exact .inl (oper_wp_next (fun a w h => h) h1)
    · exact .inr ⟨h1, h2⟩
theorem W_orders {id : Nat} {l : List Oper} {st : St} {Q : Exit → St → Prop} (hm : P.follows .mixedOrders = true) (h : WA P N L l.toArray l.length (Array.replicate l.length false) st (fun s => Q .normal s)) : W P N L (.region id l.toArray true) st Q := fun F base E₀ w₀ E a w hc hs => by
  refine wp_region_any hm ?_
  have hE : Ext w { w with drawn := w.drawn + 1 } := ⟨rfl, rfl, rfl, Nat.le_refl _, fun _ _ => rfl⟩
  have := h.any F base E₀ w₀ E a { w with drawn := w.drawn + 1 } (hc.on (.ext hE) (Below.ofExt hE hs.sat.bl)) ⟨hs.sat.ext hE, hs.tmp.goes (.ext hE), hs.dfr, hs.size⟩ (fun e a' w' => Post F base N E₀ w₀ (Q e) a' w') (fun a' w' h => h)
  simpa using this
theorem W_orders1 {id : Nat} {l : List Oper} {y : Code} {st : St} {Q : Exit → St → Prop} (hm : P.follows .mixedOrders = true) (h : WA P N L l.toArray l.length (Array.replicate l.length false) st (fun s => W P N L y s Q)) : W P N L (.seq (.region id l.toArray true) y) st Q := W_seq (W_orders hm h)
theorem set_eq_of {α : Type} {l : List α} {k : Nat} {x : α} (h : l[k]? = some x) : l.set k x = l := by
  obtain ⟨hk, rfl⟩ := List.getElem?_eq_some_iff.1 h
  simp
/-- A nil slice in a cell of the store is taken for an empty row of the call's own. -/
theorem W_adoptCell {c : Code} {t : Tms} {σ : Sto} {Q : Exit → St → Prop} (i k e s : Nat) {ty : TypeId} {xs : List PV} (hi : σ[i]? = some (some (.cells ty xs))) (hk : xs[k]? = some (.raw (.slice none 0 0)))
    (h : W P N L c ⟨t, (σ ++ [some (Blk.row e s 0 [])]).set i (some (.cells ty (xs.set k (.own σ.length))))⟩ Q) : W P N L c ⟨t, σ⟩ Q := fun F base E₀ w₀ E a w hc hs => by
  obtain ⟨a1, a2, a3⟩ := adopt hs.sat e s
  have hil := (List.getElem?_eq_some_iff.1 hi).1
  have hi' : (σ ++ [some (Blk.row e s 0 [])])[i]? = some (some (.cells ty xs)) := by rw [List.getElem?_append_left hil]; exact hi
  obtain ⟨b, cs, hb, h1, h2, h3⟩ := a1.blk i _ hi'
  obtain ⟨cv, hcv, hrep⟩ := h3.get hk
  cases hrep
  obtain ⟨b1, b2⟩ := a1.turn hi' (b := b) (by rw [hb]; rfl) (Nat.le_refl _) (fun _ _ _ => rfl) (bi' := .cells ty (xs.set k (.own σ.length))) ⟨b, cs, hb, h1, h2, by
    have := h3.set k a3
    rw [set_eq_of hcv] at this
    exact this⟩
  exact h F base E₀ w₀ _ a w (hc.on (a2.trans b2) (Below.refl _ _)) ⟨b1, (hs.tmp.goes a2).goes b2, hs.dfr, hs.size⟩
/-- The store is frozen: its blocks are read only from now on. -/
inductive TPur (σ : Sto) (t : Tms) : Tms → Prop
  | nil : TPur σ t []
  | cons {t' : Tms} (k : Nat) {p q : PV} : look k t = some p → Pur σ p q → TPur σ t t' → TPur σ t ((k, q) :: t')
theorem TPur.get {σ : Sto} {t t' : Tms} (h : TPur σ t t') : ∀ k q, look k t' = some q → ∃ p, look k t = some p ∧ Pur σ p q := by
  induction h with
  | nil => intro k q h; cases h
  | cons k h1 h2 _ ih =>
    intro j q hj
    simp only [look] at hj
    rw [Bool.cond_eq_ite] at hj
    split at hj
    · rename_i he
      have := Nat.eq_of_beq_eq_true he
      subst this
      cases hj
      exact ⟨_, h1, h2⟩
    · exact ih j q hj
theorem W_freeze {c : Code} {t t' : Tms} {σ : Sto} {Q : Exit → St → Prop} (hT : TPur σ t t') (h : W P N 0 c ⟨t', []⟩ Q) : W P N 0 c ⟨t, σ⟩ Q := fun F base E₀ w₀ E a w hc hs => by
  have hF : ∀ b, F b → E.M b := fun b hb => (hs.sat.mm b).2 (.inl hb)
  refine h F base E₀ w₀ (EF F) a w ⟨hc.L, ⟨by rw [hc.L]; exact Nat.zero_le _, fun i hi => by rw [hc.L] at hi; omega, fun b h1 h2 hf => hc.g.M b h1 h2 (hF b hf), hc.g.size, hc.g.heap⟩, hc.b⟩
    ⟨⟨hs.sat.bl, fun b hb => ⟨(hs.sat.fb b hb).1, fun i blk h => by simp at h⟩, rfl, fun b => by simp [EF], fun i blk h => by simp at h, fun i j bi bj b h => by simp at h, hs.sat.gl.sub hF⟩, fun k q hq => ?_, hs.dfr, hs.size⟩
  obtain ⟨p, h1, h2⟩ := hT.get k q hq
  exact h2.rep hs.sat hF (fun b hb => (hs.sat.fb b hb).2) _ (hs.tmp k p h1)
end
end PW
end Go.Proofs.YtbpgndbjbaoolaaGreat

/- A binary heap: plain laws on ranks along the tree. No program in sight. -/
namespace Go.Proofs.YtbpgndbjbaoolaaGreat
set_option linter.unusedVariables false
set_option linter.unusedSimpArgs false
namespace Heap

/-- The parent of a place. -/
def par (q : Nat) : Nat := (q - 1) / 2
theorem par_lt {q : Nat} (h : 0 < q) : par q < q := by unfold par; omega
theorem par_kid {p c : Nat} (h : 0 < c) (hc : par c = p) : c = 2 * p + 1 ∨ c = 2 * p + 2 := by unfold par at hc; omega
def Heapy (f : Nat → Int) (len : Nat) : Prop := ∀ q, 0 < q → q < len → f (par q) ≤ f q
def Grand (f : Nat → Int) (len p : Nat) : Prop := 0 < p → ∀ c, 0 < c → c < len → par c = p → f (par p) ≤ f c
def Loose (f : Nat → Int) (len p : Nat) : Prop := (∀ q, 0 < q → q < len → q ≠ p → par q ≠ p → f (par q) ≤ f q) ∧ Grand f len p
def Downy (f : Nat → Int) (len p : Nat) : Prop := (∀ q, 0 < q → q < len → par q ≠ p → f (par q) ≤ f q) ∧ Grand f len p

/-- f with the places p and q exchanged. -/
def fsw (f : Nat → Int) (p q x : Nat) : Int := if x = p then f q else if x = q then f p else f x
theorem fsw_p (f : Nat → Int) (p q : Nat) : fsw f p q p = f q := by simp [fsw]
theorem fsw_q (f : Nat → Int) (p q : Nat) : fsw f p q q = f p := by
  unfold fsw; split
  · rename_i h; rw [h]
  · simp
theorem fsw_ne (f : Nat → Int) {p q x : Nat} (h1 : x ≠ p) (h2 : x ≠ q) : fsw f p q x = f x := by simp [fsw, h1, h2]

theorem loose_up {f : Nat → Int} {len p : Nat} (h : Loose f len p) (hp : 0 < p) (hl : p < len) (_ : f p < f (par p)) : Loose (fsw f p (par p)) len (par p) := by
  have hpp := par_lt hp
  refine ⟨fun q h0 hq h1 h2 => ?_, fun hg c h0 hc hpc => ?_⟩
  · by_cases e : par q = p
    · have hqp := par_lt h0
      rw [e, fsw_p, fsw_ne f (by omega) h1]
      exact h.2 hp q h0 hq e
    · have hqp : q ≠ p := fun e' => h2 (by rw [e'])
      rw [fsw_ne f e h2, fsw_ne f hqp h1]
      exact h.1 q h0 hq hqp e
  · have hgg := par_lt hg
    rw [fsw_ne f (by omega) (by omega)]
    have h3 := h.1 (par p) hg (by omega) (by omega) (by omega)
    by_cases e : c = p
    · rw [e, fsw_p]; exact h3
    · have := par_lt h0
      rw [fsw_ne f e (by omega)]
      have := h.1 c h0 hc e (by omega)
      rw [hpc] at this
      omega

theorem loose_down {f : Nat → Int} {len p : Nat} (h : Loose f len p) (hp : p = 0 ∨ f (par p) ≤ f p) : Downy f len p :=
  ⟨fun q h0 hq h2 => by
    by_cases e : q = p
    · subst e
      rcases hp with h' | h'
      · omega
      · exact h'
    · exact h.1 q h0 hq e h2, h.2⟩

theorem downy_heap {f : Nat → Int} {len p : Nat} (h : Downy f len p) (hk : ∀ c, 0 < c → c < len → par c = p → f p ≤ f c) : Heapy f len := fun q h0 hq => by
  by_cases e : par q = p
  · rw [e]; exact hk q h0 hq e
  · exact h.1 q h0 hq e

theorem downy_step {f : Nat → Int} {len p c : Nat} (h : Downy f len p) (hc0 : 0 < c) (hcl : c < len) (hcp : par c = p) (hlt : f c < f p) (hk : ∀ c', 0 < c' → c' < len → par c' = p → f c ≤ f c') : Downy (fsw f p c) len c := by
  have hpc := par_lt hc0
  refine ⟨fun q h0 hq h2 => ?_, fun _ d h0 hd hdc => ?_⟩
  · have hqq := par_lt h0
    by_cases e : par q = p
    · rw [e, fsw_p]
      by_cases e' : q = c
      · rw [e', fsw_q]; omega
      · rw [fsw_ne f (by omega) e']; exact hk q h0 hq e
    · rw [fsw_ne f e h2]
      by_cases e' : q = p
      · rw [e', fsw_p]
        exact h.2 (by omega) c hc0 hcl hcp
      · rw [fsw_ne f e' (fun e2 => e (by rw [e2]; exact hcp))]
        exact h.1 q h0 hq e
  · have hdd := par_lt h0
    rw [hcp, fsw_p, fsw_ne f (by omega) (by omega)]
    have := h.1 d h0 hd (by omega)
    rw [hdc] at this
    exact this

theorem heapy_min {f : Nat → Int} {len : Nat} (h : Heapy f len) : ∀ q, q < len → f 0 ≤ f q := by
  intro q
  induction q using Nat.strongRecOn with
  | _ q ih =>
    intro hq
    by_cases e : q = 0
    · rw [e]; exact Int.le_refl _
    · have := par_lt (q := q) (by omega)
      exact Int.le_trans (ih (par q) this (by omega)) (h q (by omega) hq)

/-- One place is turned. -/
theorem heapy_loose {f g : Nat → Int} {len p : Nat} (h : Heapy f len) (he : ∀ q, q < len → q ≠ p → g q = f q) (hp : p < len) : Loose g len p := by
  refine ⟨fun q h0 hq h1 h2 => ?_, fun hp0 c h0 hc hcp => ?_⟩
  · have := par_lt h0
    rw [he q hq h1, he (par q) (by omega) h2]; exact h q h0 hq
  · have := par_lt h0
    have := par_lt hp0
    rw [he (par p) (by omega) (by omega), he c hc (by omega)]
    have h1 := h c h0 hc
    rw [hcp] at h1
    exact Int.le_trans (h p hp0 hp) h1
/-- One place more. -/
theorem heapy_more {f g : Nat → Int} {len : Nat} (h : Heapy f len) (he : ∀ q, q < len → g q = f q) : Loose g (len + 1) len := by
  refine ⟨fun q h0 hq h1 _ => ?_, fun hp0 c h0 hc hcp => ?_⟩
  · have := par_lt h0
    rw [he q (by omega), he (par q) (by omega)]; exact h q h0 (by omega)
  · have := par_lt h0; omega
/-- The first place is turned, and the last one gone. -/
theorem heapy_less {f g : Nat → Int} {len : Nat} (h : Heapy f (len + 1)) (he : ∀ q, q < len → q ≠ 0 → g q = f q) : Loose g len 0 := by
  refine ⟨fun q h0 hq h1 h2 => ?_, fun hp0 => by omega⟩
  have := par_lt h0
  rw [he q hq h1, he (par q) (by omega) h2]; exact h q h0 (by omega)

/-- An item's rank: by its key, then by its number. -/
def rank (K : List Int) (i : Int) : Int := K.getD i.toNat 0 * 65536 + i
def rk (K O : List Int) (p : Nat) : Int := rank K (O.getD p 0)
theorem rank_lt {K : List Int} {i j : Int} (hi : 0 ≤ i) (hi' : i < 65536) (hj : 0 ≤ j) (hj' : j < 65536) :
    decide (rank K i < rank K j) = (if K.getD i.toNat 0 = K.getD j.toNat 0 then decide (i < j) else decide (K.getD i.toNat 0 < K.getD j.toNat 0)) := by
  unfold rank
  generalize K.getD i.toNat 0 = a
  generalize K.getD j.toNat 0 = b
  split
  · simp only [decide_eq_decide]; omega
  · simp only [decide_eq_decide]; omega
theorem rank_key {K : List Int} {i j : Int} (hi : 0 ≤ i) (hj' : j < 65536) (h : rank K i ≤ rank K j) : K.getD i.toNat 0 ≤ K.getD j.toNat 0 := by
  unfold rank at h; omega

def swapL (O : List Int) (p q : Nat) : List Int := (O.set p (O.getD q 0)).set q (O.getD p 0)
theorem swapL_len (O : List Int) (p q : Nat) : (swapL O p q).length = O.length := by simp [swapL]
theorem getD_set (L : List Int) (i j : Nat) (c : Int) (hi : i < L.length) : (L.set i c).getD j 0 = if j = i then c else L.getD j 0 := by
  simp only [List.getD_eq_getElem?_getD, List.getElem?_set]
  by_cases h : i = j
  · subst h; simp [hi]
  · rw [if_neg h, if_neg (Ne.symm h)]
theorem swapL_get (O : List Int) (p q x : Nat) (hp : p < O.length) (hq : q < O.length) : (swapL O p q).getD x 0 = if x = q then O.getD p 0 else if x = p then O.getD q 0 else O.getD x 0 := by
  unfold swapL
  rw [getD_set _ _ _ _ (by simpa using hq), getD_set _ _ _ _ hp]
theorem rk_swap (K O : List Int) (p q : Nat) (hp : p < O.length) (hq : q < O.length) : rk K (swapL O p q) = fsw (rk K O) p q := by
  funext x
  unfold rk fsw
  rw [swapL_get O p q x hp hq]
  by_cases h1 : x = q
  · subst h1
    rw [if_pos rfl]
    by_cases h2 : x = p
    · rw [if_pos h2, h2]
    · rw [if_neg h2, if_pos rfl]
  · rw [if_neg h1]
    by_cases h2 : x = p
    · rw [if_pos h2, if_pos h2]
    · rw [if_neg h2, if_neg h2, if_neg h1]

/-- The item i is held. -/
def Held (O : List Int) (i : Int) : Prop := ∃ p, p < O.length ∧ O.getD p 0 = i
theorem held_swap (O : List Int) (p q : Nat) (hp : p < O.length) (hq : q < O.length) (i : Int) : Held (swapL O p q) i ↔ Held O i := by
  unfold Held
  rw [swapL_len]
  constructor
  · rintro ⟨x, hx, rfl⟩
    rw [swapL_get O p q x hp hq]
    split
    · exact ⟨p, hp, rfl⟩
    · split
      · exact ⟨q, hq, rfl⟩
      · exact ⟨x, hx, rfl⟩
  · rintro ⟨x, hx, rfl⟩
    by_cases h1 : x = p
    · exact ⟨q, hq, by rw [swapL_get O p q q hp hq, if_pos rfl, h1]⟩
    · by_cases h2 : x = q
      · exact ⟨p, hp, by
          rw [swapL_get O p q p hp hq]
          by_cases h3 : p = q
          · omega
          · rw [if_neg h3, if_pos rfl, h2]⟩
      · exact ⟨x, hx, by rw [swapL_get O p q x hp hq, if_neg h2, if_neg h1]⟩

/-- The places of the items are told by P. -/
structure Placed (N : Nat) (P O : List Int) : Prop where
  len : P.length = N
  item : ∀ p, p < O.length → 0 ≤ O.getD p 0 ∧ O.getD p 0 < N ∧ P.getD (O.getD p 0).toNat 0 = (p : Int) + 1
  place : ∀ i, i < N → P.getD i 0 = 0 ∨ ∃ p, p < O.length ∧ O.getD p 0 = (i : Int)

theorem Placed.inj {N : Nat} {P O : List Int} (h : Placed N P O) {p q : Nat} (hp : p < O.length) (hq : q < O.length) (he : O.getD p 0 = O.getD q 0) : p = q := by
  have h1 := (h.item p hp).2.2
  have h2 := (h.item q hq).2.2
  rw [he] at h1
  omega
/-- The list of places behind an exchange. -/
def placeL (P O : List Int) (p q : Nat) : List Int := (P.set (O.getD q 0).toNat ((p : Int) + 1)).set (O.getD p 0).toNat ((q : Int) + 1)
theorem Placed.swap {N : Nat} {P O : List Int} (h : Placed N P O) {p q : Nat} (hp : p < O.length) (hq : q < O.length) : Placed N (placeL P O p q) (swapL O p q) := by
  have ip := h.item p hp
  have iq := h.item q hq
  have hl := h.len
  refine ⟨by simp [placeL, h.len], fun x hx => ?_, fun i hi => ?_⟩
  · rw [swapL_len] at hx
    have ix := h.item x hx
    have e : ∀ j : Int, 0 ≤ j → j < N → (placeL P O p q).getD j.toNat 0 = if j = O.getD p 0 then (q : Int) + 1 else if j = O.getD q 0 then (p : Int) + 1 else P.getD j.toNat 0 := fun j h0 h1 => by
      unfold placeL
      rw [getD_set _ _ _ _ (by rw [List.length_set]; omega), getD_set _ _ _ _ (by omega)]
      have e1 : (j.toNat = (O.getD p 0).toNat) = (j = O.getD p 0) := by apply propext; omega
      have e2 : (j.toNat = (O.getD q 0).toNat) = (j = O.getD q 0) := by apply propext; omega
      simp only [e1, e2]
    rw [swapL_get O p q x hp hq]
    by_cases h1 : x = q
    · rw [if_pos h1, e _ ip.1 ip.2.1, if_pos rfl]
      exact ⟨ip.1, ip.2.1, by rw [h1]⟩
    · rw [if_neg h1]
      by_cases h2 : x = p
      · rw [if_pos h2, e _ iq.1 iq.2.1, if_neg (fun e => by have := h.inj hq hp e; omega), if_pos rfl]
        exact ⟨iq.1, iq.2.1, by rw [h2]⟩
      · rw [if_neg h2, e _ ix.1 ix.2.1, if_neg (fun e => h2 (h.inj hx hp e)), if_neg (fun e => h1 (h.inj hx hq e))]
        exact ix
  · by_cases hH : Held O (i : Int)
    · exact .inr ((held_swap O p q hp hq (i : Int)).2 hH)
    · rcases h.place i hi with h0 | h0
      · refine .inl ?_
        unfold placeL
        rw [getD_set _ _ _ _ (by rw [List.length_set]; omega), getD_set _ _ _ _ (by omega), if_neg (fun e => hH ⟨p, hp, by omega⟩), if_neg (fun e => hH ⟨q, hq, by omega⟩)]
        exact h0
      · exact absurd h0 hH

theorem Placed.zero {N : Nat} {P O : List Int} (h : Placed N P O) {i : Nat} (hi : i < N) : P.getD i 0 = 0 ↔ ¬ Held O (i : Int) := by
  constructor
  · rintro h0 ⟨p, hp, he⟩
    have := (h.item p hp).2.2
    rw [he, Int.toNat_natCast, h0] at this
    omega
  · intro hn
    rcases h.place i hi with h0 | h0
    · exact h0
    · exact absurd h0 hn

/-- One item more, behind the others. -/
theorem Placed.push {N : Nat} {P O : List Int} (h : Placed N P O) {i : Nat} (hi : i < N) (hn : ¬ Held O (i : Int)) : Placed N (P.set i ((O.length : Int) + 1)) (O ++ [(i : Int)]) := by
  have hl := h.len
  refine ⟨by simp [h.len], fun x hx => ?_, fun j hj => ?_⟩
  · rw [getD_set _ _ _ _ (by omega)]
    by_cases h1 : x < O.length
    · have ix := h.item x h1
      have e : (O ++ [(i : Int)]).getD x 0 = O.getD x 0 := by simp [List.getD_eq_getElem?_getD, List.getElem?_append_left h1]
      rw [e, if_neg (fun e => hn ⟨x, h1, by omega⟩)]
      exact ix
    · have : x = O.length := by simp at hx; omega
      subst this
      have e : (O ++ [(i : Int)]).getD O.length 0 = i := by simp
      rw [e, Int.toNat_natCast, if_pos rfl]
      exact ⟨by omega, by omega, rfl⟩
  · rw [getD_set _ _ _ _ (by omega)]
    by_cases hji : j = i
    · exact .inr ⟨O.length, by simp, by simp [hji]⟩
    · rw [if_neg hji]
      rcases h.place j hj with h0 | ⟨p, hp, he⟩
      · exact .inl h0
      · exact .inr ⟨p, by simp; omega, by simp [List.getD_eq_getElem?_getD, List.getElem?_append_left hp] at he ⊢; exact he⟩
theorem held_push (O : List Int) (i j : Int) : Held (O ++ [i]) j ↔ j = i ∨ Held O j := by
  constructor
  · rintro ⟨p, hp, rfl⟩
    by_cases h1 : p < O.length
    · exact .inr ⟨p, h1, by simp [List.getD_eq_getElem?_getD, List.getElem?_append_left h1]⟩
    · have : p = O.length := by simp at hp; omega
      subst this
      exact .inl (by simp)
  · rintro (rfl | ⟨p, hp, rfl⟩)
    · exact ⟨O.length, by simp, by simp⟩
    · exact ⟨p, by simp; omega, by simp [List.getD_eq_getElem?_getD, List.getElem?_append_left hp]⟩

/-- The last item goes. -/
theorem take_get (O : List Int) (m x : Nat) (h : x < m) : (O.take m).getD x 0 = O.getD x 0 := by
  simp [List.getD_eq_getElem?_getD, h]
theorem Placed.pop {N : Nat} {P O : List Int} {m : Nat} (h : Placed N P O) (hm : O.length = m + 1) : Placed N (P.set (O.getD m 0).toNat 0) (O.take m) := by
  have hl := h.len
  have im := h.item m (by omega)
  refine ⟨by simp [h.len], fun x hx => ?_, fun j hj => ?_⟩
  · have hx' : x < m := by simp at hx; omega
    rw [take_get O m x hx', getD_set _ _ _ _ (by omega)]
    have ix := h.item x (by omega)
    rw [if_neg (fun e => by have := h.inj (p := x) (q := m) (by omega) (by omega) (by omega); omega)]
    exact ix
  · rw [getD_set _ _ _ _ (by omega)]
    by_cases hjm : j = (O.getD m 0).toNat
    · exact .inl (if_pos hjm)
    · rw [if_neg hjm]
      rcases h.place j hj with h0 | ⟨p, hp, he⟩
      · exact .inl h0
      · have : p ≠ m := fun e => hjm (by rw [← e, he]; rfl)
        exact .inr ⟨p, by simp; omega, by rw [take_get O m p (by omega)]; exact he⟩
theorem held_pop {N : Nat} {P O : List Int} {m : Nat} (h : Placed N P O) (hm : O.length = m + 1) (j : Int) : Held (O.take m) j ↔ Held O j ∧ j ≠ O.getD m 0 := by
  constructor
  · rintro ⟨p, hp, rfl⟩
    have hp' : p < m := by simp at hp; omega
    rw [take_get O m p hp']
    exact ⟨⟨p, by omega, rfl⟩, fun e => by have := h.inj (p := p) (q := m) (by omega) (by omega) e; omega⟩
  · rintro ⟨⟨p, hp, rfl⟩, hne⟩
    have : p ≠ m := fun e => hne (by rw [e])
    exact ⟨p, by simp; omega, take_get O m p (by omega)⟩
theorem pigeon : ∀ (N m : Nat) (f : Nat → Nat), (∀ p, p < m → f p < N) → (∀ p q, p < m → q < m → f p = f q → p = q) → m ≤ N
  | 0, m, f, h, _ => by
    rcases Nat.eq_zero_or_pos m with h0 | h0
    · omega
    · have := h 0 h0; omega
  | N + 1, m, f, h, hi => by
    by_cases hx : ∃ p, p < m ∧ f p = N
    · obtain ⟨p0, hp0, he⟩ := hx
      have := pigeon N (m - 1) (fun p => if p = p0 then f (m - 1) else f p) (fun p hp => by
        by_cases e : p = p0
        · simp only [e, if_true]
          have h1 := h (m - 1) (by omega)
          have h2 : f (m - 1) ≠ N := fun e' => by have := hi (m - 1) p0 (by omega) hp0 (by omega); omega
          omega
        · simp only [e, if_false]
          have h1 := h p (by omega)
          have h2 : f p ≠ N := fun e' => e (hi p p0 (by omega) hp0 (by omega))
          omega) (fun p q hp hq hpq => by
        by_cases e : p = p0 <;> by_cases e' : q = p0
        · omega
        · simp only [e, e', if_true, if_false] at hpq
          have := hi (m - 1) q (by omega) (by omega) hpq
          omega
        · simp only [e, e', if_true, if_false] at hpq
          have := hi p (m - 1) (by omega) (by omega) hpq
          omega
        · simp only [e, e', if_false] at hpq
          exact hi p q (by omega) (by omega) hpq)
      omega
    · have := pigeon N m f (fun p hp => by
        have h1 := h p hp
        have h2 : f p ≠ N := fun e => hx ⟨p, hp, e⟩
        omega) hi
      omega
theorem placed_len {N : Nat} {P O : List Int} (h : Placed N P O) : O.length ≤ N :=
  pigeon N O.length (fun p => (O.getD p 0).toNat) (fun p hp => by have := h.item p hp; omega) (fun p q hp hq e => by
    have h1 := h.item p hp
    have h2 := h.item q hq

    exact h.inj hp hq (by omega))
end Heap
end Go.Proofs.YtbpgndbjbaoolaaGreat

/- Contracts of package heap: before, swap, settle, take, Set, Key, Pop. -/
namespace Go.Proofs.YtbpgndbjbaoolaaGreat
set_option linter.unusedVariables false
set_option linter.unusedSimpArgs false
namespace PW
open Go.RowKit Reg Mem Net Heap

/-- The store of a caller with a heap: d: a block of its own; the heap; its three rows. true: the third row has been laid anew. -/
def hsto (b : Bool) (d : Option Blk) (N n : Nat) (K P O : List Int) : Sto :=
  match b with
  | false => [d, some (.cells 174 [.own 2, .own 3, .own 4]), some (.row 3 1 N (intsP K)), some (.row 3 1 N (intsP P)), some (.row 3 1 n (intsP O))]
  | true => [d, some (.cells 174 [.own 2, .own 3, .own 5]), some (.row 3 1 N (intsP K)), some (.row 3 1 N (intsP P)), none, some (.row 3 1 n (intsP O))]
/-- A block that leads to no other. -/
def PureB : Blk → Prop
  | .cells _ xs => IsPureL xs
  | .row _ _ _ xs => IsPureL xs
  | .mp kv => IsPureL (kv.map (·.2))
def PureD (d : Option Blk) : Prop := ∀ b, d = some b → PureB b
theorem SRen.same {fs : List Nat} {σ σ' : Sto} {js : List Nat} {j : Nat} {d : Option Blk} (hd : PureD d) (h : σ[j]? = some d) (hs : SRen fs σ σ' js) : SRen fs σ (d :: σ') (j :: js) := by
  cases d with
  | none => exact .gone hs
  | some b =>
    have hb := hd b rfl
    cases b with
    | cells ty xs => haveI : IsPureL xs := hd _ rfl; exact .kept h (.cells RenL.pure) hs
    | row e s n xs => haveI : IsPureL xs := hd _ rfl; exact .kept h (.row RenL.pure) hs
    | mp kv => haveI : IsPureL (kv.map (·.2)) := hd _ rfl; exact .kept h .mp hs
def hpin (K P O : List Int) : PV := .pin [intsV K, intsV P, intsV O] 0
theorem pur_heap (b : Bool) (d : Option Blk) {N n : Nat} {K P O : List Int} (hK : K.length = N) (hP : P.length = N) (hO : O.length = n) : Pur (hsto b d N n K P O) (.ptr 1 0) (hpin K P O) := by
  subst hK; subst hO
  unfold hpin intsV
  rw [hP]
  cases b <;> exact Pur.ptrL rfl (PurL.cons (Pur.ownL rfl PurL.pure) (PurL.cons (Pur.ownL rfl PurL.pure) (PurL.cons (Pur.ownL rfl PurL.pure) PurL.nil)))
theorem placed_lt {N : Nat} {P O : List Int} (h : Placed N P O) {p : Nat} (hp : p < O.length) : ∃ i : Nat, O.getD p 0 = (i : Int) ∧ i < N := by
  obtain ⟨h1, h2, _⟩ := h.item p hp
  exact ⟨(O.getD p 0).toNat, by omega, by omega⟩

set_option maxRecDepth 10000 in
set_option maxHeartbeats 1000000 in
theorem before_can {N : Nat} (K P O : List Int) (hP : Placed N P O) (hK : K.length = N) (hN : N ≤ 65536) (p q : Nat) (hp : p < O.length) (hq : q < O.length) :
    Can Tryz.prog 171 [hpin K P O, num p, num q] (· = flag (decide (rk K O p < rk K O q))) := by
  obtain ⟨i, hi, hi'⟩ := placed_lt hP hp
  obtain ⟨j, hj, hj'⟩ := placed_lt hP hq
  have hr : decide (rk K O p < rk K O q) = if K.getD i 0 = K.getD j 0 then decide ((i : Int) < (j : Int)) else decide (K.getD i 0 < K.getD j 0) := by
    unfold rk
    rw [hi, hj, rank_lt (by omega) (by omega) (by omega) (by omega), Int.toNat_natCast, Int.toNat_natCast]
  refine can_of Tryz.func171 rfl Tryz.ntmps171 rfl ?_
  refine W_cs (.a 1 rfl <| .k [0, 1, 2] rfl) ?_
  refine W_drs mixed (by kernel_rfl) (.a 5 rfl <| .v [12, 13] (y_ix (p) rfl) rfl rfl <| .v [14] (y_ld rfl ((ints_get O p hp).trans (by rw [hi]))) rfl rfl <| .a 5 rfl <| .v [19, 20] (y_ix (q) rfl) rfl rfl <| .v [21] (y_ld rfl ((ints_get O q hq).trans (by rw [hj]))) rfl rfl <| .a 2 rfl <| .k [0, 7, 8] rfl) ?_
  refine W_seq ?_
  refine W_drs mixed (by kernel_rfl) (.a 5 rfl <| .v [26, 27] (y_ix (i) rfl) rfl rfl <| .v [28] (y_ld rfl (ints_get K i (by omega))) rfl rfl <| .a 5 rfl <| .v [33, 34] (y_ix (j) rfl) rfl rfl <| .v [35] (y_ld rfl (ints_get K j (by omega))) rfl rfl <| .a 1 rfl <| .k [0, 7, 8, 37] rfl) ?_
  refine W_cond rfl (fun hc => ?_) (fun hc => ?_)
  · have := of_decide_eq_true hc
    rw [if_neg this] at hr
    refine W_drs mixed (by kernel_rfl) (.a 5 rfl <| .v [41, 42] (y_ix (i) rfl) rfl rfl <| .v [43] (y_ld rfl (ints_get K i (by omega))) rfl rfl <| .a 5 rfl <| .v [48, 49] (y_ix (j) rfl) rfl rfl <| .v [50] (y_ld rfl (ints_get K j (by omega))) rfl rfl <| .a 2 rfl <| .k [6] rfl) ?_
    refine W_ret ?_
    exact ⟨_, _, ResL.of rfl, Pur.pure, by rw [hr]; rfl⟩
  · have := of_decide_eq_false hc
    rw [if_pos (by simpa using this)] at hr
    refine W_skip ?_
    refine W_cs (.a 4 rfl <| .k [6] rfl) ?_
    refine W_ret ?_
    exact ⟨_, _, ResL.of rfl, Pur.pure, by rw [hr]; rfl⟩

set_option maxRecDepth 10000 in
set_option maxHeartbeats 1000000 in
theorem swap_can {N n : Nat} (b : Bool) (d : Option Blk) (K P O : List Int) (hP : Placed N P O) (hO : O.length = n) (hN : N ≤ 65536) (p q : Nat) (hp : p < O.length) (hq : q < O.length) :
    CanS Tryz.prog 172 [.ptr 1 0, num p, num q] (hsto b d N n K P O) (fun _ σ' => σ' = hsto b d N n K (placeL P O p q) (swapL O p q)) := by
  obtain ⟨i, hi, hi'⟩ := placed_lt hP hp
  obtain ⟨j, hj, hj'⟩ := placed_lt hP hq
  have hlen := placed_len hP
  have hPl := hP.len
  have gp : (swapL O p q).getD p 0 = j := by
    rw [swapL_get O p q p hp hq]
    by_cases h : p = q
    · rw [if_pos h]; subst h; omega
    · rw [if_neg h, if_pos rfl, hj]
  have gq : (swapL O p q).getD q 0 = i := by rw [swapL_get O p q q hp hq, if_pos rfl, hi]
  have hsw : swapL O p q = (O.set p (j : Int)).set q (i : Int) := by unfold swapL; rw [hi, hj]
  rw [hsw] at gp gq
  refine canS_of Tryz.func172 rfl Tryz.ntmps172 rfl ?_
  cases b
  all_goals
    refine W_dfs 25 8 mixed (
      .val [0] rfl (y_a rfl) rfl rfl <|
      .val [6] rfl (y_a rfl) rfl rfl <|
      .val [7] rfl (y_a rfl) rfl rfl <|
      .val [8] rfl (y_a rfl) rfl rfl <|
      .val [1] rfl (y_a rfl) rfl rfl <|
      .val [0] rfl (y_a rfl) rfl rfl <|
      .val [11] rfl (y_a rfl) rfl rfl <|
      .val [12] rfl (y_a rfl) rfl rfl <|
      .val [13] rfl (y_a rfl) rfl rfl <|
      .late [2] rfl (r_move rfl rfl) inferInstance rfl rfl <|
      .val [0] rfl (y_a rfl) rfl rfl <|
      .val [16] rfl (y_a rfl) rfl rfl <|
      .val [17] rfl (y_a rfl) rfl rfl <|
      .val [18] rfl (y_a rfl) rfl rfl <|
      .val [2] rfl (y_a rfl) rfl rfl <|
      .val [19, 20] rfl (y_ix (q) rfl) rfl rfl <|
      .val [21] rfl (y_ld rfl ((ints_get O q hq).trans (by rw [hj]))) rfl rfl <|
      .val [0] rfl (y_a rfl) rfl rfl <|
      .val [23] rfl (y_a rfl) rfl rfl <|
      .val [24] rfl (y_a rfl) rfl rfl <|
      .val [25] rfl (y_a rfl) rfl rfl <|
      .val [1] rfl (y_a rfl) rfl rfl <|
      .val [26, 27] rfl (y_ix (p) rfl) rfl rfl <|
      .val [28] rfl (y_ld rfl ((ints_get O p hp).trans (by rw [hi]))) rfl rfl <|
      .val [9, 10] rfl (y_ix (p) rfl) rfl rfl <|
      .nil) (by kernel_rfl) rfl rfl (keepT_sub (ks := [0, 1, 2, 14, 15, 22, 29, 30]) rfl) ?_
    refine WR_loud0 ((by first | exact l_storeInts rfl (fok.tk.get rfl) rfl rfl rfl (by first | omega | (simp; omega)) | exact l_storeBools rfl (fok.tk.get rfl) rfl rfl rfl (by first | omega | (simp; omega)))) rfl rfl <| WR_v (y_ix (q) rfl) rfl <| WR_loud0 ((by first | exact l_storeInts rfl (fok.tk.get rfl) rfl rfl rfl (by first | omega | (simp; omega)) | exact l_storeBools rfl (fok.tk.get rfl) rfl rfl rfl (by first | omega | (simp; omega)))) rfl rfl <| WR_k [0, 1, 2] rfl ?_
    refine W_dfs 14 8 mixed (
      .val [0] rfl (y_a rfl) rfl rfl <|
      .val [32] rfl (y_a rfl) rfl rfl <|
      .val [33] rfl (y_a rfl) rfl rfl <|
      .val [34] rfl (y_a rfl) rfl rfl <|
      .val [0] rfl (y_a rfl) rfl rfl <|
      .val [36] rfl (y_a rfl) rfl rfl <|
      .val [37] rfl (y_a rfl) rfl rfl <|
      .val [38] rfl (y_a rfl) rfl rfl <|
      .val [1] rfl (y_a rfl) rfl rfl <|
      .val [39, 40] rfl (y_ix (p) rfl) rfl rfl <|
      .val [41] rfl (y_ld rfl ((ints_get ((O.set p (j : Int)).set q (i : Int)) p (by simpa using hp)).trans (by rw [gp]))) rfl rfl <|
      .val [1] rfl (y_a rfl) rfl rfl <|
      .val [43] rfl (y_ar rfl) rfl rfl <|
      .val [35, 42] rfl (y_ix (j) rfl) rfl rfl <|
      .nil) (by kernel_rfl) rfl rfl (keepT_sub (ks := [0, 2, 44, 45]) rfl) ?_
    refine WR_loud0 ((by first | exact l_storeInts rfl (fok.tk.get rfl) rfl rfl rfl (by first | omega | (simp; omega)) | exact l_storeBools rfl (fok.tk.get rfl) rfl rfl rfl (by first | omega | (simp; omega)))) rfl rfl <| WR_k [0, 2] rfl ?_
    refine W_drawFlt 14 8 mixed (
      .val [0] rfl (y_a rfl) rfl rfl <|
      .val [46] rfl (y_a rfl) rfl rfl <|
      .val [47] rfl (y_a rfl) rfl rfl <|
      .val [48] rfl (y_a rfl) rfl rfl <|
      .val [0] rfl (y_a rfl) rfl rfl <|
      .val [50] rfl (y_a rfl) rfl rfl <|
      .val [51] rfl (y_a rfl) rfl rfl <|
      .val [52] rfl (y_a rfl) rfl rfl <|
      .val [2] rfl (y_a rfl) rfl rfl <|
      .val [53, 54] rfl (y_ix (q) rfl) rfl rfl <|
      .val [55] rfl (y_ld rfl ((ints_get ((O.set p (j : Int)).set q (i : Int)) q (by simpa using hq)).trans (by rw [gq]))) rfl rfl <|
      .val [2] rfl (y_a rfl) rfl rfl <|
      .val [57] rfl (y_ar rfl) rfl rfl <|
      .val [49, 56] rfl (y_ix (i) rfl) rfl rfl <|
      .nil) (by kernel_rfl) rfl rfl (keepT_sub (ks := [58, 59]) rfl) ?_
    refine WR_loud0 ((by first | exact l_storeInts rfl (fok.tk.get rfl) rfl rfl rfl (by first | omega | (simp; omega)) | exact l_storeBools rfl (fok.tk.get rfl) rfl rfl rfl (by first | omega | (simp; omega)))) rfl rfl <| WR_k [] rfl ?_
    refine ⟨_, ResL.of rfl, ?_⟩
    unfold placeL
    rw [hi, hj, hsw]
    rfl

theorem tdiv2 (p : Nat) (h : 0 < p) : ((p : Int) - 1).tdiv 2 = ((par p : Nat) : Int) := by
  rw [Int.tdiv_eq_ediv_of_nonneg (by omega)]; unfold par; omega
theorem purArgs {σ : Sto} {K P O : List Int} (h : Pur σ (.ptr 1 0) (hpin K P O)) (p q : Int) : PurL σ ([.ptr 1 0, num p, num q] ++ []) [hpin K P O, num p, num q] := PurL.cons h (PurL.cons Pur.pure (PurL.cons Pur.pure PurL.nil))

set_option maxRecDepth 10000 in
set_option maxHeartbeats 1000000 in
theorem settle_can {N n : Nat} (b : Bool) (d : Option Blk) (K P O : List Int) (hP : Placed N P O) (hO : O.length = n) (hK : K.length = N) (hN : N ≤ 65536) (p : Nat) (hp : p < n) (hL : Loose (rk K O) n p) :
    CanS Tryz.prog 165 [.ptr 1 0, num p] (hsto b d N n K P O) (fun _ σ' => ∃ P' O', σ' = hsto b d N n K P' O' ∧ Placed N P' O' ∧ O'.length = n ∧ Heapy (rk K O') n ∧ ∀ i, Held O' i ↔ Held O i) := by
  have hlen := placed_len hP
  refine canS_of Tryz.func165 rfl Tryz.ntmps165 rfl ?_
  cases b
  all_goals
    refine W_seq ?_
    refine W_block ?_
    refine W_k [0, 1] rfl ?_
    refine W_loop (fun r s => ∃ P' O' p', Placed N P' O' ∧ O'.length = n ∧ Loose (rk K O') n p' ∧ p' < n ∧ (∀ i, Held O' i ↔ Held O i) ∧ r = p' ∧ s = ⟨[(0, .ptr 1 0), (1, num p')], hsto _ d N n K P' O'⟩) p ⟨P, O, p, hP, hO, hL, hp, fun _ => Iff.rfl, rfl, rfl⟩ ?_
    rintro r s ⟨P', O', p', hP', hO', hL', hp', hH', rfl, rfl⟩
    refine W_seq ?_
    obtain ⟨q1, hq1⟩ : ∃ q, decide ((0 : Int) < (r : Int)) = q := ⟨_, rfl⟩
    obtain ⟨q2, hq2⟩ : ∃ q, decide (rk K O' r < rk K O' (par r)) = q := ⟨_, rfl⟩
    refine W_csK 15 (.raw (.bool (q1 && q2))) [0, 1] rfl ?_ ?_
    · refine .a 1 rfl <| .v (y_q rfl (hq1)) rfl <| .a 1 rfl <| ?_
      cases q1
      · exact .a 7 rfl <| .k [15, 0, 1] rfl
      · exact .a 3 rfl <| .v (y_ar rfl) rfl <| .v (y_quo rfl rfl rfl (by decide) (tdiv2 r (by have := of_decide_eq_true hq1; omega)) (by unfold In64 par; omega)) rfl <| .v (y_cV rfl (purArgs (pur_heap _ d hK hP'.len hO') _ _) (hq2 ▸ before_can K P' O' hP' hK hN r (par r) (by omega) (by have := of_decide_eq_true hq1; have := par_lt (q := r) (by omega); omega))) rfl <| .a 1 rfl <| .k [15, 0, 1] rfl
    refine W_cond rfl (fun hc => ?_) (fun hc => ?_)
    · obtain ⟨c1, c2⟩ := Bool.and_eq_true_iff.1 hc
      rw [c1] at hq1
      rw [c2] at hq2
      have hr0 : 0 < r := by have := of_decide_eq_true hq1; omega
      have hlt := of_decide_eq_true hq2
      have hpl := par_lt hr0
      refine W_skip ?_
      refine W_block ?_
      refine W_rs ?_
      refine WR_a 3 rfl <| WR_v (y_ar rfl) rfl <| WR_v (y_quo rfl rfl rfl (by decide) (tdiv2 r hr0) (by unfold In64; omega)) rfl <| WR_cS rfl rfl (CanS.mono (swap_can _ d K P' O' hP' hO' hN r (par r) (by omega) (by omega)) (fun _ σ' h => ?_))
      subst h
      refine WR_k [0, 1] rfl ?_
      refine W_chain (.a 1 rfl <| .v (y_ar rfl) rfl <| .v (y_quo rfl rfl rfl (by decide) (tdiv2 r hr0) (by unfold In64; omega)) rfl <| .a 1 rfl <| .k [0, 1] rfl) ?_
      refine ⟨par r, hpl, placeL P' O' r (par r), swapL O' r (par r), par r, hP'.swap (by omega) (by omega), by rw [swapL_len]; exact hO', ?_, by omega, fun i => (held_swap O' r (par r) (by omega) (by omega) i).trans (hH' i), rfl, rfl⟩
      rw [rk_swap K O' r (par r) (by omega) (by omega)]
      exact loose_up hL' hr0 hp' hlt
    · have hdn : Downy (rk K O') n r := loose_down hL' (by
        by_cases h0 : r = 0
        · exact .inl h0
        · refine .inr ?_
          have h1 : q1 = true := by rw [← hq1]; simp; omega
          rw [h1] at hc
          simp only [Bool.true_and] at hc
          rw [hc] at hq2
          have := of_decide_eq_false hq2
          omega)
      clear hL' hq1 hq2 hc
      refine W_exit ?_
      refine W_block ?_
      refine W_k [0, 1] rfl ?_
      refine W_loop (fun r s => ∃ P' O' p', Placed N P' O' ∧ O'.length = n ∧ Downy (rk K O') n p' ∧ p' < n ∧ (∀ i, Held O' i ↔ Held O i) ∧ r = n - p' ∧ s = ⟨[(0, .ptr 1 0), (1, num p')], hsto _ d N n K P' O'⟩) (n - r) ⟨P', O', r, hP', hO', hdn, hp', hH', rfl, rfl⟩ ?_
      clear hP' hO' hdn hH' P' O' hp' r
      rintro r s ⟨P', O', p', hP', hO', hdn, hp', hH', rfl, rfl⟩
      refine W_block ?_
      refine W_cs (.a 2 rfl <| .k [0, 1, 4] rfl) ?_
      refine W_seq ?_
      refine W_cs (.a 1 rfl <| .v (y_ar rfl) rfl <| .v (y_ar rfl) rfl <| .a 1 rfl <| .k [0, 1, 4, 5] rfl) ?_
      refine W_block ?_
      refine W_k [0, 1, 4, 5] rfl ?_
      refine W_loop (fun r s => ∃ c l, 2 * p' + 1 ≤ c ∧ c ≤ 2 * p' + 3 ∧ r = 2 * p' + 3 - c ∧ l < n ∧ (l = p' ∨ (par l = p' ∧ 0 < l ∧ rk K O' l < rk K O' p')) ∧ (∀ x, 2 * p' + 1 ≤ x → x < c → x < n → rk K O' l ≤ rk K O' x) ∧ s = ⟨[(0, .ptr 1 0), (1, num p'), (4, num l), (5, num c)], hsto _ d N n K P' O'⟩) 2 ⟨2 * p' + 1, p', by omega, by omega, by omega, hp', .inl rfl, fun x h1 h2 => by omega, rfl⟩ ?_
      rintro r s ⟨c, l, hc1, hc2, rfl, hl, hl2, hl3, rfl⟩
      refine W_seq ?_
      obtain ⟨q1, hq1⟩ : ∃ q, decide ((c : Int) ≤ 2 * (p' : Int) + 2) = q := ⟨_, rfl⟩
      obtain ⟨q2, hq2⟩ : ∃ q, decide ((c : Int) < (n : Int)) = q := ⟨_, rfl⟩
      refine W_csK 42 (.raw (.bool (q1 && q2))) [0, 1, 4, 5] rfl ?_ ?_
      · refine .a 2 rfl <| .v (y_ar rfl) rfl <| .v (y_ar rfl) rfl <| .v (y_q rfl (hq1)) rfl <| .a 1 rfl <| ?_
        cases q1
        · exact .a 8 rfl <| .k [42, 0, 1, 4, 5] rfl
        · exact .a 6 rfl <| .v (y_q rfl (hq2)) rfl <| .a 1 rfl <| .k [42, 0, 1, 4, 5] rfl
      refine W_cond rfl (fun hc => ?_) (fun hc => ?_)
      · obtain ⟨c1, c2⟩ := Bool.and_eq_true_iff.1 hc
        rw [c1] at hq1
        rw [c2] at hq2
        have hcn : c < n := by have := of_decide_eq_true hq2; omega
        have hc4 : c ≤ 2 * p' + 2 := by have := of_decide_eq_true hq1; omega
        have hpc : par c = p' := by unfold par; omega
        refine W_skip ?_
        refine W_seq ?_
        refine W_block ?_
        refine W_cs (.a 3 rfl <| .v (y_cV rfl (purArgs (pur_heap _ d hK hP'.len hO') _ _) (before_can K P' O' hP' hK hN c l (by omega) (by omega))) rfl <| .k [0, 1, 4, 5, 48] rfl) ?_
        refine W_cond rfl (fun hb => ?_) (fun hb => ?_)
        · have hb' := of_decide_eq_true hb
          refine W_chain (.a 2 rfl <| .k [0, 1, 4, 5] rfl) ?_
          refine W_chain (.a 1 rfl <| .v (y_ar rfl) rfl <| .a 1 rfl <| .k [0, 1, 4, 5] rfl) ?_
          first
            | exact ⟨2 * p' + 3 - (c + 1), by omega, c + 1, c, by omega, by omega, rfl, hcn, .inr ⟨hpc, by omega, by rcases hl2 with h | h; (rw [h] at hb'; exact hb'); omega⟩, fun x h1 h2 h3 => by by_cases e : x = c; (rw [e]; exact Int.le_refl _); (have := hl3 x h1 (by omega) h3; omega), rfl⟩
            | exact ⟨2 * p' + 3 - (c + 1), by omega, c + 1, l, by omega, by omega, rfl, hl, hl2, fun x h1 h2 h3 => by by_cases e : x = c; (rw [e]; omega); exact hl3 x h1 (by omega) h3, rfl⟩
        · have hb' := of_decide_eq_false hb
          refine W_skip ?_
          refine W_chain (.a 1 rfl <| .v (y_ar rfl) rfl <| .a 1 rfl <| .k [0, 1, 4, 5] rfl) ?_
          first
            | exact ⟨2 * p' + 3 - (c + 1), by omega, c + 1, c, by omega, by omega, rfl, hcn, .inr ⟨hpc, by omega, by rcases hl2 with h | h; (rw [h] at hb'; exact hb'); omega⟩, fun x h1 h2 h3 => by by_cases e : x = c; (rw [e]; exact Int.le_refl _); (have := hl3 x h1 (by omega) h3; omega), rfl⟩
            | exact ⟨2 * p' + 3 - (c + 1), by omega, c + 1, l, by omega, by omega, rfl, hl, hl2, fun x h1 h2 h3 => by by_cases e : x = c; (rw [e]; omega); exact hl3 x h1 (by omega) h3, rfl⟩
      · have hmin : ∀ x, 0 < x → x < n → par x = p' → rk K O' l ≤ rk K O' x := fun x h0 hx hpx => by
          refine hl3 x (by unfold par at hpx; omega) ?_ hx
          rcases Nat.lt_or_ge x c with h | h
          · exact h
          · exfalso
            have hx2 := par_kid h0 hpx
            have h1 : q1 = true := by rw [← hq1]; simp; omega
            rw [h1] at hc
            simp only [Bool.true_and] at hc
            rw [hc] at hq2
            have := of_decide_eq_false hq2
            omega
        clear hc hq1 hq2 hl3
        refine W_exit ?_
        refine W_seq ?_
        refine W_cs (.a 3 rfl <| .k [0, 1, 4, 52] rfl) ?_
        refine W_cond rfl (fun hc => ?_) (fun hc => ?_)
        · have hlp : l = p' := by have := of_decide_eq_true hc; omega
          refine W_ret ?_
          refine ⟨_, ResL.of rfl, P', O', rfl, hP', hO', ?_, hH'⟩
          refine downy_heap hdn fun x h0 hx hpx => ?_
          have := hmin x h0 hx hpx
          rw [hlp] at this
          exact this
        · have hlp : l ≠ p' := by have := of_decide_eq_false hc; omega
          obtain ⟨hlp1, hl0, hllt⟩ := hl2.resolve_left hlp
          refine W_skip ?_
          refine W_rs ?_
          refine WR_a 3 rfl <| WR_cS rfl rfl (CanS.mono (swap_can _ d K P' O' hP' hO' hN p' l (by omega) (by omega)) (fun _ σ' h => ?_))
          subst h
          refine WR_k [0, 4] rfl ?_
          refine W_chain (.a 2 rfl <| .k [0, 1] rfl) ?_
          have hpl := par_lt hl0
          refine ⟨n - l, by omega, placeL P' O' p' l, swapL O' p' l, l, hP'.swap (by omega) (by omega), by rw [swapL_len]; exact hO', ?_, hl, fun i => (held_swap O' p' l (by omega) (by omega) i).trans (hH' i), rfl, rfl⟩
          rw [rk_swap K O' p' l (by omega) (by omega)]
          exact downy_step hdn hl0 hl hlp1 hllt hmin

/-- Both laws of a heap. -/
def HOK (N n : Nat) (K P O : List Int) : Prop := Placed N P O ∧ O.length = n ∧ K.length = N ∧ Heapy (rk K O) n
set_option maxRecDepth 10000 in
set_option maxHeartbeats 1000000 in
/-- take(0): the first item goes; its key is 0 then. -/
theorem take_can {N n : Nat} (d : Option Blk) (hd : PureD d) (K P O : List Int) (h : HOK N (n + 1) K P O) (hN : N ≤ 65536) (i : Nat) (hi : O.getD 0 0 = (i : Int)) :
    CanS Tryz.prog 166 [.ptr 1 0, num 0] (hsto false d N (n + 1) K P O) (fun _ σ' => ∃ P' O', σ' = hsto true d N n (K.set i 0) P' O' ∧ HOK N n (K.set i 0) P' O' ∧ ∀ j, Held O' j ↔ Held O j ∧ j ≠ (i : Int)) := by
  obtain ⟨hP, hO, hK, hH⟩ := h
  have hlen := placed_len hP
  have hiN : i < N := by have := (hP.item 0 (by omega)).2.1; rw [hi] at this; omega
  have hPs := hP.swap (p := 0) (q := n) (by omega) (by omega)
  have hg : (swapL O 0 n).getD n 0 = (i : Int) := by rw [swapL_get O 0 n n (by omega) (by omega), if_pos rfl, hi]
  have hPp := hPs.pop (m := n) (by rw [swapL_len]; exact hO)
  rw [hg, Int.toNat_natCast] at hPp
  have hheld : ∀ j, Held ((swapL O 0 n).take n) j ↔ Held O j ∧ j ≠ (i : Int) := fun j => by
    rw [held_pop hPs (by rw [swapL_len]; exact hO) j, hg, held_swap O 0 n (by omega) (by omega)]
  have hOt : ((swapL O 0 n).take n).length = n := by rw [List.length_take, swapL_len]; omega
  have hPll : (placeL P O 0 n).length = N := hPs.len
  -- the ranks of what stays
  have hrk : ∀ x, x < n → x ≠ 0 → rk (K.set i 0) ((swapL O 0 n).take n) x = rk K O x := fun x hx hx0 => by
    unfold rk
    rw [take_get _ _ _ hx, swapL_get O 0 n x (by omega) (by omega), if_neg (by omega), if_neg hx0]
    unfold rank
    have hne : (O.getD x 0).toNat ≠ i := fun e => by
      have h1 := hP.item x (by omega)
      have := hP.inj (p := x) (q := 0) (by omega) (by omega) (by rw [hi]; omega)
      omega
    rw [getD_set _ _ _ _ (by omega), if_neg hne]
  have hloose : Loose (rk (K.set i 0) ((swapL O 0 n).take n)) n 0 := heapy_less hH hrk
  refine canS_of Tryz.func166 rfl Tryz.ntmps166 rfl ?_
  refine W_cs (.a 5 rfl <| .v (y_ar rfl (hc := (show (((n + 1 : Nat) : Int)) - 1 = (n : Int) by omega))) rfl <| .a 1 rfl <| .k [0, 1, 4] rfl) ?_
  refine W_cs (.a 5 rfl <| .v (y_ix (0) rfl) rfl <| .v (y_ld rfl ((ints_get O 0 (by omega)).trans (by rw [hi]))) rfl <| .a 1 rfl <| .k [0, 1, 4, 5] rfl) ?_
  refine W_rs ?_
  refine WR_a 3 rfl <| WR_cS rfl rfl (CanS.mono (swap_can false d K P O hP hO hN 0 n (by omega) (by omega)) (fun _ σ' h => ?_))
  subst h
  refine WR_k [0, 1, 4, 5] rfl ?_
  refine W_rs ?_
  refine WR_a 6 rfl <| WR_l (l_sliceHiOwn rfl (fok.el.get rfl) rfl rfl rfl rfl (by omega)) rfl <| WR_a 3 rfl ?_
  refine WR_ren [0, 1, 2, 3, 4, 5] (.c 0 <| .c 1 <| .c 4 <| .c 5 <| .nil) (.same hd rfl <| .kept rfl (.cells (RenL.c <| RenL.c <| RenL.c <| RenL.nil)) <| .kept rfl (.row RenL.pure) <| .kept rfl (.row RenL.pure) <| .gone <| .kept rfl (.rowP rfl (show (intsP (swapL O 0 n)).take (n * 1) = intsP ((swapL O 0 n).take n) by rw [Nat.mul_one]; unfold intsP; rw [List.map_take])) <| .nil) rfl rfl (WR_nil ?_)
  refine W_dfs 11 8 mixed (
    .val [0] rfl (y_a rfl) rfl rfl <|
    .val [32] rfl (y_a rfl) rfl rfl <|
    .val [33] rfl (y_a rfl) rfl rfl <|
    .val [34] rfl (y_a rfl) rfl rfl <|
    .val [5] rfl (y_a rfl) rfl rfl <|
    .val [0] rfl (y_a rfl) rfl rfl <|
    .val [37] rfl (y_a rfl) rfl rfl <|
    .val [38] rfl (y_a rfl) rfl rfl <|
    .val [39] rfl (y_a rfl) rfl rfl <|
    .late [5] rfl (r_move rfl rfl) inferInstance rfl rfl <|
    .val [35, 36] rfl (y_ix (i) rfl) rfl rfl <|
    .nil) (by kernel_rfl) rfl rfl (keepT_sub (ks := [0, 1, 4, 40, 41, 42]) rfl) ?_
  refine WR_loud0 ((by first | exact l_storeInts rfl (fok.tk.get rfl) rfl rfl rfl (by first | omega | (simp; omega)) | exact l_storeBools rfl (fok.tk.get rfl) rfl rfl rfl (by first | omega | (simp; omega)))) rfl rfl <| WR_v (y_ix (i) rfl) rfl <| WR_loud0 ((by first | exact l_storeInts rfl (fok.tk.get rfl) rfl rfl rfl (by first | omega | (simp; omega)) | exact l_storeBools rfl (fok.tk.get rfl) rfl rfl rfl (by first | omega | (simp; omega)))) rfl rfl <| WR_k [0, 1, 4] rfl ?_
  refine W_cs (.a 3 rfl <| .k [0, 1, 46] rfl) ?_
  refine W_cond rfl (fun hc => ?_) (fun hc => ?_)
  · have hn0 : 0 < n := by have := of_decide_eq_true hc; omega
    refine W_region ?_
    refine WR_a 2 rfl <| WR_cS rfl rfl (CanS.mono (settle_can true d (K.set i 0) ((placeL P O 0 n).set i 0) ((swapL O 0 n).take n) hPp hOt (by simpa using hK) hN 0 hn0 hloose) (fun _ σ' h => ?_))
    obtain ⟨P', O', rfl, h1, h2, h3, h4⟩ := h
    refine WR_k [] rfl ?_
    first
      | exact ⟨_, ResL.of rfl, P', O', rfl, ⟨h1, h2, by simpa using hK, h3⟩, fun j => (h4 j).trans (hheld j)⟩
      | exact ⟨_, ResL.of rfl, (placeL P O 0 n).set i 0, (swapL O 0 n).take n, rfl, ⟨hPp, hOt, by simpa using hK, fun q h0 hq => by omega⟩, hheld⟩
  · have hn0 : n = 0 := by have := of_decide_eq_false hc; omega
    refine W_skip ?_
    first
      | exact ⟨_, ResL.of rfl, P', O', rfl, ⟨h1, h2, by simpa using hK, h3⟩, fun j => (h4 j).trans (hheld j)⟩
      | exact ⟨_, ResL.of rfl, (placeL P O 0 n).set i 0, (swapL O 0 n).take n, rfl, ⟨hPp, hOt, by simpa using hK, fun q h0 hq => by omega⟩, hheld⟩

set_option maxRecDepth 10000 in
set_option maxHeartbeats 1000000 in
theorem key_can {N : Nat} (K P O : List Int) (hP : P.length = N) (hK : K.length = N) (hN : N ≤ 65536) (i : Nat) (hi : i < N) :
    Can Tryz.prog 158 [hpin K P O, num i] (· = .tuple [num (if P.getD i 0 = 0 then 0 else K.getD i 0), flag (!decide (P.getD i 0 = 0))]) := by
  refine can_of Tryz.func158 rfl Tryz.ntmps158 rfl ?_
  refine W_cs (.a 2 rfl <| .k [0, 1] rfl) ?_
  refine W_seq ?_
  obtain ⟨q1, hq1⟩ : ∃ q, decide ((i : Int) < 0) = q := ⟨_, rfl⟩
  obtain ⟨q2, hq2⟩ : ∃ q, decide ((K.length : Int) ≤ (i : Int)) = q := ⟨_, rfl⟩
  obtain ⟨q3, hq3⟩ : ∃ q, decide (P.getD i 0 = 0) = q := ⟨_, rfl⟩
  refine W_csK 30 (.raw (.bool (q1 || q2 || q3))) [0, 1] rfl ?_ ?_
  · refine .a 4 rfl <| .v (y_q rfl (hq1)) rfl <| .a 2 rfl <| ?_
    cases q1
    · refine .a 6 rfl <| .v (y_q rfl (hq2)) rfl <| .a 2 rfl <| ?_
      cases q2
      · exact .a 5 rfl <| .v (y_ix (i) rfl) rfl <| .v (y_ld rfl (ints_get P i (by omega))) rfl <| .v (y_q rfl (hq3)) rfl <| .a 1 rfl <| .k [30, 0, 1] rfl
      · exact .a 9 rfl <| .k [30, 0, 1] rfl
    · exact .a 18 rfl <| .k [30, 0, 1] rfl
  refine W_cond rfl (fun hc => ?_) (fun hc => ?_)
  · have h1 : q1 = false := by rw [← hq1]; simp
    have h2 : q2 = false := by rw [← hq2]; simp; omega
    rw [h1, h2] at hc
    simp only [Bool.false_or] at hc
    rw [hc] at hq3
    refine W_cs (.a 2 rfl <| .k [4, 5] rfl) ?_
    refine W_ret ?_
    refine ⟨_, _, ResL.of rfl, Pur.pure, ?_⟩
    rw [hq3]
    first
      | (rw [if_pos (of_decide_eq_true hq3)]; rfl)
      | (rw [if_neg (of_decide_eq_false hq3)]; rfl)
  · have hc3 : q3 = false := by revert hc; cases q3 <;> simp
    rw [hc3] at hq3
    refine W_skip ?_
    refine W_cs (.a 5 rfl <| .v (y_ix (i) rfl) rfl <| .v (y_ld rfl (ints_get K i (by omega))) rfl <| .a 2 rfl <| .k [4, 5] rfl) ?_
    refine W_ret ?_
    refine ⟨_, _, ResL.of rfl, Pur.pure, ?_⟩
    rw [hq3]
    first
      | (rw [if_pos (of_decide_eq_true hq3)]; rfl)
      | (rw [if_neg (of_decide_eq_false hq3)]; rfl)

set_option maxRecDepth 10000 in
set_option maxHeartbeats 1000000 in
theorem pop_can {N n : Nat} (d : Option Blk) (hd : PureD d) (K P O : List Int) (h : HOK N n K P O) (hN : N ≤ 65536) :
    CanS Tryz.prog 155 [.ptr 1 0] (hsto false d N n K P O) (fun r σ' => (n = 0 ∧ r = .tuple [num 0, num 0, flag false] ∧ σ' = hsto false d N n K P O) ∨
      ∃ (n' i : Nat) (P' O' : List Int), n = n' + 1 ∧ i < N ∧ O.getD 0 0 = (i : Int) ∧ r = .tuple [num i, num (K.getD i 0), flag true] ∧ σ' = hsto true d N n' (K.set i 0) P' O' ∧ HOK N n' (K.set i 0) P' O' ∧ ∀ j, Held O' j ↔ Held O j ∧ j ≠ (i : Int)) := by
  have h' := h
  obtain ⟨hP, hO, hK, hH⟩ := h'
  refine canS_of Tryz.func155 rfl Tryz.ntmps155 rfl ?_
  refine W_cs (.a 3 rfl <| .k [0] rfl) ?_
  refine W_seq ?_
  obtain ⟨q1, hq1⟩ : ∃ q, decide ((n : Int) = 0) = q := ⟨_, rfl⟩
  refine W_csK 14 (.raw (.bool (q1))) [0] rfl ?_ ?_
  · exact .a 8 rfl <| .v (y_q rfl (hq1)) rfl <| .a 1 rfl <| .k [14, 0] rfl
  refine W_cond rfl (fun hc => ?_) (fun hc => ?_)
  · have hn0 : n = 0 := by rw [hc] at hq1; have := of_decide_eq_true hq1; omega
    refine W_cs (.a 3 rfl <| .k [2, 3, 4] rfl) ?_
    refine W_ret ?_
    first
      | exact ⟨_, ResL.of rfl, .inl ⟨hn0, rfl, rfl⟩⟩
      | exact ⟨_, ResL.of rfl, .inr ⟨n', i, P', O', rfl, hiN, hi, rfl, rfl, h1, h2⟩⟩
  · have hn0 : n ≠ 0 := by rw [hc] at hq1; have := of_decide_eq_false hq1; omega
    obtain ⟨n', rfl⟩ : ∃ n', n = n' + 1 := ⟨n - 1, by omega⟩
    obtain ⟨i, hi, hiN⟩ := placed_lt hP (p := 0) (by omega)
    refine W_skip ?_
    refine W_cs (.a 4 rfl <| .v (y_ix (0) rfl) rfl <| .v (y_ld rfl ((ints_get O 0 (by omega)).trans (by rw [hi]))) rfl <| .a 1 rfl <| .k [0, 2] rfl) ?_
    refine W_cs (.a 5 rfl <| .v (y_ix (i) rfl) rfl <| .v (y_ld rfl (ints_get K i (by omega))) rfl <| .a 1 rfl <| .k [0, 2, 3] rfl) ?_
    refine W_rs ?_
    refine WR_a 1 rfl <| WR_cS rfl rfl (CanS.mono (take_can d hd K P O h hN i hi) (fun _ σ' h => ?_))
    obtain ⟨P', O', rfl, h1, h2⟩ := h
    refine WR_k [2, 3] rfl ?_
    refine W_cs (.a 5 rfl <| .k [2, 3, 4] rfl) ?_
    refine W_ret ?_
    first
      | exact ⟨_, ResL.of rfl, .inl ⟨hn0, rfl, rfl⟩⟩
      | exact ⟨_, ResL.of rfl, .inr ⟨n', i, P', O', rfl, hiN, hi, rfl, rfl, h1, h2⟩⟩

theorem place_of {N : Nat} {P O : List Int} (hP : Placed N P O) {i : Nat} (hi : i < N) (h : P.getD i 0 ≠ 0) : ∃ p, p < O.length ∧ O.getD p 0 = (i : Int) ∧ P.getD i 0 = (p : Int) + 1 := by
  rcases hP.place i hi with h0 | ⟨p, hp, he⟩
  · exact absurd h0 h
  · have := (hP.item p hp).2.2
    rw [he, Int.toNat_natCast] at this
    exact ⟨p, hp, he, this⟩
theorem rk_set {N : Nat} {K P O : List Int} (hP : Placed N P O) (hK : K.length = N) {i : Nat} (hi : i < N) (c : Int) {x : Nat} (hx : x < O.length) (hne : O.getD x 0 ≠ (i : Int)) : rk (K.set i c) O x = rk K O x := by
  unfold rk rank
  have h1 := hP.item x hx
  rw [getD_set _ _ _ _ (by omega), if_neg (by omega)]

set_option maxRecDepth 10000 in
set_option maxHeartbeats 1000000 in
theorem set_can {N n : Nat} (d : Option Blk) (hd : PureD d) (K P O : List Int) (h : HOK N n K P O) (hN : N ≤ 65536) (i : Nat) (hi : i < N) (key : Int) :
    CanS Tryz.prog 154 [.ptr 1 0, num i, num key] (hsto false d N n K P O) (fun r σ' => ∃ (b : Bool) (n' : Nat) (P' O' : List Int), σ' = hsto b d N n' (K.set i key) P' O' ∧ HOK N n' (K.set i key) P' O' ∧ ∀ j, Held O' j ↔ Held O j ∨ j = (i : Int)) := by
  obtain ⟨hP, hO, hK, hH⟩ := h
  have hlen := placed_len hP
  have hPl := hP.len
  refine canS_of Tryz.func154 rfl Tryz.ntmps154 rfl ?_
  refine W_cs (.a 1 rfl <| .k [0, 1, 2] rfl) ?_
  refine W_seq ?_
  refine W_cs (.a 2 rfl <| .k [0, 1, 2, 8] rfl) ?_
  refine W_cond rfl (fun hc => ?_) (fun hc => ?_)
  · cases hc
  · refine W_skip ?_
    refine W_seq ?_
    obtain ⟨q1, hq1⟩ : ∃ q, decide ((i : Int) < 0) = q := ⟨_, rfl⟩
    obtain ⟨q2, hq2⟩ : ∃ q, decide ((N : Int) ≤ (i : Int)) = q := ⟨_, rfl⟩
    refine W_csK 19 (.raw (.bool (q1 || q2))) [0, 1, 2] rfl ?_ ?_
    · refine .a 1 rfl <| .v (y_q rfl (hq1)) rfl <| .a 1 rfl <| ?_
      cases q1
      · exact .a 6 rfl <| .v (y_q rfl (hq2)) rfl <| .a 1 rfl <| .k [19, 0, 1, 2] rfl
      · exact .a 8 rfl <| .k [19, 0, 1, 2] rfl
    refine W_cond rfl (fun hc => ?_) (fun hc => ?_)
    · have h1 : q1 = false := by rw [← hq1]; simp
      have h2 : q2 = false := by rw [← hq2]; simp; omega
      rw [h1, h2] at hc
      cases hc
    · refine W_skip ?_
      refine W_rs ?_
      refine WR_a 6 rfl <| WR_v (y_ix (i) rfl) rfl <| WR_loud0 ((by first | exact l_storeInts rfl (fok.tk.get rfl) rfl rfl rfl (by first | omega | (simp; omega)) | exact l_storeBools rfl (fok.tk.get rfl) rfl rfl rfl (by first | omega | (simp; omega)))) rfl rfl <| WR_k [0, 1] rfl ?_
      refine W_seq ?_
      refine W_cs (.a 5 rfl <| .v (y_ix (i) rfl) rfl <| .v (y_ld rfl (ints_get P i (by omega))) rfl <| .a 1 rfl <| .k [0, 1, 34] rfl) ?_
      refine W_cond rfl (fun hc => ?_) (fun hc => ?_)
      · have hp0 : P.getD i 0 = 0 := of_decide_eq_true hc
        have hnh := (hP.zero hi).1 hp0
        have hPp := hP.push hi hnh
        have hOl : (O ++ [(i : Int)]).length = n + 1 := by simp [hO]
        rw [hO] at hPp
        have hPi2 : (P.set i ((n : Int) + 1)).getD i 0 = (n : Int) + 1 := by rw [getD_set _ _ _ _ (by omega), if_pos rfl]
        have hlt2 : i < (P.set i ((n : Int) + 1)).length := by simp; omega
        have hsb : ((n : Int) + 1) - 1 = (n : Int) := by omega
        have hnb : n < N := by have := placed_len hPp; simp at this; omega
        have hset := settle_can true d (K.set i key) (P.set i ((n : Int) + 1)) (O ++ [(i : Int)]) hPp hOl (by simpa using hK) hN n (by omega) (heapy_more hH fun q hq => by
          have e : (O ++ [(i : Int)]).getD q 0 = O.getD q 0 := by simp [List.getD_eq_getElem?_getD, List.getElem?_append_left (show q < O.length by omega)]
          have := rk_set hP hK hi key (x := q) (by omega) (fun e => hnh ⟨q, by omega, e⟩)
          unfold rk at this ⊢
          rw [e]; exact this)
        have hfin : ∀ j, Held (O ++ [(i : Int)]) j ↔ Held O j ∨ j = (i : Int) := fun j => (held_push O i j).trans Or.comm
        refine W_rs ?_
        refine WR_a 7 rfl <| WR_l (l_append rfl (fok.rk.get rfl) rfl rfl rfl rfl (by unfold maxLen; omega)) rfl <| WR_a 3 rfl ?_
        refine WR_ren [0, 1, 2, 3, 4, 5] (.c 0 <| .c 1 <| .nil) (.same hd rfl <| .kept rfl (.cells (RenL.c <| RenL.c <| RenL.c <| RenL.nil)) <| .kept rfl (.row RenL.pure) <| .kept rfl (.row RenL.pure) <| .gone <| .kept rfl (.rowP rfl (intsP_snoc _ _)) <| .nil) rfl rfl (WR_nil ?_)
        refine W_drawFlt 11 8 mixed (
          .val [0] rfl (y_a rfl) rfl rfl <|
          .val [45] rfl (y_a rfl) rfl rfl <|
          .val [46] rfl (y_a rfl) rfl rfl <|
          .val [47] rfl (y_a rfl) rfl rfl <|
          .val [1] rfl (y_a rfl) rfl rfl <|
          .val [0] rfl (y_a rfl) rfl rfl <|
          .val [50] rfl (y_a rfl) rfl rfl <|
          .val [51] rfl (y_a rfl) rfl rfl <|
          .val [52] rfl (y_a rfl) rfl rfl <|
          .val [53] rfl (y_a rfl) rfl rfl <|
          .val [48, 49] rfl (y_ix (i) rfl) rfl rfl <|
          .nil) (by kernel_rfl) rfl rfl (keepT_sub (ks := [0, 1, 54, 55]) rfl) ?_
        refine WR_loud0 ((by first | exact l_storeInts rfl (fok.tk.get rfl) rfl rfl rfl (by first | omega | (simp; omega)) | exact l_storeBools rfl (fok.tk.get rfl) rfl rfl rfl (by first | omega | (simp; omega)))) rfl rfl <| WR_k [0, 1] rfl ?_
        refine W_rs ?_
        refine WR_a 6 rfl <| WR_v (y_ix (i) rfl) rfl <| WR_v (y_ld rfl ((ints_get _ i hlt2).trans (congrArg (fun z => some (PV.raw (.int .i64 z))) hPi2))) rfl <| WR_v (y_ar rfl (hc := hsb)) rfl <| WR_cS rfl rfl (CanS.mono hset (fun _ σ' h => ?_))
        obtain ⟨P', O', rfl, h1, h2, h3, h4⟩ := h
        refine WR_k [] rfl ?_
        refine W_cs (.a 1 rfl <| .k [6] rfl) ?_
        refine W_ret ?_
        first
          | exact ⟨_, ResL.of rfl, true, _, P', O', rfl, ⟨h1, h2, by simpa using hK, h3⟩, fun j => (h4 j).trans (hfin j)⟩
          | exact ⟨_, ResL.of rfl, false, _, P', O', rfl, ⟨h1, h2, by simpa using hK, h3⟩, fun j => (h4 j).trans (hfin j)⟩
      · have hp0 : P.getD i 0 ≠ 0 := of_decide_eq_false hc
        obtain ⟨p, hp, hpi, hPi2⟩ := place_of hP hi hp0
        have hlt2 : i < P.length := by omega
        have hsb : ((p : Int) + 1) - 1 = (p : Int) := by omega
        have hset := settle_can false d (K.set i key) P O hP hO (by simpa using hK) hN p (by omega) (heapy_loose hH (fun q hq hqp => rk_set hP hK hi key (x := q) (by omega) (fun e => hqp (hP.inj (by omega) hp (by rw [e, hpi])))) (by omega))
        have hfin : ∀ j, Held O j ↔ Held O j ∨ j = (i : Int) := fun j => ⟨.inl, fun h => h.elim id fun e => ⟨p, hp, by rw [hpi, e]⟩⟩
        refine W_skip ?_
        refine W_rs ?_
        refine WR_a 6 rfl <| WR_v (y_ix (i) rfl) rfl <| WR_v (y_ld rfl ((ints_get _ i hlt2).trans (congrArg (fun z => some (PV.raw (.int .i64 z))) hPi2))) rfl <| WR_v (y_ar rfl (hc := hsb)) rfl <| WR_cS rfl rfl (CanS.mono hset (fun _ σ' h => ?_))
        obtain ⟨P', O', rfl, h1, h2, h3, h4⟩ := h
        refine WR_k [] rfl ?_
        refine W_cs (.a 1 rfl <| .k [6] rfl) ?_
        refine W_ret ?_
        first
          | exact ⟨_, ResL.of rfl, true, _, P', O', rfl, ⟨h1, h2, by simpa using hK, h3⟩, fun j => (h4 j).trans (hfin j)⟩
          | exact ⟨_, ResL.of rfl, false, _, P', O', rfl, ⟨h1, h2, by simpa using hK, h3⟩, fun j => (h4 j).trans (hfin j)⟩
end PW
end Go.Proofs.YtbpgndbjbaoolaaGreat

/- heap.New. -/
namespace Go.Proofs.YtbpgndbjbaoolaaGreat
set_option linter.unusedVariables false
set_option linter.unusedSimpArgs false
namespace PW
open Go.RowKit Reg Mem Net Heap

set_option maxRecDepth 10000 in
set_option maxHeartbeats 1000000 in
theorem new_can (N : Nat) (d : Option Blk) (hd : PureD d) (hN : N ≤ 65536) :
    CanS Tryz.prog 153 [num N] [d] (fun r σ' => r = .tuple [.ptr 1 0, num 0] ∧ σ' = hsto false d N 0 (List.replicate N 0) (List.replicate N 0) []) := by
  refine canS_of Tryz.func153 rfl Tryz.ntmps153 rfl ?_
  refine W_cs (.a 2 rfl <| .k [0] rfl) ?_
  obtain ⟨q1, hq1⟩ : ∃ q, decide ((N : Int) < 0) = q := ⟨_, rfl⟩
  obtain ⟨q2, hq2⟩ : ∃ q, decide ((65536 : Int) < (N : Int)) = q := ⟨_, rfl⟩
  refine W_seq ?_
  refine W_csK 9 (.raw (.bool (q1 || q2))) [0] rfl ?_ ?_
  · refine .a 1 rfl <| .v (y_q rfl (hq1)) rfl <| .a 1 rfl <| ?_
    cases q1
    · exact .a 1 rfl <| .v (y_q rfl (hq2)) rfl <| .a 1 rfl <| .k [9, 0] rfl
    · exact .a 3 rfl <| .k [9, 0] rfl
  have h1 : q1 = false := by rw [← hq1]; simp
  have h2 : q2 = false := by rw [← hq2]; simp; omega
  refine W_cond (b := q1 || q2) rfl (fun hc => ?_) (fun hc => ?_)
  · rw [h1, h2] at hc
    cases hc
  · clear hc hq1 hq2 h1 h2
    refine W_skip ?_
    refine W_orders1 mixed ?_
    have hfin : W Tryz.prog 16 1 .ret ⟨[(2, .ptr 1 0), (3, num 0)], hsto false d N 0 (List.replicate N 0) (List.replicate N 0) []⟩ (RetS Tryz.prog Tryz.f153 (fun r σ' => r = .tuple [.ptr 1 0, num 0] ∧ σ' = hsto false d N 0 (List.replicate N 0) (List.replicate N 0) [])) :=
      W_ret ⟨_, .cons (.tmp rfl) (.cons (.tmp rfl) .nil), rfl, rfl⟩
    refine WA_step 0 [2] (by kernel_rfl) ?_
    refine WAs_cons rfl rfl (WR_val (y_move rfl rfl) rfl rfl rfl (WR_nil ?_)) ?_
    · refine WA_step 1 [2] (by kernel_rfl) ?_
      refine WAs_cons rfl rfl (WR_loud (l_make rfl (fok.rk.get rfl) rfl rfl rfl rfl ⟨by unfold maxLen; omega, by omega⟩) rfl rfl rfl (WR_nil ?_)) ?_
      · refine WA_step 2 [] (by kernel_rfl) ?_
        refine WAs_cons rfl rfl (WR_val (y_move rfl rfl) rfl rfl rfl (WR_nil ?_)) WAs_nil
        refine WA_step 3 [] (by kernel_rfl) ?_
        refine WAs_cons rfl rfl (WR_loud (l_make rfl (fok.rk.get rfl) rfl rfl rfl rfl ⟨by unfold maxLen; omega, by omega⟩) rfl rfl rfl (WR_nil ?_)) WAs_nil
        refine WA_step 4 [] (by kernel_rfl) ?_
        refine WAs_cons rfl rfl (WR_val (y_build (xs := [_, _, _]) rfl (fok.st.get rfl) rfl rfl) rfl rfl rfl (WR_nil ?_)) WAs_nil
        refine WA_step 5 [] (by kernel_rfl) ?_
        refine WAs_cons rfl rfl (WR_loud (l_box rfl rfl rfl) rfl rfl rfl (WR_nil ?_)) WAs_nil
        refine WA_step 6 [] (by kernel_rfl) ?_
        refine WAs_cons rfl rfl (WR_val (y_assign rfl rfl) rfl rfl rfl (WR_nil ?_)) WAs_nil
        refine WA_step 7 [] (by kernel_rfl) ?_
        refine WAs_cons rfl rfl (WR_val (y_assign rfl rfl) rfl rfl rfl (WR_nil ?_)) WAs_nil
        refine WA_nil (by kernel_rfl) ?_
        refine W_adoptCell 3 2 3 1 rfl rfl ?_
        exact W_ren [0, 3, 1, 2, 4] (.cons 2 rfl (Ren.ptr (i := 1) rfl) <| .cons 3 rfl Ren.pure <| .nil) (.same hd rfl <| .kept rfl (.cells (RenL.cons (Ren.own (i := 2) rfl) <| RenL.cons (Ren.own (i := 3) rfl) <| RenL.cons (Ren.own (i := 4) rfl) RenL.nil)) <| .kept rfl (.rowP rfl (zeros_ints N)) <| .kept rfl (.rowP rfl (zeros_ints N)) <| .kept rfl (.row RenL.pure) <| .nil) rfl rfl hfin
      refine WAs_cons rfl rfl (WR_val (y_move rfl rfl) rfl rfl rfl (WR_nil ?_)) WAs_nil
      refine WA_step 1 [3] (by kernel_rfl) ?_
      refine WAs_cons rfl rfl (WR_loud (l_make rfl (fok.rk.get rfl) rfl rfl rfl rfl ⟨by unfold maxLen; omega, by omega⟩) rfl rfl rfl (WR_nil ?_)) ?_
      · refine WA_step 3 [] (by kernel_rfl) ?_
        refine WAs_cons rfl rfl (WR_loud (l_make rfl (fok.rk.get rfl) rfl rfl rfl rfl ⟨by unfold maxLen; omega, by omega⟩) rfl rfl rfl (WR_nil ?_)) WAs_nil
        refine WA_step 4 [] (by kernel_rfl) ?_
        refine WAs_cons rfl rfl (WR_val (y_build (xs := [_, _, _]) rfl (fok.st.get rfl) rfl rfl) rfl rfl rfl (WR_nil ?_)) WAs_nil
        refine WA_step 5 [] (by kernel_rfl) ?_
        refine WAs_cons rfl rfl (WR_loud (l_box rfl rfl rfl) rfl rfl rfl (WR_nil ?_)) WAs_nil
        refine WA_step 6 [] (by kernel_rfl) ?_
        refine WAs_cons rfl rfl (WR_val (y_assign rfl rfl) rfl rfl rfl (WR_nil ?_)) WAs_nil
        refine WA_step 7 [] (by kernel_rfl) ?_
        refine WAs_cons rfl rfl (WR_val (y_assign rfl rfl) rfl rfl rfl (WR_nil ?_)) WAs_nil
        refine WA_nil (by kernel_rfl) ?_
        refine W_adoptCell 3 2 3 1 rfl rfl ?_
        exact W_ren [0, 3, 1, 2, 4] (.cons 2 rfl (Ren.ptr (i := 1) rfl) <| .cons 3 rfl Ren.pure <| .nil) (.same hd rfl <| .kept rfl (.cells (RenL.cons (Ren.own (i := 2) rfl) <| RenL.cons (Ren.own (i := 3) rfl) <| RenL.cons (Ren.own (i := 4) rfl) RenL.nil)) <| .kept rfl (.rowP rfl (zeros_ints N)) <| .kept rfl (.rowP rfl (zeros_ints N)) <| .kept rfl (.row RenL.pure) <| .nil) rfl rfl hfin
      refine WAs_cons rfl rfl (WR_loud (l_make rfl (fok.rk.get rfl) rfl rfl rfl rfl ⟨by unfold maxLen; omega, by omega⟩) rfl rfl rfl (WR_nil ?_)) WAs_nil
      refine WA_step 1 [] (by kernel_rfl) ?_
      refine WAs_cons rfl rfl (WR_loud (l_make rfl (fok.rk.get rfl) rfl rfl rfl rfl ⟨by unfold maxLen; omega, by omega⟩) rfl rfl rfl (WR_nil ?_)) WAs_nil
      refine WA_step 4 [] (by kernel_rfl) ?_
      refine WAs_cons rfl rfl (WR_val (y_build (xs := [_, _, _]) rfl (fok.st.get rfl) rfl rfl) rfl rfl rfl (WR_nil ?_)) WAs_nil
      refine WA_step 5 [] (by kernel_rfl) ?_
      refine WAs_cons rfl rfl (WR_loud (l_box rfl rfl rfl) rfl rfl rfl (WR_nil ?_)) WAs_nil
      refine WA_step 6 [] (by kernel_rfl) ?_
      refine WAs_cons rfl rfl (WR_val (y_assign rfl rfl) rfl rfl rfl (WR_nil ?_)) WAs_nil
      refine WA_step 7 [] (by kernel_rfl) ?_
      refine WAs_cons rfl rfl (WR_val (y_assign rfl rfl) rfl rfl rfl (WR_nil ?_)) WAs_nil
      refine WA_nil (by kernel_rfl) ?_
      refine W_adoptCell 3 2 3 1 rfl rfl ?_
      exact W_ren [0, 3, 2, 1, 4] (.cons 2 rfl (Ren.ptr (i := 1) rfl) <| .cons 3 rfl Ren.pure <| .nil) (.same hd rfl <| .kept rfl (.cells (RenL.cons (Ren.own (i := 2) rfl) <| RenL.cons (Ren.own (i := 3) rfl) <| RenL.cons (Ren.own (i := 4) rfl) RenL.nil)) <| .kept rfl (.rowP rfl (zeros_ints N)) <| .kept rfl (.rowP rfl (zeros_ints N)) <| .kept rfl (.row RenL.pure) <| .nil) rfl rfl hfin
    refine WAs_cons rfl rfl (WR_val (y_move rfl rfl) rfl rfl rfl (WR_nil ?_)) WAs_nil
    refine WA_step 0 [3] (by kernel_rfl) ?_
    refine WAs_cons rfl rfl (WR_val (y_move rfl rfl) rfl rfl rfl (WR_nil ?_)) ?_
    · refine WA_step 1 [3] (by kernel_rfl) ?_
      refine WAs_cons rfl rfl (WR_loud (l_make rfl (fok.rk.get rfl) rfl rfl rfl rfl ⟨by unfold maxLen; omega, by omega⟩) rfl rfl rfl (WR_nil ?_)) ?_
      · refine WA_step 3 [] (by kernel_rfl) ?_
        refine WAs_cons rfl rfl (WR_loud (l_make rfl (fok.rk.get rfl) rfl rfl rfl rfl ⟨by unfold maxLen; omega, by omega⟩) rfl rfl rfl (WR_nil ?_)) WAs_nil
        refine WA_step 4 [] (by kernel_rfl) ?_
        refine WAs_cons rfl rfl (WR_val (y_build (xs := [_, _, _]) rfl (fok.st.get rfl) rfl rfl) rfl rfl rfl (WR_nil ?_)) WAs_nil
        refine WA_step 5 [] (by kernel_rfl) ?_
        refine WAs_cons rfl rfl (WR_loud (l_box rfl rfl rfl) rfl rfl rfl (WR_nil ?_)) WAs_nil
        refine WA_step 6 [] (by kernel_rfl) ?_
        refine WAs_cons rfl rfl (WR_val (y_assign rfl rfl) rfl rfl rfl (WR_nil ?_)) WAs_nil
        refine WA_step 7 [] (by kernel_rfl) ?_
        refine WAs_cons rfl rfl (WR_val (y_assign rfl rfl) rfl rfl rfl (WR_nil ?_)) WAs_nil
        refine WA_nil (by kernel_rfl) ?_
        refine W_adoptCell 3 2 3 1 rfl rfl ?_
        exact W_ren [0, 3, 1, 2, 4] (.cons 2 rfl (Ren.ptr (i := 1) rfl) <| .cons 3 rfl Ren.pure <| .nil) (.same hd rfl <| .kept rfl (.cells (RenL.cons (Ren.own (i := 2) rfl) <| RenL.cons (Ren.own (i := 3) rfl) <| RenL.cons (Ren.own (i := 4) rfl) RenL.nil)) <| .kept rfl (.rowP rfl (zeros_ints N)) <| .kept rfl (.rowP rfl (zeros_ints N)) <| .kept rfl (.row RenL.pure) <| .nil) rfl rfl hfin
      refine WAs_cons rfl rfl (WR_loud (l_make rfl (fok.rk.get rfl) rfl rfl rfl rfl ⟨by unfold maxLen; omega, by omega⟩) rfl rfl rfl (WR_nil ?_)) WAs_nil
      refine WA_step 1 [] (by kernel_rfl) ?_
      refine WAs_cons rfl rfl (WR_loud (l_make rfl (fok.rk.get rfl) rfl rfl rfl rfl ⟨by unfold maxLen; omega, by omega⟩) rfl rfl rfl (WR_nil ?_)) WAs_nil
      refine WA_step 4 [] (by kernel_rfl) ?_
      refine WAs_cons rfl rfl (WR_val (y_build (xs := [_, _, _]) rfl (fok.st.get rfl) rfl rfl) rfl rfl rfl (WR_nil ?_)) WAs_nil
      refine WA_step 5 [] (by kernel_rfl) ?_
      refine WAs_cons rfl rfl (WR_loud (l_box rfl rfl rfl) rfl rfl rfl (WR_nil ?_)) WAs_nil
      refine WA_step 6 [] (by kernel_rfl) ?_
      refine WAs_cons rfl rfl (WR_val (y_assign rfl rfl) rfl rfl rfl (WR_nil ?_)) WAs_nil
      refine WA_step 7 [] (by kernel_rfl) ?_
      refine WAs_cons rfl rfl (WR_val (y_assign rfl rfl) rfl rfl rfl (WR_nil ?_)) WAs_nil
      refine WA_nil (by kernel_rfl) ?_
      refine W_adoptCell 3 2 3 1 rfl rfl ?_
      exact W_ren [0, 3, 2, 1, 4] (.cons 2 rfl (Ren.ptr (i := 1) rfl) <| .cons 3 rfl Ren.pure <| .nil) (.same hd rfl <| .kept rfl (.cells (RenL.cons (Ren.own (i := 2) rfl) <| RenL.cons (Ren.own (i := 3) rfl) <| RenL.cons (Ren.own (i := 4) rfl) RenL.nil)) <| .kept rfl (.rowP rfl (zeros_ints N)) <| .kept rfl (.rowP rfl (zeros_ints N)) <| .kept rfl (.row RenL.pure) <| .nil) rfl rfl hfin
    refine WAs_cons rfl rfl (WR_loud (l_make rfl (fok.rk.get rfl) rfl rfl rfl rfl ⟨by unfold maxLen; omega, by omega⟩) rfl rfl rfl (WR_nil ?_)) WAs_nil
    refine WA_step 0 [] (by kernel_rfl) ?_
    refine WAs_cons rfl rfl (WR_val (y_move rfl rfl) rfl rfl rfl (WR_nil ?_)) WAs_nil
    refine WA_step 1 [] (by kernel_rfl) ?_
    refine WAs_cons rfl rfl (WR_loud (l_make rfl (fok.rk.get rfl) rfl rfl rfl rfl ⟨by unfold maxLen; omega, by omega⟩) rfl rfl rfl (WR_nil ?_)) WAs_nil
    refine WA_step 4 [] (by kernel_rfl) ?_
    refine WAs_cons rfl rfl (WR_val (y_build (xs := [_, _, _]) rfl (fok.st.get rfl) rfl rfl) rfl rfl rfl (WR_nil ?_)) WAs_nil
    refine WA_step 5 [] (by kernel_rfl) ?_
    refine WAs_cons rfl rfl (WR_loud (l_box rfl rfl rfl) rfl rfl rfl (WR_nil ?_)) WAs_nil
    refine WA_step 6 [] (by kernel_rfl) ?_
    refine WAs_cons rfl rfl (WR_val (y_assign rfl rfl) rfl rfl rfl (WR_nil ?_)) WAs_nil
    refine WA_step 7 [] (by kernel_rfl) ?_
    refine WAs_cons rfl rfl (WR_val (y_assign rfl rfl) rfl rfl rfl (WR_nil ?_)) WAs_nil
    refine WA_nil (by kernel_rfl) ?_
    refine W_adoptCell 3 2 3 1 rfl rfl ?_
    exact W_ren [0, 3, 2, 1, 4] (.cons 2 rfl (Ren.ptr (i := 1) rfl) <| .cons 3 rfl Ren.pure <| .nil) (.same hd rfl <| .kept rfl (.cells (RenL.cons (Ren.own (i := 2) rfl) <| RenL.cons (Ren.own (i := 3) rfl) <| RenL.cons (Ren.own (i := 4) rfl) RenL.nil)) <| .kept rfl (.rowP rfl (zeros_ints N)) <| .kept rfl (.rowP rfl (zeros_ints N)) <| .kept rfl (.row RenL.pure) <| .nil) rfl rfl hfin
end PW
end Go.Proofs.YtbpgndbjbaoolaaGreat

/- Pure walks: rows of rows of the call's own. No program in sight. -/
namespace Go.Proofs.YtbpgndbjbaoolaaGreat
set_option linter.unusedVariables false
set_option linter.unusedSimpArgs false
namespace PW
open Go.RowKit Reg Mem
section
variable {P : Program} {N L : Nat}
theorem zeros_one (p : PV) (n : Nat) : zeros [p] n = List.replicate n p := by
  induction n with
  | zero => rfl
  | succ n ih => simp only [zeros, ih, List.replicate_succ]; rfl
theorem SRen.of {fs : List Nat} {σ : Sto} : ∀ (σ' : Sto) (js : List Nat), σ'.length = js.length → (∀ (i : Nat) b' j, σ'[i]? = some (some b') → js[i]? = some j → ∃ b, σ[j]? = some (some b) ∧ BRen fs b' b) → SRen fs σ σ' js
  | [], [], _, _ => .nil
  | none :: σ', j :: js, hl, h => .gone (SRen.of σ' js (by simpa using hl) (fun i b' k h1 h2 => h (i + 1) b' k (by simpa using h1) (by simpa using h2)))
  | some b' :: σ', j :: js, hl, h => by
    obtain ⟨b, h1, h2⟩ := h 0 b' j rfl rfl
    exact .kept h1 h2 (SRen.of σ' js (by simpa using hl) (fun i b' k h1 h2 => h (i + 1) b' k (by simpa using h1) (by simpa using h2)))
  | [], _ :: _, hl, _ => by simp at hl
  | _ :: _, [], hl, _ => by simp at hl
theorem nodupB_of : ∀ (l : List Nat), l.Nodup → nodupB l = true
  | [], _ => rfl
  | x :: l, h => by
    rw [List.nodup_cons] at h
    simp [nodupB, h.1, nodupB_of l h.2]
theorem W_adoptRow {c : Code} {t : Tms} {σ : Sto} {Q : Exit → St → Prop} (i k e s : Nat) {e1 s1 n : Nat} {xs : List PV} (hi : σ[i]? = some (some (.row e1 s1 n xs))) (hk : xs[k]? = some (.raw (.slice none 0 0)))
    (h : W P N L c ⟨t, (σ ++ [some (Blk.row e s 0 [])]).set i (some (.row e1 s1 n (xs.set k (.own σ.length))))⟩ Q) : W P N L c ⟨t, σ⟩ Q := fun F base E₀ w₀ E a w hc hs => by
  obtain ⟨a1, a2, a3⟩ := adopt hs.sat e s
  have hil := (List.getElem?_eq_some_iff.1 hi).1
  have hi' : (σ ++ [some (Blk.row e s 0 [])])[i]? = some (some (.row e1 s1 n xs)) := by rw [List.getElem?_append_left hil]; exact hi
  obtain ⟨cs, h2, h3⟩ := a1.blk i _ hi'
  obtain ⟨cv, hcv, hrep⟩ := h3.get hk
  cases hrep
  have hb : ∃ b, blockOf ((E.push (.slice none 0 0)).at_ i) = some b := by
    rcases h2.2 with hz | ⟨g, cap, cur, hv, _⟩
    · have h4 := h2.1
      rw [hz.2, Nat.zero_mul] at h4
      rw [List.eq_nil_of_length_eq_zero h4] at hcv
      simp at hcv
    · exact ⟨g, by rw [hv]; rfl⟩
  obtain ⟨b, hb⟩ := hb
  obtain ⟨b1, b2⟩ := a1.turn hi' (b := b) hb (Nat.le_refl _) (fun _ _ _ => rfl) (bi' := .row e1 s1 n (xs.set k (.own σ.length))) ⟨cs, h2, by
    have := h3.set k a3
    rw [set_eq_of hcv] at this
    exact this⟩
  exact h F base E₀ w₀ _ a w (hc.on (a2.trans b2) (Below.refl _ _)) ⟨b1, (hs.tmp.goes a2).goes b2, hs.dfr, hs.size⟩

def ownsP (n : Nat) : List PV := (List.range n).map fun i => .own (i + 1)
/-- The store of a call that makes a row of rows of numbers. -/
def rsto (e1 e : TypeId) (rs : List (List Int)) : Sto := some (.row e1 1 rs.length (ownsP rs.length)) :: rs.map fun r => some (.row e 1 r.length (intsP r))
def stage (e1 e n k : Nat) : Sto := some (.row e1 1 n (ownsP k ++ List.replicate (n - k) (PV.raw (.slice none 0 0)))) :: List.replicate k (some (.row e 1 0 []))
theorem W_stage {c : Code} {t : Tms} {Q : Exit → St → Prop} (e1 e n : Nat) (h : W P N L c ⟨t, stage e1 e n n⟩ Q) : ∀ m k, k + m = n → W P N L c ⟨t, stage e1 e n k⟩ Q
  | 0, k, hk => by obtain rfl : k = n := by omega
                   exact h
  | m + 1, k, hk => by
    have ih := W_stage e1 e n h m (k + 1) (by omega)
    have hol : (ownsP k).length = k := by simp [ownsP]
    refine W_adoptRow 0 k e 1 (e1 := e1) (s1 := 1) (n := n) (xs := ownsP k ++ List.replicate (n - k) (PV.raw (.slice none 0 0))) rfl ?_ ?_
    · rw [List.getElem?_append_right (by omega), hol, List.getElem?_replicate, if_pos (by omega)]
    · have e2 : (stage e1 e n k ++ [some (Blk.row e 1 0 [])]).set 0 (some (.row e1 1 n ((ownsP k ++ List.replicate (n - k) (PV.raw (.slice none 0 0))).set k (.own (stage e1 e n k).length)))) = stage e1 e n (k + 1) := by
        unfold stage
        simp only [List.cons_append, List.set_cons_zero, List.length_cons, List.length_replicate]
        congr 3
        · rw [List.set_append_right _ _ (by omega), hol, Nat.sub_self, show n - k = (n - (k + 1)) + 1 by omega, List.replicate_succ, List.set_cons_zero]
          unfold ownsP
          rw [List.range_succ, List.map_append]
          simp
        · rw [List.replicate_succ']
      rw [e2]; exact ih
theorem W_adoptRows {c : Code} {t : Tms} {Q : Exit → St → Prop} (e1 e n : Nat) (h : W P N L c ⟨t, rsto e1 e (List.replicate n [])⟩ Q) : W P N L c ⟨t, [some (.row e1 1 n (zeros [.raw (.slice none 0 0)] n))]⟩ Q := by
  have := W_stage (P := P) (N := N) (L := L) (c := c) (t := t) (Q := Q) e1 e n (by
    have e2 : stage e1 e n n = rsto e1 e (List.replicate n []) := by
      unfold stage rsto
      simp [intsP]
    rw [e2]; exact h) n 0 (by omega)
  rw [zeros_one]
  simpa [stage, ownsP] using this
/-- A row has been laid anew. -/
def rfs (n k : Nat) : List Nat := 0 :: (List.range n).map fun i => if i = k then n + 1 else i + 1
theorem rfs_nodup (n k : Nat) : nodupB (rfs n k) = true := by
  apply nodupB_of
  unfold rfs
  rw [List.nodup_cons]
  constructor
  · simp only [List.mem_map, not_exists, not_and]
    intro i _ h
    split at h <;> omega
  · rw [List.nodup_iff_pairwise_ne, List.pairwise_map]
    refine List.Pairwise.imp_of_mem ?_ (List.nodup_iff_pairwise_ne.1 List.nodup_range)
    intro i j hi hj hij h
    have := List.mem_range.1 hi
    have := List.mem_range.1 hj
    split at h <;> split at h <;> omega
theorem rfs_get (n k i : Nat) (hi : i < n) : (rfs n k)[i + 1]? = some (if i = k then n + 1 else i + 1) := by
  unfold rfs
  simp [hi]
theorem owns_get (n i : Nat) (hi : i < n) : (ownsP n)[i]? = some (.own (i + 1)) := by simp [ownsP, hi]
theorem rsto_get (e1 e : TypeId) (rs : List (List Int)) (k : Nat) (hk : k < rs.length) : (rsto e1 e rs)[k + 1]? = some (some (.row e 1 (rs.getD k []).length (intsP (rs.getD k [])))) := by
  unfold rsto
  simp [hk]
theorem rsto_ren (e1 e : TypeId) (rs : List (List Int)) (k : Nat) (hk : k < rs.length) (x : Int) :
    SRen (rfs rs.length k) (((rsto e1 e rs).set (k + 1) none ++ [some (Blk.row e 1 ((rs.getD k []).length + 1) (intsP (rs.getD k []) ++ [.raw (.int .i64 x)]))]).set 0 (some (.row e1 1 rs.length (over (ownsP rs.length) k [.own (rsto e1 e rs).length])))) (rsto e1 e (rs.set k (rs.getD k [] ++ [x]))) (rfs rs.length k) := by
  have hol : (ownsP rs.length).length = rs.length := by simp [ownsP]
  have hlen : (rsto e1 e rs).length = rs.length + 1 := by simp [rsto]
  have hov : over (ownsP rs.length) k [.own (rsto e1 e rs).length] = (ownsP rs.length).set k (.own (rs.length + 1)) := by
    unfold over
    rw [hlen, List.set_eq_take_append_cons_drop, if_pos (by omega)]
    simp
  rw [hov]
  apply SRen.of
  · simp [rsto, rfs]
  · intro i b' j h1 h2
    cases i with
    | zero =>
      simp only [rsto, List.getElem?_cons_zero, Option.some.injEq, List.length_set] at h1
      simp only [rfs, List.getElem?_cons_zero, Option.some.injEq] at h2
      subst h1; subst h2
      refine ⟨.row e1 1 rs.length ((ownsP rs.length).set k (.own (rs.length + 1))), by simp [rsto], .row ⟨by simp, fun i a b k1 k2 => ?_⟩⟩
      have hi : i < rs.length := by have := (List.getElem?_eq_some_iff.1 k1).1; omega
      rw [owns_get _ _ hi] at k1
      cases k1
      rw [List.getElem?_set] at k2
      split at k2
      · rename_i e'; subst e'
        rw [if_pos (by omega)] at k2
        cases k2
        exact .own (by rw [rfs_get _ _ _ hi, if_pos rfl])
      · rename_i e'
        rw [owns_get _ _ hi] at k2
        cases k2
        exact .own (by rw [rfs_get _ _ _ hi, if_neg (Ne.symm e')])
    | succ i =>
      have hi : i < rs.length := by
        have := (List.getElem?_eq_some_iff.1 h1).1
        simp [rsto] at this
        exact this
      rw [rsto_get _ _ _ _ (by simpa using hi)] at h1
      rw [rfs_get _ _ _ hi] at h2
      cases h1
      by_cases e' : i = k
      · rw [if_pos e'] at h2
        cases h2
        subst e'
        refine ⟨.row e 1 ((rs.getD i []).length + 1) (intsP (rs.getD i []) ++ [.raw (.int .i64 x)]), ?_, ?_⟩
        · rw [List.getElem?_set_ne (by omega), List.getElem?_append_right (by simp [hlen])]
          simp [hlen]
        · have hg : (rs.set i (rs.getD i [] ++ [x])).getD i [] = rs.getD i [] ++ [x] := by simp [List.getD_eq_getElem?_getD, hi]
          rw [hg, intsP_snoc]
          exact .rowP (by simp) rfl
      · rw [if_neg e'] at h2
        cases h2
        refine ⟨.row e 1 (rs.getD i []).length (intsP (rs.getD i [])), ?_, ?_⟩
        · rw [List.getElem?_set_ne (by omega), List.getElem?_append_left (by simp [hlen]; omega), List.getElem?_set_ne (by omega), rsto_get _ _ _ _ hi]
        · have hg : (rs.set k (rs.getD k [] ++ [x])).getD i [] = rs.getD i [] := by simp [List.getD_eq_getElem?_getD, List.getElem?_set, Ne.symm e']
          rw [hg]
          exact .row RenL.pure
/-- Rows of numbers. -/
def rowsV (rs : List (List Int)) : PV := .slice rs.length (rs.map intsV)
instance (rs : List (List Int)) : IsPureL (rs.map intsV) := IsPureL.map _ _ fun _ => inferInstance
instance (rs : List (List Int)) : IsPure (rowsV rs) := by unfold rowsV; infer_instance
theorem rsto_pur (e1 e : TypeId) (rs : List (List Int)) : Pur (rsto e1 e rs) (.own 0) (rowsV rs) := by
  refine Pur.ownL rfl ⟨by simp [ownsP], fun i a b h1 h2 => ?_⟩
  have hi : i < rs.length := by have := (List.getElem?_eq_some_iff.1 h2).1; simpa using this
  rw [owns_get _ _ hi] at h1
  cases h1
  have : b = intsV (rs.getD i []) := by simpa [hi] using h2.symm
  subst this
  exact Pur.ownL (rsto_get e1 e rs i hi) PurL.pure
/-- For each node the arcs that belong to it. -/
def rowsL (f : Nat → Int) (n k : Nat) : List (List Int) := (List.range n).map fun (m : Nat) => ((List.range k).filter fun a => decide (f a = (m : Int))).map Int.ofNat
theorem rowsL_len (f : Nat → Int) (n k : Nat) : (rowsL f n k).length = n := by simp [rowsL]
theorem rowsL_get (f : Nat → Int) (n k m : Nat) (hm : m < n) : (rowsL f n k).getD m [] = ((List.range k).filter fun a => decide (f a = (m : Int))).map Int.ofNat := by simp [rowsL, hm]
theorem rowsL_zero (f : Nat → Int) (n : Nat) : rowsL f n 0 = List.replicate n [] := by
  apply List.ext_getElem?
  intro i
  simp only [rowsL, List.range_zero, List.filter_nil, List.map_nil, List.getElem?_map, List.getElem?_replicate]
  by_cases h : i < n <;> simp [h]
theorem rowsL_step (f : Nat → Int) (n k m : Nat) (hm : f k = (m : Int)) (hmn : m < n) : rowsL f n (k + 1) = (rowsL f n k).set m ((rowsL f n k).getD m [] ++ [(k : Int)]) := by
  apply List.ext_getElem?
  intro i
  rw [List.getElem?_set]
  by_cases h : i < n
  · have hl : i < (rowsL f n k).length := by rw [rowsL_len]; exact h
    by_cases e : m = i
    · subst e
      rw [if_pos rfl, if_pos hl, rowsL_get _ _ _ _ h]
      simp [rowsL, h, List.range_succ, List.filter_append, hm]
    · rw [if_neg e]
      simp [rowsL, h, List.range_succ, List.filter_append, hm]
      omega
  · have hl : ¬ i < (rowsL f n k).length := by rw [rowsL_len]; exact h
    have : (rowsL f n (k + 1))[i]? = none := by simp [rowsL, h]
    rw [this]
    split
    · rw [if_neg (by omega)]
    · simp [rowsL, h]
end
end PW
end Go.Proofs.YtbpgndbjbaoolaaGreat
