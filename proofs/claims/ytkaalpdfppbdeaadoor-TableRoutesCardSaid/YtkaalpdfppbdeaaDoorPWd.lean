/- Plain data: numbers, masks, topologies; and the contracts of package graph in their plain form. -/
import Derived.Test.YtkaalpdfppbdeaaDoorPWty
import Derived.Test.YtkaalpdfppbdeaaDoorGraph
namespace Go.Proofs.YtkaalpdfppbdeaaDoor
namespace PW
open Go.RowKit Reg Mem Net

abbrev num (n : Int) : PV := .raw (.int .i64 n)
abbrev flag (b : Bool) : PV := .raw (.bool b)
theorem getD_mem {α : Type} {L : List α} {i : Nat} {d : α} (h : i < L.length) : L.getD i d ∈ L := by
  have : L.getD i d = L[i] := by simp [h]
  rw [this]; exact List.getElem_mem h
theorem take_step {α : Type} (L : List α) (i : Nat) (d : α) (h : i < L.length) : L.take (i + 1) = L.take i ++ [L.getD i d] := by
  rw [List.take_add_one]; simp [h]
def intsP (L : List Int) : List PV := L.map fun n => .raw (.int .i64 n)
def boolsP (L : List Bool) : List PV := L.map fun b => .raw (.bool b)
def intsV (L : List Int) : PV := .slice L.length (intsP L)
def boolsV (L : List Bool) : PV := .slice L.length (boolsP L)
def lnkP (l : Lnk) : List PV := [.raw (.int .i64 l.a), .raw (.int .i64 l.b), .raw (.int .i64 l.c0), .raw (.int .i64 l.c1), .raw (.int .i64 l.cap), .raw (.int .i64 l.delay), .raw (.int .i64 l.grp)]
def lnksP (L : List Lnk) : List PV := L.flatMap lnkP
def topoP (T : Topo) : List PV := [.raw (.int .i64 T.nodes), boolsV T.over, .slice T.links.length (lnksP T.links)]
def topoV (T : Topo) : PV := .agg (topoP T)
instance (L : List Int) : IsPureL (intsP L) := IsPureL.map _ _ fun _ => inferInstance
instance (L : List Bool) : IsPureL (boolsP L) := IsPureL.map _ _ fun _ => inferInstance
instance (L : List Int) : IsOneL (intsP L) := IsOneL.map _ _ fun _ => inferInstance
instance (L : List Bool) : IsOneL (boolsP L) := IsOneL.map _ _ fun _ => inferInstance
instance (l : Lnk) : IsPureL (lnkP l) := by unfold lnkP; infer_instance
instance (l : Lnk) : IsOneL (lnkP l) := by unfold lnkP; infer_instance
instance (L : List Lnk) : IsPureL (lnksP L) := IsPureL.flatMap _ _ fun _ => inferInstance
instance (L : List Lnk) : IsOneL (lnksP L) := IsOneL.flatMap _ _ fun _ => inferInstance
instance (L : List Int) : IsPure (intsV L) := by unfold intsV; infer_instance
instance (L : List Bool) : IsPure (boolsV L) := by unfold boolsV; infer_instance
instance (T : Topo) : IsPureL (topoP T) := by unfold topoP; infer_instance
instance (T : Topo) : IsPure (topoV T) := by unfold topoV; infer_instance
instance (L : List Int) : IsOne (intsV L) := by unfold intsV; infer_instance
instance (L : List Bool) : IsOne (boolsV L) := by unfold boolsV; infer_instance
theorem intsP_len (L : List Int) : (intsP L).length = L.length := by simp [intsP]
theorem boolsP_len (L : List Bool) : (boolsP L).length = L.length := by simp [boolsP]
theorem lnksP_len (L : List Lnk) : (lnksP L).length = L.length * 7 := by
  induction L with
  | nil => rfl
  | cons l L ih => simp only [lnksP, List.flatMap_cons, List.length_append, List.length_cons] at *; rw [ih]; simp [lnkP]; omega
theorem ints_get (L : List Int) (i : Nat) (h : i < L.length) : (intsP L)[i]? = some (.raw (.int .i64 (L.getD i 0))) := by simp [intsP, h]
theorem bools_getP (L : List Bool) (i : Nat) (h : i < L.length) : (boolsP L)[i]? = some (.raw (.bool (L.getD i false))) := by simp [boolsP, h]
theorem intsP_append (L M : List Int) : intsP L ++ intsP M = intsP (L ++ M) := by simp [intsP]
theorem intsP_snoc (L : List Int) (n : Int) : intsP L ++ [.raw (.int .i64 n)] = intsP (L ++ [n]) := by simp [intsP]
theorem over_ints (L : List Int) (i : Nat) (n : Int) (h : i < L.length) : over (intsP L) i [.raw (.int .i64 n)] = intsP (L.set i n) := by
  unfold over intsP
  rw [List.map_set, List.set_eq_take_append_cons_drop, if_pos (by simpa using h)]
  simp
theorem over_bools (L : List Bool) (i : Nat) (n : Bool) (h : i < L.length) : over (boolsP L) i [.raw (.bool n)] = boolsP (L.set i n) := by
  unfold over boolsP
  rw [List.map_set, List.set_eq_take_append_cons_drop, if_pos (by simpa using h)]
  simp
theorem CanS.mono {P : Program} {f : FuncId} {ps : List PV} {σ : Sto} {R R' : PV → Sto → Prop} (h : CanS P f ps σ R) (hr : ∀ r σ', R r σ' → R' r σ') : CanS P f ps σ R' := fun F base E w vs hS hR =>
  (h F base E w vs hS hR).mono fun _ _ ⟨v, r, σ', E', h1, h2, h3⟩ => ⟨v, r, σ', E', h1, hr r σ' h2, h3⟩
/-- Stores into rows of numbers and of flags. -/
theorem l_storeInts {P : Program} {σ : Sto} {t : Tms} {o : Oper} {ty e n : Nat} {x y : Operand} {i j : Nat} {c : Int} {L : List Int} (ho : o.op = .store ty x y) (hk : tyK P ty = some none) (hx : evalO t x = some (.ptr i j)) (hy : evalO t y = some (num c)) (hi : σ[i]? = some (some (.row e 1 n (intsP L)))) (hj : j < L.length) :
    Loud P σ t o (.raw undef) (σ.set i (some (.row e 1 n (intsP (L.set j c))))) := by
  have := l_store1 ho hk hx hy hi (by show j < (intsP L).length; simpa [intsP] using hj)
  have he : Blk.setXs (.row e 1 n (intsP L)) (over (Blk.xs (.row e 1 n (intsP L))) j [num c]) = .row e 1 n (intsP (L.set j c)) := by
    show Blk.row e 1 n (over (intsP L) j [num c]) = _
    rw [over_ints L j c hj]
  rw [he] at this
  exact this
theorem l_storeBools {P : Program} {σ : Sto} {t : Tms} {o : Oper} {ty e n : Nat} {x y : Operand} {i j : Nat} {c : Bool} {L : List Bool} (ho : o.op = .store ty x y) (hk : tyK P ty = some none) (hx : evalO t x = some (.ptr i j)) (hy : evalO t y = some (flag c)) (hi : σ[i]? = some (some (.row e 1 n (boolsP L)))) (hj : j < L.length) :
    Loud P σ t o (.raw undef) (σ.set i (some (.row e 1 n (boolsP (L.set j c))))) := by
  have := l_store1 ho hk hx hy hi (by show j < (boolsP L).length; simpa [boolsP] using hj)
  have he : Blk.setXs (.row e 1 n (boolsP L)) (over (Blk.xs (.row e 1 n (boolsP L))) j [flag c]) = .row e 1 n (boolsP (L.set j c)) := by
    show Blk.row e 1 n (over (boolsP L) j [flag c]) = _
    rw [over_bools L j c hj]
  rw [he] at this
  exact this
theorem zeros_ints (n : Nat) : zeros [.raw (.int .i64 0)] n = intsP (List.replicate n 0) := by
  induction n with
  | zero => rfl
  | succ n ih => simp only [zeros, ih, List.replicate_succ, intsP]; rfl
theorem zeros_bools (n : Nat) : zeros [.raw (.bool false)] n = boolsP (List.replicate n false) := by
  induction n with
  | zero => rfl
  | succ n ih => simp only [zeros, ih, List.replicate_succ, boolsP]; rfl
theorem lnks_getP (L : List Lnk) (i j : Nat) (hi : i < L.length) (hj : j < 7) : (lnksP L)[i * 7 + j]? = (lnkP (lnk L i))[j]? := by
  induction L generalizing i with
  | nil => simp at hi
  | cons l L ih =>
    cases i with
    | zero =>
      simp only [lnksP, List.flatMap_cons, Nat.zero_mul, Nat.zero_add]
      rw [List.getElem?_append_left (by simp [lnkP]; omega)]
      rfl
    | succ i =>
      have := ih i (by simpa using hi)
      simp only [lnksP, List.flatMap_cons] at *
      rw [List.getElem?_append_right (by simp [lnkP]; omega)]
      rw [show (i + 1) * 7 + j - (lnkP l).length = i * 7 + j by simp [lnkP]; omega]
      rw [this]
      rfl

/-- From plain values to what the older contracts ask for. -/
theorem rep_raw {E : Env} {w : World} {v u : Value} (h : Rep E w v (.raw u)) : v = u := by cases h; rfl
theorem rep_row {E : Env} {w : World} {v : Value} {n : Nat} {xs : List PV} {us : List Value} (h : Rep E w v (.slice n xs)) (hl : us.length = xs.length) (hx : xs = us.map .raw) : Row w v n us := by
  cases h with
  | nils => exact .inl ⟨rfl, List.map_eq_nil_iff.1 hx.symm, .inl rfl⟩
  | empty a c hc => exact .inl ⟨rfl, List.map_eq_nil_iff.1 hx.symm, .inr ⟨a, c, rfl, hc⟩⟩
  | slice b off _ c cs _ h0 h1 h2 hb hM hc hl' hr =>
    subst hx
    refine .inr ⟨h0, b, off, c, rfl, h1, h2, fun i u hu => ?_⟩
    have hi : i < cs.length := by rw [hl', ← hl]; exact (List.getElem?_eq_some_iff.1 hu).1
    have h3 := hr i cs[i] (.raw u) (by simp [hi]) (by rw [List.getElem?_map, hu]; rfl)
    have : cs[i] = u := rep_raw h3
    exact hc i u (by simp [hi, this])
theorem rep_ints {E : Env} {w : World} {v : Value} {L : List Int} (h : Rep E w v (intsV L)) : IntsV w v L := rep_row h (by simp [ints, intsP]) (by simp [ints, intsP])
theorem rep_bools {E : Env} {w : World} {v : Value} {L : List Bool} (h : Rep E w v (boolsV L)) : Bools w v L := rep_row h (by simp [bools, boolsP]) (by simp [bools, boolsP])
theorem lnksP_map (L : List Lnk) : lnksP L = (lnks L).map .raw := by
  induction L with
  | nil => rfl
  | cons l L ih => simp only [lnksP, lnks, List.flatMap_cons, List.map_append] at *; rw [ih]; rfl
theorem rep_topo {E : Env} {w : World} {v : Value} {T : Topo} (h : Rep E w v (topoV T)) : TopoV w v T := by
  unfold topoV topoP at h
  cases h with
  | agg cs _ hl hr =>
    obtain ⟨l⟩ := cs
    match l, hl, hr with
    | [x, y, z], _, hr =>
      have h0 := hr 0 x _ rfl rfl
      have h1 := hr 1 y _ rfl rfl
      have h2 := hr 2 z _ rfl rfl
      cases h0
      exact ⟨y, z, rfl, rep_bools h1, rep_row h2 (by rw [lnks_len, lnksP_len]) (lnksP_map _)⟩
    | [], hl, _ => simp at hl
    | [_], hl, _ => simp at hl
    | [_, _], hl, _ => simp at hl
    | _ :: _ :: _ :: _ :: _, hl, _ => simp at hl
theorem args1 {E : Env} {w : World} {vs : Array Value} {p : PV} (h : RepL E w vs.toList [p]) : ∃ v, vs = #[v] ∧ Rep E w v p := by
  obtain ⟨l⟩ := vs
  match l, h with
  | [v], h => exact ⟨v, rfl, h.uncons.1⟩
  | [], h => simp [RepL] at h
  | _ :: _ :: _, h => simp [RepL] at h
theorem args2 {E : Env} {w : World} {vs : Array Value} {p q : PV} (h : RepL E w vs.toList [p, q]) : ∃ v u, vs = #[v, u] ∧ Rep E w v p ∧ Rep E w u q := by
  obtain ⟨l⟩ := vs
  match l, h with
  | [v, u], h => exact ⟨v, u, rfl, h.uncons.1, h.uncons.2.uncons.1⟩
  | [], h => simp [RepL] at h
  | [_], h => simp [RepL] at h
  | _ :: _ :: _ :: _, h => simp [RepL] at h
theorem can_ret {P : Program} {f : FuncId} {vs : Array Value} {w : World} {F : Nat → Prop} {v : Value} (h : Calls P f vs w (Ret (fun x _ => x = v) w)) : Calls P f vs w (Ret (fun x w' => ∃ r, r = PV.raw v ∧ Rep (EF F) w' x r) w) :=
  h.mono fun _ _ ⟨x, he, hE, hx⟩ => ⟨x, he, hE, _, rfl, by rw [hx]; exact .raw v⟩

theorem arcs_can (T : Topo) (hl : T.links.length ≤ 4611686018427387903) : Can Tryd.prog 58 [topoV T] (· = num (2 * (T.links.length : Int))) := fun F w vs _ hR => by
  obtain ⟨v, rfl, h1⟩ := args1 hR
  exact can_ret (arcs_any (rep_topo h1) hl)
theorem tail_can (T : Topo) (a : Nat) (ha : a < 2 * T.links.length) : Can Tryd.prog 61 [topoV T, num a] (· = num (tailN T a)) := fun F w vs _ hR => by
  obtain ⟨v, u, rfl, h1, h2⟩ := args2 hR
  cases rep_raw h2
  exact can_ret (tail_any (rep_topo h1) a ha)
theorem head_can (T : Topo) (a : Nat) (ha : a < 2 * T.links.length) (hl : T.links.length ≤ 4611686018427387902) : Can Tryd.prog 75 [topoV T, num a] (· = num (headN T a)) := fun F w vs _ hR => by
  obtain ⟨v, u, rfl, h1, h2⟩ := args2 hR
  cases rep_raw h2
  exact can_ret (head_any (rep_topo h1) a ha hl)
theorem cost_can (T : Topo) (a : Nat) (ha : a < 2 * T.links.length) : Can Tryd.prog 77 [topoV T, num a] (· = num (costN T a)) := fun F w vs _ hR => by
  obtain ⟨v, u, rfl, h1, h2⟩ := args2 hR
  cases rep_raw h2
  exact can_ret (cost_any (rep_topo h1) a ha)
theorem over_can (T : Topo) (n : Nat) (hn : T.over.length = 0 ∨ n < T.over.length) : Can Tryd.prog 76 [topoV T, num n] (· = flag (overN T n)) := fun F w vs _ hR => by
  obtain ⟨v, u, rfl, h1, h2⟩ := args2 hR
  cases rep_raw h2
  exact can_ret (over_any (rep_topo h1) n hn)
theorem node_can (T : Topo) (n : Int) : Can Tryd.prog 29 [topoV T, num n] (· = flag (nodeB T n)) := fun F w vs _ hR => by
  obtain ⟨v, u, rfl, h1, h2⟩ := args2 hR
  cases rep_raw h2
  exact can_ret (node_any (rep_topo h1) n)
theorem arc_can (T : Topo) (hl : T.links.length ≤ 4611686018427387903) (a : Int) : Can Tryd.prog 70 [topoV T, num a] (· = flag (arcB T a)) := fun F w vs _ hR => by
  obtain ⟨v, u, rfl, h1, h2⟩ := args2 hR
  cases rep_raw h2
  exact can_ret (arc_any (rep_topo h1) hl a)
theorem fits_can (T : Topo) (D : List Bool) (hl : T.links.length ≤ 4611686018427387903) : Can Tryd.prog 28 [topoV T, boolsV D] (· = flag (fitsB T D)) := fun F w vs _ hR => by
  obtain ⟨v, u, rfl, h1, h2⟩ := args2 hR
  exact can_ret (fits_any (rep_topo h1) hl (rep_bools h2))
theorem down_can (D : List Bool) (a : Nat) (ha : D.length = 0 ∨ a < D.length) : Can Tryd.prog 32 [boolsV D, num a] (· = flag (downN D a)) := fun F w vs _ hR => by
  obtain ⟨v, u, rfl, h1, h2⟩ := args2 hR
  cases rep_raw h2
  exact can_ret (down_any (rep_bools h1) a ha)
end PW
end Go.Proofs.YtkaalpdfppbdeaaDoor
