/- Topologies as plain data, and how a topology lies in memory. No program in sight. -/
import Derived.Test.YtkaalpdfppbdeaaDoorMem
namespace Go.Proofs.YtkaalpdfppbdeaaDoor
namespace Net
open Go.RowKit Mem

structure Lnk where
  a : Int
  b : Int
  c0 : Int
  c1 : Int
  cap : Int
  delay : Int
  grp : Int
def Lnk.zero : Lnk := ⟨0, 0, 0, 0, 0, 0, 0⟩
structure Topo where
  nodes : Int
  over : List Bool
  links : List Lnk

def Lnk.cells (l : Lnk) : List Value := [.int .i64 l.a, .int .i64 l.b, .int .i64 l.c0, .int .i64 l.c1, .int .i64 l.cap, .int .i64 l.delay, .int .i64 l.grp]
def lnks (L : List Lnk) : List Value := L.flatMap Lnk.cells
def bools (L : List Bool) : List Value := L.map Value.bool

theorem lnks_len (L : List Lnk) : (lnks L).length = L.length * 7 := by
  induction L with
  | nil => rfl
  | cons l L ih => simp only [lnks, List.flatMap_cons, List.length_append, List.length_cons] at *; rw [ih]; simp [Lnk.cells]; omega
theorem bools_len (L : List Bool) : (bools L).length = L.length := by simp [bools]

/-- The link with a number. -/
def lnk (L : List Lnk) (i : Nat) : Lnk := L.getD i Lnk.zero
theorem lnks_get (L : List Lnk) (i j : Nat) (hi : i < L.length) (hj : j < 7) : (lnks L)[i * 7 + j]? = (lnk L i).cells[j]? := by
  induction L generalizing i with
  | nil => simp at hi
  | cons l L ih =>
    cases i with
    | zero =>
      simp only [lnks, List.flatMap_cons, Nat.zero_mul, Nat.zero_add]
      rw [List.getElem?_append_left (by simp [Lnk.cells]; omega)]
      rfl
    | succ i =>
      have := ih i (by simpa using hi)
      simp only [lnks, List.flatMap_cons] at *
      rw [List.getElem?_append_right (by simp [Lnk.cells]; omega)]
      rw [show (i + 1) * 7 + j - l.cells.length = i * 7 + j by simp [Lnk.cells]; omega]
      rw [this]
      rfl
theorem bools_get (L : List Bool) (i : Nat) (hi : i < L.length) : (bools L)[i]? = some (.bool (L.getD i false)) := by simp [bools, hi]

/-- The value v is the topology T, in the world w. -/
def TopoV (w : World) (v : Value) (T : Topo) : Prop :=
  ∃ so sl, v = .agg #[.int .i64 T.nodes, so, sl] ∧ Row w so T.over.length (bools T.over) ∧ Row w sl T.links.length (lnks T.links)
theorem TopoV.mono {w w' : World} {v : Value} {T : Topo} (h : TopoV w v T) (hE : Reg.Ext w w') : TopoV w' v T := by
  obtain ⟨so, sl, h1, h2, h3⟩ := h
  exact ⟨so, sl, h1, h2.mono hE, h3.mono hE⟩

/-- A slice is a slice, whatever it holds. -/
theorem row_slice {w : World} {v : Value} {n : Nat} {xs : List Value} (h : Row w v n xs) : ∃ a c, v = .slice a n c ∧ n ≤ c ∧ n ≤ 9223372036854775807 := by
  rcases h with ⟨rfl, _, rfl | ⟨a, c, rfl, _⟩⟩ | ⟨_, b, off, c, rfl, h1, h2, _⟩
  · exact ⟨_, _, rfl, by omega, by omega⟩
  · exact ⟨_, _, rfl, by omega, by omega⟩
  · exact ⟨_, _, rfl, h1, Nat.le_trans h1 h2⟩
/-- Where a slice has an element, it has an address. -/
theorem row_addr {w : World} {v : Value} {n : Nat} {xs : List Value} (h : Row w v n xs) (h0 : 0 < n) : ∃ b off c, v = .slice (some ⟨b, off, none⟩) n c ∧ n ≤ c ∧ n ≤ 9223372036854775807 ∧ ∀ i u, xs[i]? = some u → w.cell? ⟨b, off + i, none⟩ = some u := by
  rcases h with ⟨rfl, _, _⟩ | ⟨_, b, off, c, rfl, h1, h2, h3⟩
  · omega
  · exact ⟨b, off, c, rfl, h1, Nat.le_trans h1 h2, h3⟩

/-- The cells of a link. -/
theorem link_cells {w : World} {b off : Nat} {L : List Lnk} (h : ∀ i u, (lnks L)[i]? = some u → w.cell? ⟨b, off + i, none⟩ = some u) (i : Nat) (hi : i < L.length) :
    w.cell? ⟨b, off + i * 7, none⟩ = some (.int .i64 (lnk L i).a) ∧ w.cell? ⟨b, off + i * 7 + 1, none⟩ = some (.int .i64 (lnk L i).b) ∧ w.cell? ⟨b, off + i * 7 + 2, none⟩ = some (.int .i64 (lnk L i).c0) ∧
    w.cell? ⟨b, off + i * 7 + 3, none⟩ = some (.int .i64 (lnk L i).c1) ∧ w.cell? ⟨b, off + i * 7 + 4, none⟩ = some (.int .i64 (lnk L i).cap) ∧ w.cell? ⟨b, off + i * 7 + 5, none⟩ = some (.int .i64 (lnk L i).delay) ∧
    w.cell? ⟨b, off + i * 7 + 6, none⟩ = some (.int .i64 (lnk L i).grp) := by
  have key : ∀ j u, j < 7 → (lnk L i).cells[j]? = some u → w.cell? ⟨b, off + i * 7 + j, none⟩ = some u := fun j u hj hu => by
    rw [Nat.add_assoc]; exact h _ _ (by rw [lnks_get L i j hi hj]; exact hu)
  exact ⟨key 0 _ (by omega) rfl, key 1 _ (by omega) rfl, key 2 _ (by omega) rfl, key 3 _ (by omega) rfl, key 4 _ (by omega) rfl, key 5 _ (by omega) rfl, key 6 _ (by omega) rfl⟩
theorem bool_cell {w : World} {b off : Nat} {L : List Bool} (h : ∀ i u, (bools L)[i]? = some u → w.cell? ⟨b, off + i, none⟩ = some u) (i : Nat) (hi : i < L.length) :
    w.cell? ⟨b, off + i, none⟩ = some (.bool (L.getD i false)) := h i _ (bools_get L i hi)

/-- The functions of package graph. -/
def tailN (T : Topo) (a : Nat) : Int := if a % 2 = 0 then (lnk T.links (a / 2)).a else (lnk T.links (a / 2)).b
def flip (a : Nat) : Nat := if a % 2 = 0 then a + 1 else a - 1
def headN (T : Topo) (a : Nat) : Int := tailN T (flip a)
def costN (T : Topo) (a : Nat) : Int := if a % 2 = 0 then (lnk T.links (a / 2)).c0 else (lnk T.links (a / 2)).c1
def overN (T : Topo) (n : Nat) : Bool := T.over.getD n false
def nodeB (T : Topo) (n : Int) : Bool := decide (0 ≤ n ∧ n < T.nodes)
def arcB (T : Topo) (a : Int) : Bool := decide (0 ≤ a ∧ a < 2 * (T.links.length : Int))
def fitsB (T : Topo) (down : List Bool) : Bool := decide (down.length = 0 ∨ down.length = 2 * T.links.length)
def downN (down : List Bool) (a : Nat) : Bool := down.getD a false
end Net
end Go.Proofs.YtkaalpdfppbdeaaDoor
