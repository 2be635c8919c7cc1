/- Slices that are read, slices that a call owns, and append: what all walks share. No program in sight. -/
import Derived.Test.YtcieillicpbebaaRegion
import Derived.OwnWalk
import Derived.Laws.AppendOwnNone
namespace Go.Proofs.Ytcieillicpbebaa
namespace Mem
open Go.RowKit

/-- A slice of n elements whose cells, one after the other, hold xs. -/
def Row (w : World) (v : Value) (n : Nat) (xs : List Value) : Prop :=
  (n = 0 ∧ xs = [] ∧ (v = .slice none 0 0 ∨ ∃ a c, v = .slice (some a) 0 c ∧ c ≤ maxLen)) ∨
  (0 < n ∧ ∃ b off c, v = .slice (some ⟨b, off, none⟩) n c ∧ n ≤ c ∧ c ≤ maxLen ∧ ∀ i u, xs[i]? = some u → w.cell? ⟨b, off + i, none⟩ = some u)

theorem Row.mono {w w' : World} {v : Value} {n : Nat} {xs : List Value} (h : Row w v n xs) (hE : Reg.Ext w w') : Row w' v n xs := by
  rcases h with h | ⟨h0, b, off, c, h1, h2, h3, h4⟩
  · exact .inl h
  · exact .inr ⟨h0, b, off, c, h1, h2, h3, fun i u hu => hE.cell (h4 i u hu)⟩

/-- Only blocks below B are looked at. -/
def Row.In (v : Value) (B : Nat) : Prop := ∀ b o c n, v = .slice (some ⟨b, o, none⟩) n c → b < B

theorem Row.nil (w : World) : Row w (.slice none 0 0) 0 [] := .inl ⟨rfl, rfl, .inl rfl⟩

theorem Row.owns {w : World} {base : Nat} {e : TypeId} {size : Nat} {v : Value} {n : Nat} {xs : List Value} (h : w.ownsRow base e size v n xs) : Row w v n xs := by
  have hc := fun g hg => h.cells (g := g) hg
  obtain ⟨hl, h⟩ := h
  rcases h with ⟨rfl, rfl⟩ | ⟨g, cap, cur, rfl, h1, h2, h3, h4, h5, h6⟩
  · exact .inl ⟨rfl, List.eq_nil_of_length_eq_zero (by simpa using hl), .inl rfl⟩
  · by_cases hn : n = 0
    · subst hn
      exact .inl ⟨rfl, List.eq_nil_of_length_eq_zero (by simpa using hl), .inr ⟨_, _, rfl, h4⟩⟩
    · refine .inr ⟨by omega, g, 0, cap, rfl, h3, h4, fun i u hu => ?_⟩
      have := hc g rfl i u hu
      rw [Addr.add_lit] at this
      exact this

theorem wpList_append_row {P : Program} {w : World} {ops : Array Oper} {rest : List Oper} {o : Oper} {a : Act} {Q : Exit → Act → World → Prop} (hgd : o.guard = none) (s x : Operand) (t : TypeId)
    (ho : o.op = .call { callee := .builtin .append, args := #[s, x], argTypes := #[t, t] })
    (base : Nat) (e : TypeId) {z : Value} {size bytes : Nat} (ht : P.underlying t = some (.slice e)) (hinfo : (P.info? e).map (fun i => (i.zero, i.size, i.bytes)) = some (some z, size, bytes)) (hzs : z.cells.size = size) (hsz : 0 < size)
    {v : Value} {n : Nat} {xs : List Value} (hs : a.eval s = v) (hown : w.ownsRow base e size v n xs)
    {xv : Value} {m : Nat} {news : List Value} (hx : a.eval x = xv) (hrow : Row w xv m news) (hl : news.length = m * size) (h1 : ∀ u ∈ news, u.oneCell' = true)
    (h63 : n + m ≤ maxLen) (hbytes : (n + m) * bytes ≤ 140737488355328) (hbase : base ≤ w.heap.size)
    (h : ∀ v' w', w'.ownsRow base e size v' (n + m) (xs ++ news) → w.grownBy w' v.ownBlock → wpList P ops Q rest (a.put o.dst v') w') : wpList P ops Q (o :: rest) a w := by
  obtain ⟨i, hi, hz0, hz1, hz2⟩ := info_parts hinfo
  rcases hrow with ⟨rfl, rfl, rfl | ⟨ad, c, rfl, hc⟩⟩ | ⟨h0, b, off, c, rfl, h2, h3, h4⟩
  · refine wpList_append_own_none hgd s x t ho base e i size ht hi v n xs hs hown hx ?_
    have := h v w (by simpa using hown) ⟨rfl, rfl, rfl, Nat.le_refl _, fun _ _ _ => rfl⟩
    exact this
  · exact wpList_append_own (w := w) hgd s x t ho base e i z size bytes ht hi hz0 hz1 hz2 hzs hsz v n xs hs hown ad 0 c [] hx (by simp) (by simp) (by simp) h63 hbytes hbase fun v' w' h5 h6 _ => h v' w' h5 h6
  · exact wpList_append_own (w := w) hgd s x t ho base e i z size bytes ht hi hz0 hz1 hz2 hzs hsz v n xs hs hown ⟨b, off, none⟩ m c news hx hl (fun j u hu => by rw [Addr.add_lit]; exact h4 j u hu) h1 h63 hbytes hbase fun v' w' h5 h6 _ => h v' w' h5 h6

theorem grown_below {B : Nat} {w0 w w' : World} {base : Nat} {e : TypeId} {size : Nat} {v : Value} {n : Nat} {xs : List Value} (hb : Below B w0 w) (hown : w.ownsRow base e size v n xs) (hB : B ≤ base) (hw : B ≤ w.heap.size) (hg : w.grownBy w' v.ownBlock) : Below B w0 w' :=
  hb.grown hg hw fun k hk => by have := (hown.lt k hk).1; omega

def ints (L : List Int) : List Value := L.map (Value.int .i64)
theorem ints_len (L : List Int) : (ints L).length = L.length := by simp [ints]
theorem ints_one (L : List Int) : ∀ u ∈ ints L, u.oneCell' = true := by
  intro u hu
  simp only [ints, List.mem_map] at hu
  obtain ⟨x, _, rfl⟩ := hu
  rfl
theorem ints_append (L M : List Int) : ints L ++ ints M = ints (L ++ M) := by simp [ints]
end Mem
end Go.Proofs.Ytcieillicpbebaa
