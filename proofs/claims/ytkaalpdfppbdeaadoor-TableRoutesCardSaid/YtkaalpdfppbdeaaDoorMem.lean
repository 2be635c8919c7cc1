/- Slices that are read, slices that a call owns, and append: what all walks share. No program in sight. -/
import Derived.Test.YtkaalpdfppbdeaaDoorRegion
import Derived.OwnWalk
import Derived.Laws.Slices
import Derived.Laws.AppendOwnNone
namespace Go.Proofs.YtkaalpdfppbdeaaDoor
namespace Mem
open Go.RowKit

/-- A slice of n elements whose cells, one after the other, hold xs. -/
def Row (w : World) (v : Value) (n : Nat) (xs : List Value) : Prop :=
  (n = 0 ∧ xs = [] ∧ (v = .slice none 0 0 ∨ ∃ a c, v = .slice (some a) 0 c ∧ c ≤ maxLen)) ∨
  (0 < n ∧ ∃ b off c, v = .slice (some ⟨b, off, none⟩) n c ∧ n ≤ c ∧ c ≤ maxLen ∧ ∀ i u, xs[i]? = some u → w.cell? ⟨b, off + i, none⟩ = some u)

theorem Row.mono {w w' : World} {v : Value} {n : Nat} {xs : List Value} (h : Row w v n xs) (hE : Reg.Ext w w') : Row w' v n xs := by
  rcases h with h | ⟨h0, b, off, c, h1, h2, h3, h4⟩
  · exact .inl h
  · exact .inr ⟨h0, b, off, c, h1, h2, h3, fun i u hu => hE.cell (h4 i u hu)⟩

/-- Only blocks below B are looked at. -/
def Row.In (v : Value) (B : Nat) : Prop := ∀ b o c n, v = .slice (some ⟨b, o, none⟩) n c → b < B

theorem Row.nil (w : World) : Row w (.slice none 0 0) 0 [] := .inl ⟨rfl, rfl, .inl rfl⟩

theorem Row.owns {w : World} {base : Nat} {e : TypeId} {size : Nat} {v : Value} {n : Nat} {xs : List Value} (h : w.ownsRow base e size v n xs) : Row w v n xs := by
  have hc := fun g hg => h.cells (g := g) hg
  obtain ⟨hl, h⟩ := h
  rcases h with ⟨rfl, rfl⟩ | ⟨g, cap, cur, rfl, h1, h2, h3, h4, h5, h6⟩
  · exact .inl ⟨rfl, List.eq_nil_of_length_eq_zero (by simpa using hl), .inl rfl⟩
  · by_cases hn : n = 0
    · subst hn
      exact .inl ⟨rfl, List.eq_nil_of_length_eq_zero (by simpa using hl), .inr ⟨_, _, rfl, h4⟩⟩
    · refine .inr ⟨by omega, g, 0, cap, rfl, h3, h4, fun i u hu => ?_⟩
      have := hc g rfl i u hu
      rw [Addr.add_lit] at this
      exact this

theorem wpList_append_row {P : Program} {w : World} {ops : Array Oper} {rest : List Oper} {o : Oper} {a : Act} {Q : Exit → Act → World → Prop} (hgd : o.guard = none) (s x : Operand) (t : TypeId)
    (ho : o.op = .call { callee := .builtin .append, args := #[s, x], argTypes := #[t, t] })
    (base : Nat) (e : TypeId) {z : Value} {size bytes : Nat} (ht : P.underlying t = some (.slice e)) (hinfo : (P.info? e).map (fun i => (i.zero, i.size, i.bytes)) = some (some z, size, bytes)) (hzs : z.cells.size = size) (hsz : 0 < size)
    {v : Value} {n : Nat} {xs : List Value} (hs : a.eval s = v) (hown : w.ownsRow base e size v n xs)
    {xv : Value} {m : Nat} {news : List Value} (hx : a.eval x = xv) (hrow : Row w xv m news) (hl : news.length = m * size) (h1 : ∀ u ∈ news, u.oneCell' = true)
    (h63 : n + m ≤ maxLen) (hbytes : (n + m) * bytes ≤ 140737488355328) (hbase : base ≤ w.heap.size)
    (h : ∀ v' w', w'.ownsRow base e size v' (n + m) (xs ++ news) → w.grownBy w' v.ownBlock → wpList P ops Q rest (a.put o.dst v') w') : wpList P ops Q (o :: rest) a w := by
  obtain ⟨i, hi, hz0, hz1, hz2⟩ := info_parts hinfo
  rcases hrow with ⟨rfl, rfl, rfl | ⟨ad, c, rfl, hc⟩⟩ | ⟨h0, b, off, c, rfl, h2, h3, h4⟩
  · refine wpList_append_own_none hgd s x t ho base e i size ht hi v n xs hs hown hx ?_
    have := h v w (by simpa using hown) ⟨rfl, rfl, rfl, Nat.le_refl _, fun _ _ _ => rfl⟩
    exact this
  · exact wpList_append_own (w := w) hgd s x t ho base e i z size bytes ht hi hz0 hz1 hz2 hzs hsz v n xs hs hown ad 0 c [] hx (by simp) (by simp) (by simp) h63 hbytes hbase fun v' w' h5 h6 _ => h v' w' h5 h6
  · exact wpList_append_own (w := w) hgd s x t ho base e i z size bytes ht hi hz0 hz1 hz2 hzs hsz v n xs hs hown ⟨b, off, none⟩ m c news hx hl (fun j u hu => by rw [Addr.add_lit]; exact h4 j u hu) h1 h63 hbytes hbase fun v' w' h5 h6 _ => h v' w' h5 h6

theorem wp_append_row {P : Program} {w : World} {o : Oper} {a : Act} {K : Act → World → Prop} {Q : Exit → Act → World → Prop} (s x : Operand) (t : TypeId)
    (ho : o.op = .call { callee := .builtin .append, args := #[s, x], argTypes := #[t, t] })
    (base : Nat) (e : TypeId) {z : Value} {size bytes : Nat} (ht : P.underlying t = some (.slice e)) (hinfo : (P.info? e).map (fun i => (i.zero, i.size, i.bytes)) = some (some z, size, bytes)) (hzs : z.cells.size = size) (hsz : 0 < size)
    {v : Value} {n : Nat} {xs : List Value} (hs : a.eval s = v) (hown : w.ownsRow base e size v n xs)
    {xv : Value} {m : Nat} {news : List Value} (hx : a.eval x = xv) (hrow : Row w xv m news) (hl : news.length = m * size) (h1 : ∀ u ∈ news, u.oneCell' = true)
    (h63 : n + m ≤ maxLen) (hbytes : (n + m) * bytes ≤ 140737488355328) (hbase : base ≤ w.heap.size)
    (h : ∀ v' w', w'.ownsRow base e size v' (n + m) (xs ++ news) → w.grownBy w' v.ownBlock → K (a.put o.dst v') w') : o.wp P a w K Q := by
  obtain ⟨i, hi, hz0, hz1, hz2⟩ := info_parts hinfo
  rcases hrow with ⟨rfl, rfl, rfl | ⟨ad, c, rfl, hc⟩⟩ | ⟨h0, b, off, c, rfl, h2, h3, h4⟩
  · have hrun := run_append_owned_none (P := P) (w := w) base t o.type e i size ht hi v n xs hown
    unfold Oper.wp
    simp [execOp, ho, resolve, invoke, builtin, hs, hx, hrun, Result.andThen]
    have := h v w (by simpa using hown) ⟨rfl, rfl, rfl, Nat.le_refl _, fun _ _ _ => rfl⟩
    exact this
  · exact wp_append_own w s x t ho base e i z size bytes ht hi hz0 hz1 hz2 hzs hsz v n xs hs hown ad 0 c [] hx (by simp) (by simp) (by simp) h63 hbytes hbase fun v' w' h5 h6 _ => h v' w' h5 h6
  · exact wp_append_own w s x t ho base e i z size bytes ht hi hz0 hz1 hz2 hzs hsz v n xs hs hown ⟨b, off, none⟩ m c news hx hl (fun j u hu => by rw [Addr.add_lit]; exact h4 j u hu) h1 h63 hbytes hbase fun v' w' h5 h6 _ => h v' w' h5 h6

/-- The same at a step of a region that draws its order. -/
theorem step_append_row {P : Program} {w : World} {ops : Array Oper} {o : Oper} {a : Act} {K : Act → World → Prop} {Q : Exit → Act → World → Prop} {E : Prop} (hgd : o.guard = none) (s x : Operand) (t : TypeId)
    (ho : o.op = .call { callee := .builtin .append, args := #[s, x], argTypes := #[t, t] })
    (base : Nat) (e : TypeId) {z : Value} {size bytes : Nat} (ht : P.underlying t = some (.slice e)) (hinfo : (P.info? e).map (fun i => (i.zero, i.size, i.bytes)) = some (some z, size, bytes)) (hzs : z.cells.size = size) (hsz : 0 < size)
    {v : Value} {n : Nat} {xs : List Value} (hs : a.eval s = v) (hown : w.ownsRow base e size v n xs)
    {xv : Value} {m : Nat} {news : List Value} (hx : a.eval x = xv) (hrow : Row w xv m news) (hl : news.length = m * size) (h1 : ∀ u ∈ news, u.oneCell' = true)
    (h63 : n + m ≤ maxLen) (hbytes : (n + m) * bytes ≤ 140737488355328) (hbase : base ≤ w.heap.size)
    (h : ∀ v' w', w'.ownsRow base e size v' (n + m) (xs ++ news) → w.grownBy w' v.ownBlock → K (a.put o.dst v') w') : if Region.wanted o (yielded ops a.tmps) = true then Oper.wp P o a w K Q else E := by
  have hw : Region.wanted o (yielded ops a.tmps) = true := by simp [Region.wanted, hgd]
  rw [if_pos hw]
  exact wp_append_row s x t ho base e ht hinfo hzs hsz hs hown hx hrow hl h1 h63 hbytes hbase h

theorem grown_below {B : Nat} {w0 w w' : World} {base : Nat} {e : TypeId} {size : Nat} {v : Value} {n : Nat} {xs : List Value} (hb : Below B w0 w) (hown : w.ownsRow base e size v n xs) (hB : B ≤ base) (hw : B ≤ w.heap.size) (hg : w.grownBy w' v.ownBlock) : Below B w0 w' :=
  hb.grown hg hw fun k hk => by have := (hown.lt k hk).1; omega

theorem Row.lit {w : World} (e : TypeId) (u : Value) : Row (w.alloc (.cells #[u] e)) (.slice (some ⟨w.heap.size, 0, none⟩) 1 1) 1 [u] :=
  Row.owns (World.ownsRow_lit (base := 0) (size := 1) w #[u] 1 (Nat.zero_le _) (by decide) rfl)
theorem Row.drew {w : World} {v : Value} {n : Nat} {xs : List Value} (h : Row w v n xs) : Row w.drew v n xs := h.mono ((Reg.Ext.refl w).drew)
theorem Row.grown {w w' : World} {b o c n : Nat} {xs : List Value} {row : Option Nat} (h : Row w (.slice (some ⟨b, o, none⟩) n c) n xs) (hg : w.grownBy w' row) (hne : some b ≠ row) : Row w' (.slice (some ⟨b, o, none⟩) n c) n xs := by
  rcases h with ⟨h0, h1, h2⟩ | ⟨h0, b', off, c', h1, h2, h3, h4⟩
  · exact .inl ⟨h0, h1, h2⟩
  · simp only [Value.slice.injEq, Option.some.injEq, Addr.mk.injEq] at h1
    obtain ⟨⟨rfl, rfl, _⟩, _, rfl⟩ := h1
    refine .inr ⟨h0, b, o, c, rfl, h2, h3, fun i u hu => ?_⟩
    have := h4 i u hu
    rw [World.cell?_of_block (w := w) (hg.block b (Reg.Ext.lt this) hne)]
    exact this

/-- What x[l:] and x[:h] are. -/
def lowOf (size l : Nat) : Value → Value
  | .slice a n c => sliced a l n c size
  | v => v
def highOf (size h : Nat) : Value → Value
  | .slice a _ c => sliced a 0 h c size
  | v => v
theorem run_lowOf {P : Program} {w : World} {t e : TypeId} {xv : Value} {n size : Nat} {xs : List Value} (k : IntKind) (l : Nat) (ht : P.underlying t = some (.slice e)) (hsz : ∀ w, (sizeOf e).run P w = .ok size w) (h : Row w xv n xs) (hl : l ≤ n) (w' : World) :
    (Instr.sliceAt t xv (some (.int k (l : Int))) none none).run P w' = .ok (lowOf size l xv) w' := by
  have he : P.elem t = e := by simp [Program.elem, ht]
  have ht' : P.underlying t = some (.slice (P.elem t)) := by rw [he]; exact ht
  obtain ⟨a, c, rfl⟩ : ∃ a c, xv = .slice a n c := by
    rcases h with ⟨rfl, _, rfl | ⟨a, c, rfl, _⟩⟩ | ⟨_, b, off, c, rfl, _⟩
    · exact ⟨_, _, rfl⟩
    · exact ⟨_, _, rfl⟩
    · exact ⟨_, _, rfl⟩
  rw [run_sliceAt_slice w' t _ _ _ _ ht', run_slice_l w' t _ _ _ ht' k _ (by omega) (by omega), he, hsz]
  simp [Result.andThen, lowOf]
theorem run_highOf {P : Program} {w : World} {t e : TypeId} {xv : Value} {n size : Nat} {xs : List Value} (k : IntKind) (l : Nat) (ht : P.underlying t = some (.slice e)) (hsz : ∀ w, (sizeOf e).run P w = .ok size w) (h : Row w xv n xs) (hl : l ≤ n) (w' : World) :
    (Instr.sliceAt t xv none (some (.int k (l : Int))) none).run P w' = .ok (highOf size l xv) w' := by
  have he : P.elem t = e := by simp [Program.elem, ht]
  have ht' : P.underlying t = some (.slice (P.elem t)) := by rw [he]; exact ht
  obtain ⟨a, c, rfl, hc⟩ : ∃ a c, xv = .slice a n c ∧ n ≤ c := by
    rcases h with ⟨rfl, _, rfl | ⟨a, c, rfl, _⟩⟩ | ⟨_, b, off, c, rfl, hc, _⟩
    · exact ⟨_, _, rfl, by omega⟩
    · exact ⟨_, _, rfl, by omega⟩
    · exact ⟨_, _, rfl, hc⟩
  rw [run_sliceAt_slice w' t _ _ _ _ ht', run_slice_h w' t _ _ _ ht' k _ (by omega) (by omega), he, hsz]
  simp [Result.andThen, highOf]
theorem Row.low {w : World} {xv : Value} {n size : Nat} {xs : List Value} (l : Nat) (h : Row w xv n xs) (hlen : xs.length = n * size) (hl : l ≤ n) : Row w (lowOf size l xv) (n - l) (xs.drop (l * size)) := by
  rcases h with ⟨rfl, rfl, rfl | ⟨a, c, rfl, hc⟩⟩ | ⟨h0, b, off, c, rfl, h2, h3, h4⟩
  · obtain rfl : l = 0 := by omega
    exact .inl ⟨rfl, by simp, .inl (by simp [lowOf, sliced])⟩
  · obtain rfl : l = 0 := by omega
    exact .inl ⟨rfl, by simp, .inr ⟨a, c, by simp [lowOf, sliced, Addr.add], hc⟩⟩
  · unfold lowOf sliced
    by_cases hln : n - l = 0
    · obtain rfl : l = n := by omega
      refine .inl ⟨hln, List.drop_eq_nil_of_le (by omega), .inr ?_⟩
      simp only [hln]
      by_cases hcl : c = l
      · exact ⟨_, _, by rw [if_pos hcl], by omega⟩
      · exact ⟨_, _, by rw [if_neg hcl]; rfl, by omega⟩
    · simp only []
      rw [if_neg (by omega : ¬ c = l)]
      refine .inr ⟨by omega, b, off + l * size, c - l, by simp [Addr.add_lit], by omega, by omega, fun i u hu => ?_⟩
      rw [List.getElem?_drop] at hu
      have := h4 _ _ hu
      rw [Nat.add_assoc]; exact this
theorem Row.high {w : World} {xv : Value} {n size : Nat} {xs : List Value} (l : Nat) (h : Row w xv n xs) (hl : l ≤ n) : Row w (highOf size l xv) l (xs.take (l * size)) := by
  rcases h with ⟨rfl, rfl, rfl | ⟨a, c, rfl, hc⟩⟩ | ⟨h0, b, off, c, rfl, h2, h3, h4⟩
  · obtain rfl : l = 0 := by omega
    exact .inl ⟨rfl, by simp, .inl (by simp [highOf, sliced])⟩
  · obtain rfl : l = 0 := by omega
    exact .inl ⟨rfl, by simp, .inr ⟨a, c, by simp [highOf, sliced, Addr.add], hc⟩⟩
  · unfold highOf sliced
    have hv : (if c = 0 then some (⟨b, off, none⟩ : Addr) else (some (⟨b, off, none⟩ : Addr)).map (·.add (0 * size))) = some ⟨b, off, none⟩ := by simp [Addr.add]
    simp only [hv]
    by_cases hl0 : l = 0
    · subst hl0
      exact .inl ⟨rfl, by simp, .inr ⟨_, _, rfl, by omega⟩⟩
    · refine .inr ⟨by omega, b, off, c, rfl, by omega, h3, fun i u hu => h4 i u ?_⟩
      rw [List.getElem?_take] at hu
      split at hu
      · exact hu
      · cases hu

theorem wpList_sliceR {P : Program} {w : World} {ops : Array Oper} {rest : List Oper} {o : Oper} {a : Act} {Q : Exit → Act → World → Prop} (hgd : o.guard = none) (x : Operand) (t : TypeId) (lo hi : Option Operand)
    (ho : o.op = .slice t x lo hi none) {v' : Value} (hrun : (Instr.sliceAt t (a.eval x) (lo.map a.eval) (hi.map a.eval) none).run P w = .ok v' w) (h : wpList P ops Q rest (a.put o.dst v') w) : wpList P ops Q (o :: rest) a w := by
  refine wpList_plain hgd fun K hK => ?_
  unfold Oper.wp
  simp only [execOp, ho, Option.map_none, Sem.run_bind, hrun, Result.andThen_ok, Sem.run_pure]
  exact hK _ _ h

def ints (L : List Int) : List Value := L.map (Value.int .i64)
theorem ints_len (L : List Int) : (ints L).length = L.length := by simp [ints]
theorem ints_one (L : List Int) : ∀ u ∈ ints L, u.oneCell' = true := by
  intro u hu
  simp only [ints, List.mem_map] at hu
  obtain ⟨x, _, rfl⟩ := hu
  rfl
theorem ints_append (L M : List Int) : ints L ++ ints M = ints (L ++ M) := by simp [ints]

theorem ownsRow_ext {w w' : World} {base : Nat} {e : TypeId} {size : Nat} {v : Value} {n : Nat} {xs : List Value} (h : w.ownsRow base e size v n xs) (hE : Reg.Ext w w') : w'.ownsRow base e size v n xs :=
  h.kept (row := none) ⟨hE.os, hE.tape, hE.output, hE.size, fun k hk _ => hE.block k hk⟩ (by
    cases hv : v.ownBlock with
    | none => exact .inl rfl
    | some g => exact .inr (by simp))

/-- A slice of integers that reads as the list L. -/
def IntsV (w : World) (v : Value) (L : List Int) : Prop := Row w v L.length (ints L)
theorem IntsV.mono {w w' : World} {v : Value} {L : List Int} (h : IntsV w v L) (hE : Reg.Ext w w') : IntsV w' v L := Row.mono h hE
theorem IntsV.owns {w : World} {base : Nat} {e : TypeId} {v : Value} {n : Nat} {L : List Int} (h : w.ownsRow base e 1 v n (ints L)) (hn : n = L.length) : IntsV w v L := by
  subst hn; exact Row.owns h
theorem ints_at (L : List Int) (i : Nat) (h : i < L.length) : (ints L)[i]? = some (.int .i64 (L.getD i 0)) := by simp [ints, h]

theorem ext_of_grown {w w' : World} (h : w.grownBy w' none) : Reg.Ext w w' := ⟨h.os, h.tape, h.output, h.size, fun k hk => h.block k hk (by simp)⟩
theorem made_ints (n : Nat) : (madeCells #[Value.int .i64 0] n).toList = ints (List.replicate n 0) := by
  simp [madeCells, ints]
  apply List.ext_getElem (by simp)
  intro i h1 h2
  simp [Nat.mod_one]
theorem ints_set (L : List Int) (j : Nat) (c : Int) : (ints L).set j (.int .i64 c) = ints (L.set j c) := by simp [ints, List.map_set]
/-- A cell of an owned row of integers. -/
theorem own_cell {w : World} {base : Nat} {e : TypeId} {g n cap : Nat} {L : List Int} (h : w.ownsRow base e 1 (.slice (some ⟨g, 0, none⟩) n cap) n (ints L)) (j : Nat) (hj : j < n) : w.cell? ⟨g, j, none⟩ = some (.int .i64 (L.getD j 0)) := by
  rw [h.cellAt j (by omega), ints_at L j (by have := h.1; rw [ints_len] at this; omega)]

/-- A store into an owned row of integers. -/
theorem own_set {w w0 : World} {base : Nat} {e : TypeId} {g n cap : Nat} {L : List Int} (h : w.ownsRow base e 1 (.slice (some ⟨g, 0, none⟩) n cap) n (ints L)) (j : Nat) (c : Int) (hb : Reg.Ext w0 w) (hg : w0.heap.size ≤ g) :
    (w.setCell ⟨g, j, none⟩ (.int .i64 c)).ownsRow base e 1 (.slice (some ⟨g, 0, none⟩) n cap) n (ints (L.set j c)) ∧ Reg.Ext w0 (w.setCell ⟨g, j, none⟩ (.int .i64 c)) :=
  ⟨by rw [← ints_set]; exact (h.stored j _).1, Below.setCell hb hg _⟩

end Mem
end Go.Proofs.YtkaalpdfppbdeaaDoor
