/- Texts of the proof, part 3. -/
import Derived.Test.YtbpgndbjbaoolaaGreatCardTLB2
/- Pure walks, sixth part: append, regions that draw their order, calls and their results. No program in sight. -/
namespace Go.Proofs.YtbpgndbjbaoolaaGreat
set_option linter.unusedVariables false
set_option linter.unusedSimpArgs false
namespace PW
open Go.RowKit Reg Mem

section
variable {P : Program} {σ : Sto} {t : Tms} {o : Oper}

/-- Append to a row that the call owns: where the new row lies. -/
theorem run_append_where {w : World} (base : Nat) (t ty e : TypeId) (i : TypeInfo) (z : Value) (size bytes : Nat) (ht : P.underlying t = some (.slice e)) (hi : P.info? e = some i) (hz : i.zero = some z)
    (hsize : i.size = size) (hby : i.bytes = bytes) (hzs : z.cells.size = size) (hsz : 0 < size)
    (v : Value) (n : Nat) (xs : List Value) (hown : w.ownsRow base e size v n xs)
    (a : Addr) (m c : Nat) (news : List Value) (hl : news.length = m * size) (hnews : ∀ (j : Nat) u, news[j]? = some u → w.cell? (a.add j) = some u) (h1 : ∀ u ∈ news, u.oneCell' = true)
    (h63 : n + m ≤ maxLen) (hbytes : (n + m) * bytes ≤ 140737488355328) (hbase : base ≤ w.heap.size) :
    ∃ v' w', (Builtin.append_ #[t, t] ty #[v, .slice (some a) m c]).run P w = .ok v' w' ∧ w'.ownsRow base e size v' (n + m) (xs ++ news) ∧ w.grownBy w' v.ownBlock ∧ (v'.ownBlock = v.ownBlock ∨ v'.ownBlock = some w.heap.size) := by
  obtain ⟨v', w', hr, h2, h3, _⟩ := run_append_own (P := P) w base t ty e i z size bytes ht hi hz hsize hby hzs hsz v n xs hown a m c news hl hnews h1 h63 hbytes hbase
  refine ⟨v', w', hr, h2, h3, ?_⟩
  subst hsize
  subst hby
  have hsmall : n + m ≤ 9223372036854775807 := by simp only [maxLen] at h63; omega
  rcases hown.2 with ⟨rfl, rfl⟩ | ⟨g, cap, cur, rfl, hbg, hg, hnc, hcm, hcs, htake⟩
  · by_cases hm : m = 0
    · subst hm
      rcases h2.2 with ⟨rfl, _⟩ | ⟨g', cap', cur', rfl, k1, k2, _⟩
      · exact .inl rfl
      · have hn : news = [] := List.eq_nil_of_length_eq_zero (by simpa using hl)
        subst hn
        have hr' : (Builtin.append_ #[t, t] ty #[.slice none 0 0, .slice (some a) 0 c]).run P w = .ok (.slice none 0 0) w := by
          simp [Builtin.append_, run_underlying ht, sizeOf, typeInfo, hi, Builtin.lenOf, Builtin.firstCells, loadCells, loadCellsFrom]
        rw [hr'] at hr
        cases hr
    · have hr' := run_append_nil (P := P) w t ty e i z ht hi hz a m c news hl hnews (by omega) (by omega) (by have hb := hbytes; simp only [Nat.zero_add] at hb; omega)
      rw [hr'] at hr
      cases hr
      exact .inr rfl
  · by_cases hroom : n + m ≤ cap
    · have hfit : n * i.size + news.length ≤ cur.size := by rw [hl, hcs, ← Nat.add_mul]; exact Nat.mul_le_mul_right _ hroom
      have hr' := run_append_room (P := P) w t ty e i ht hi g n cap cur hg a m c news hl hnews h1 hroom hfit
      rw [hr'] at hr
      cases hr
      exact .inl rfl
    · have holds : ∀ (j : Nat) u, xs[j]? = some u → w.cell? ((⟨g, 0, none⟩ : Addr).add j) = some u := hown.cells (g := g) rfl
      have hr' := run_append_grow (P := P) w t ty e i z ht hi hz ⟨g, 0, none⟩ n cap xs hown.1 holds a m c news hl hnews (by omega) (by omega) (growslice_fits (by omega) hbytes)
      rw [hr'] at hr
      cases hr
      exact .inr rfl

/-- A row is replaced by another one, which lies at the same place or is new. -/
theorem Sat.swap {F : Nat → Prop} {base : Nat} {E : Env} {w w' : World} (hS : Sat F base σ E w) {i : Nat} {bi blk : Blk} (hi : σ[i]? = some (some bi)) {v : Value} (hs : w.heap.size ≤ w'.heap.size) (ho : ∀ k, k < w.heap.size → blockOf (E.at_ i) ≠ some k → w'.heap[k]? = w.heap[k]?)
    (hv : ∀ b, blockOf v = some b → blockOf (E.at_ i) = some b ∨ w.heap.size ≤ b) (hb : ∀ E', Goes E w E' w' → BlkSat base E' w' v blk) :
    Sat F base (σ.set i none ++ [some blk]) ((E.kill i).push v) w' ∧ Goes E w ((E.kill i).push v) w' := by
  have hiM : ∀ b, blockOf (E.at_ i) = some b → E.M b := fun b h => (hS.mm b).2 (.inr ⟨i, bi, hi, h⟩)
  obtain ⟨hK, gK⟩ := hS.kill i hi
  have g : Goes E w ((E.kill i).push v) w' := by
    refine ⟨Nat.le_succ _, fun j hj => by simp [Env.push, Env.kill, Nat.ne_of_lt hj], fun b hb hM h => ?_, hs, fun b hb hM => ho b hb (fun e => hM (hiM b e))⟩
    rcases h with h | h
    · exact hM h.1
    · rcases hv b h with h' | h'
      · exact hM (hiM b h')
      · omega
  have hlen : (σ.set i none).length = σ.length := by simp
  have hat : ∀ j, j < σ.length → ((E.kill i).push v).at_ j = E.at_ j := fun j hj => g.at_ j (by rw [hS.len]; exact hj)
  have hnew : ((E.kill i).push v).at_ σ.length = v := by simp [Env.push, Env.kill, hS.len]
  have split : ∀ j (b : Blk), (σ.set i none ++ [some blk])[j]? = some (some b) → (j < σ.length ∧ j ≠ i ∧ σ[j]? = some (some b)) ∨ (j = σ.length ∧ b = blk) := fun j b h => by
    by_cases hj : j < σ.length
    · rw [List.getElem?_append_left (by rw [hlen]; exact hj)] at h
      obtain ⟨h1, h2⟩ := set_none h
      exact .inl ⟨hj, h1, h2⟩
    · rw [List.getElem?_append_right (by rw [hlen]; omega), hlen] at h
      have : j - σ.length = 0 := by
        rcases Nat.eq_zero_or_pos (j - σ.length) with h' | h'
        · exact h'
        · rw [List.getElem?_eq_none (by simp; omega)] at h; cases h
      rw [this] at h
      simp at h
      exact .inr ⟨by omega, h.symm⟩
  have hne : ∀ j (b : Blk) k, σ[j]? = some (some b) → j ≠ i → blockOf (E.at_ j) = some k → blockOf (E.at_ i) ≠ some k := fun j b k h1 h2 h3 h4 => h2 (hS.inj j i b bi k h1 hi h3 h4)
  have hapart : ∀ j (b : Blk) k, σ[j]? = some (some b) → j ≠ i → blockOf (E.at_ j) = some k → blockOf v ≠ some k := fun j b k h1 h2 h3 h4 => by
    rcases hv k h4 with h' | h'
    · exact hne j b k h1 h2 h3 h'
    · have := ((hS.blk j b h1).lt h3).2; omega
  refine ⟨⟨Nat.le_trans hS.bl hs, fun b hb' => ⟨Nat.lt_of_lt_of_le (hS.fb b hb').1 hs, fun j bl hj => ?_⟩, by simp [Env.push, Env.kill, hS.len], fun b => ?_, fun j bl hj => ?_, fun j k bj bk b hj hk h1 h2 => ?_, hS.gl.goes g⟩, g⟩
  · rcases split j bl hj with ⟨h1, h2, h3⟩ | ⟨rfl, _⟩
    · rw [hat j h1]; exact (hS.fb b hb').2 j bl h3
    · rw [hnew]; intro h
      rcases hv b h with h' | h'
      · exact (hS.fb b hb').2 i bi hi h'
      · have := (hS.fb b hb').1; omega
  · constructor
    · rintro (h | h)
      · rcases (hS.mm b).1 h.1 with h' | ⟨j, bl, h1, h2⟩
        · exact .inl h'
        · have hj : j < σ.length := (List.getElem?_eq_some_iff.1 h1).1
          have hji : i ≠ j := fun e => by rw [← e] at h2; exact h.2 h2
          exact .inr ⟨j, bl, by rw [List.getElem?_append_left (by rw [hlen]; exact hj), List.getElem?_set, if_neg hji]; exact h1, by rw [hat j hj]; exact h2⟩
      · exact .inr ⟨σ.length, blk, by rw [List.getElem?_append_right (by rw [hlen]; exact Nat.le_refl _)]; simp, by rw [hnew]; exact h⟩
    · rintro (h | ⟨j, bl, h1, h2⟩)
      · exact .inl ⟨(hS.mm b).2 (.inl h), (hS.fb b h).2 i bi hi⟩
      · rcases split j bl h1 with ⟨h3, h4, h5⟩ | ⟨rfl, _⟩
        · rw [hat j h3] at h2
          exact .inl ⟨(hS.mm b).2 (.inr ⟨j, bl, h5, h2⟩), hne j bl b h5 h4 h2⟩
        · rw [hnew] at h2; exact .inr h2
  · rcases split j bl hj with ⟨h1, h2, h3⟩ | ⟨rfl, rfl⟩
    · rw [hat j h1]
      exact (hS.blk j bl h3).goes g (fun b hb => ho b ((hS.blk j bl h3).lt hb).2 (hne j bl b h3 h2 hb))
    · rw [hnew]; exact hb _ g
  · rcases split j bj hj with ⟨a1, a2, a3⟩ | ⟨rfl, rfl⟩ <;> rcases split k bk hk with ⟨c1, c2, c3⟩ | ⟨rfl, rfl⟩
    · rw [hat j a1] at h1; rw [hat k c1] at h2; exact hS.inj j k bj bk b a3 c3 h1 h2
    · rw [hat j a1] at h1; rw [hnew] at h2; exact absurd h2 (hapart j bj b a3 a2 h1)
    · rw [hnew] at h1; rw [hat k c1] at h2; exact absurd h1 (hapart k bk b c3 c2 h2)
    · rfl

/-- The cells behind a plain slice. -/
theorem slice_cells {E : Env} {w : World} {v : Value} {m : Nat} {ys : List PV} (h : Rep E w v (.slice m ys)) : (v = .slice none 0 0 ∧ m = 0 ∧ ys = []) ∨ ∃ (a : Addr) (c : Nat) (news : List Value), v = .slice (some a) m c ∧ (∀ (j : Nat) u, news[j]? = some u → w.cell? (a.add j) = some u) ∧ RepL E w news ys := by
  cases h with
  | nils => exact .inl ⟨rfl, rfl, rfl⟩
  | empty a c h => exact .inr ⟨a, c, [], rfl, fun j u hu => by simp at hu, RepL.nil E w⟩
  | slice b off _ c cs _ h0 h1 h2 hb hM hc hl hr => exact .inr ⟨_, _, cs, rfl, fun j u hu => by rw [Addr.add_lit]; exact hc j u hu, hl, hr⟩
theorem append_loud {ty e s by' n m i : Nat} {z : List Value} {xs ys : List PV} {x y : Operand} {p : PV} (ho : o.op = .call { callee := .builtin .append, args := #[x, y], argTypes := #[ty, ty] }) (hk : rowK P ty = some (e, s, by', z)) (hx : evalO t x = some (.own i)) (hi : σ[i]? = some (some (.row e s n xs)))
    (hy : evalO t y = some p) (hys : ∀ F base E w v, Sat F base σ E w → Rep E w v p → (v = .slice none 0 0 ∧ m = 0 ∧ ys = []) ∨ ∃ (a : Addr) (c : Nat) (news : List Value), v = .slice (some a) m c ∧ (∀ (j : Nat) u, news[j]? = some u → w.cell? (a.add j) = some u) ∧ RepL E w news ys) (hl : ys.length = m * s) (hn : n + m ≤ maxLen ∧ (n + m) * by' ≤ 140737488355328) [IsOneL ys] :
    Loud P σ t o (.own σ.length) (σ.set i none ++ [some (.row e s (n + m) (xs ++ ys))]) := by
  intro F base E ρ w hρ hS hT
  have h1 := evalO_rep hρ hT hx
  have h2 := hys F base E w (ρ y) hS (evalO_rep hρ hT hy)
  generalize hz1 : ρ x = v at h1
  generalize hz2 : ρ y = u at h2
  obtain ⟨hu, inf, z', hinf, hs, hby, hz, hzz, hzs, hpos⟩ := rowK_spec hk
  cases h1 with
  | own _ hiL _ hat hone =>
    obtain ⟨cs, k1, k2⟩ := hS.blk i _ hi
    rw [hat] at k1
    have hob : blockOf (E.at_ i) = v.ownBlock := by rw [hat]; exact own_block k1
    have key : ∀ v' w', (execOp ρ o).run P w = .ok (.value v') w' → ∀ news, RepL E w news ys → w'.ownsRow base e s v' (n + m) (cs ++ news) → w.grownBy w' v.ownBlock → (v'.ownBlock = v.ownBlock ∨ v'.ownBlock = some w.heap.size) →
        ∃ v w' E', ((execOp ρ o).run P w = .ok (.value v) w' ∨ (v = undef ∧ (execOp ρ o).run P w = .ok .skip w')) ∧ Sat F base (σ.set i none ++ [some (.row e s (n + m) (xs ++ ys))]) E' w' ∧ Goes E w E' w' ∧ Below base w w' ∧ Rep E' w' v (.own σ.length) := by
      intro v' w' hr news hnw hown hg hw
      have hv' : ∀ b, blockOf v' = some b → blockOf (E.at_ i) = some b ∨ w.heap.size ≤ b := fun b hb => by
        rw [own_block hown] at hb
        rcases hw with h | h
        · rw [hob, ← h]; exact .inl hb
        · rw [h] at hb; cases hb; exact .inr (Nat.le_refl _)
      obtain ⟨a1, a2⟩ := hS.swap (w' := w') (blk := .row e s (n + m) (xs ++ ys)) hi hg.size (fun k hk hne => hg.block k hk (by rw [← hob]; exact Ne.symm hne)) hv' (fun E' g => ⟨cs ++ news, hown, (k2.append hnw).goes g⟩)
      refine ⟨v', w', _, .inl hr, a1, a2, ⟨hg.os, hg.tape, hg.output, hg.size, fun k hk => hg.block k (Nat.lt_of_lt_of_le hk hS.bl) (fun e => ?_)⟩, .own σ.length (by simp [Env.push, Env.kill, hS.len]) v' (by simp [Env.push, Env.kill, hS.len]) ?_⟩
      · have := (k1.lt k e.symm).1; omega
      · rcases hown.2 with ⟨rfl, _⟩ | ⟨g', cap, cur, rfl, _⟩ <;> rfl
    rcases h2 with ⟨rfl, rfl, rfl⟩ | ⟨a, c, news, rfl, hc, hR⟩
    · have hrun := run_append_owned_none (P := P) (w := w) base ty o.type e inf s hu hinf v n cs k1
      have hr : (execOp ρ o).run P w = .ok (.value v) w := by
        simp [execOp, ho, resolve, invoke, builtin, hz1, hz2, hrun]
      exact key v w hr [] (RepL.nil _ _) (by simpa using k1) ⟨rfl, rfl, rfl, Nat.le_refl _, fun _ _ _ => rfl⟩ (.inl rfl)
    · obtain ⟨v', w', hrun, r1, r2, r3⟩ := run_append_where (P := P) (w := w) base ty o.type e inf z' s by' hu hinf hz hs hby hzs hpos v n cs k1 a m c news (by rw [hR.1, hl]) hc hR.oneCell hn.1 hn.2 hS.bl
      have hr : (execOp ρ o).run P w = .ok (.value v') w' := by
        simp only [execOp, ho, resolve, invoke, builtin, Sem.run_bind, Sem.run_pure, Result.andThen_ok, List.map_toArray, List.map_cons, List.map_nil, hz1, hz2, hrun]
      exact key v' w' hr news hR r1 r2 r3
/-- Append of a plain slice to a row of the call's own. -/
theorem l_append {ty e s by' n m i : Nat} {z : List Value} {xs ys : List PV} {x y : Operand} (ho : o.op = .call { callee := .builtin .append, args := #[x, y], argTypes := #[ty, ty] }) (hk : rowK P ty = some (e, s, by', z)) (hx : evalO t x = some (.own i)) (hi : σ[i]? = some (some (.row e s n xs)))
    (hy : evalO t y = some (.slice m ys)) (hl : ys.length = m * s) (hn : n + m ≤ maxLen ∧ (n + m) * by' ≤ 140737488355328) [IsOneL ys] :
    Loud P σ t o (.own σ.length) (σ.set i none ++ [some (.row e s (n + m) (xs ++ ys))]) := by
  exact append_loud ho hk hx hi hy (fun F base E w v _ hv => slice_cells hv) hl hn
theorem l_appendNil {ty e s by' n i : Nat} {z : List Value} {xs : List PV} {x y : Operand} (ho : o.op = .call { callee := .builtin .append, args := #[x, y], argTypes := #[ty, ty] }) (hk : rowK P ty = some (e, s, by', z)) (hx : evalO t x = some (.own i)) (hi : σ[i]? = some (some (.row e s n xs)))
    (hy : evalO t y = some (.raw (.slice none 0 0))) (hn : n + 0 ≤ maxLen ∧ (n + 0) * by' ≤ 140737488355328) :
    Loud P σ t o (.own σ.length) (σ.set i none ++ [some (.row e s (n + 0) (xs ++ []))]) :=
  append_loud ho hk hx hi hy (fun F base E w v _ hv => by cases hv; exact .inl ⟨rfl, rfl, rfl⟩) (by simp) hn
/-- Append of a row of the call's own to another one. -/
theorem l_appendOwn {ty e s by' n m i j e' : Nat} {z : List Value} {xs ys : List PV} {x y : Operand} (ho : o.op = .call { callee := .builtin .append, args := #[x, y], argTypes := #[ty, ty] }) (hk : rowK P ty = some (e, s, by', z)) (hx : evalO t x = some (.own i)) (hi : σ[i]? = some (some (.row e s n xs)))
    (hy : evalO t y = some (.own j)) (hj : σ[j]? = some (some (.row e' s m ys))) (hn : n + m ≤ maxLen ∧ (n + m) * by' ≤ 140737488355328) (hl : ys.length = m * s) [IsOneL ys] :
    Loud P σ t o (.own σ.length) (σ.set i none ++ [some (.row e s (n + m) (xs ++ ys))]) := by
  refine append_loud ho hk hx hi hy (fun F base E w v hS hv => ?_) hl hn
  cases hv with
  | own _ hjL _ hat _ =>
    obtain ⟨cs, k1, k2⟩ := hS.blk j _ hj
    rw [hat] at k1
    have k3 := k1
    rcases k1.2 with ⟨rfl, h0⟩ | ⟨g, cap, cur, rfl, _⟩
    · subst h0
      exact .inl ⟨rfl, rfl, List.eq_nil_of_length_eq_zero (by simpa using hl)⟩
    · exact .inr ⟨_, _, cs, rfl, k3.cells (g := g) rfl, k2⟩

section
variable {N L : Nat} {ops : Array Oper}
/-- A nil slice is taken for an empty row of the call's own. -/
theorem adopt {F : Nat → Prop} {base : Nat} {E : Env} {w : World} (hS : Sat F base σ E w) (e s : Nat) : Sat F base (σ ++ [some (.row e s 0 [])]) (E.push (.slice none 0 0)) w ∧ Goes E w (E.push (.slice none 0 0)) w ∧ Rep (E.push (.slice none 0 0)) w (.slice none 0 0) (.own σ.length) := by
  obtain ⟨a1, a2, _, a4⟩ := lay_row hS (Ext.refl w) (e := e) (s := s) (n := 0) (v := .slice none 0 0) (cs := []) (xs := []) (fun b h => by cases h) (World.ownsRow_nil w base e s) (RepL.nil E w)
  exact ⟨a1, a2, a4⟩
theorem RepT.put' {E : Env} {w : World} {ρ : Operand → Value} {t : Tms} (h : RepT E w ρ t) {k : Nat} {p : PV} (hv : Rep E w (ρ (.tmp k)) p) : RepT E w ρ ((k, p) :: t) := fun j q hj => by
  simp only [look] at hj
  rw [Bool.cond_eq_ite] at hj
  split at hj
  · rename_i he
    have := Nat.eq_of_beq_eq_true he
    subst this
    cases hj
    exact hv
  · exact h j q hj
theorem W_adopt {c : Code} {Q : Exit → St → Prop} (k e s : Nat) (hk : look k t = some (.raw (.slice none 0 0))) (h : W P N L c ⟨(k, .own σ.length) :: t, σ ++ [some (.row e s 0 [])]⟩ Q) : W P N L c ⟨t, σ⟩ Q := fun F base E₀ w₀ E a w hc hs => by
  obtain ⟨a1, a2, a3⟩ := adopt hs.sat e s
  have h1 := hs.tmp k _ hk
  generalize hz : a.eval (.tmp k) = z at h1
  cases h1
  exact h F base E₀ w₀ _ a w (hc.on a2 (Below.refl _ _)) ⟨a1, (hs.tmp.goes a2).put' (by rw [hz]; exact a3), hs.dfr, hs.size⟩
theorem WR_adopt {l : List Oper} {K : St → Prop} (k e s : Nat) (hk : look k t = some (.raw (.slice none 0 0))) (h : WR P N L ops l ⟨(k, .own σ.length) :: t, σ ++ [some (.row e s 0 [])]⟩ K) : WR P N L ops l ⟨t, σ⟩ K := by
  intro F base E₀ w₀ E a w hc hs Q j hQ hl
  obtain ⟨a1, a2, a3⟩ := adopt hs.sat e s
  have h1 := hs.tmp k _ hk
  generalize hz : a.eval (.tmp k) = z at h1
  cases h1
  exact h F base E₀ w₀ _ a w (hc.on a2 (Below.refl _ _)) ⟨a1, (hs.tmp.goes a2).put' (by rw [hz]; exact a3), hs.dfr, hs.size⟩ Q j hQ hl

/-- The temporaries of a list. -/
def pickT (t : Tms) : List Nat → Tms
  | [] => []
  | k :: ks => match look k t with
    | some p => (k, p) :: pickT t ks
    | none => pickT t ks
theorem look_pick : ∀ (ks : List Nat) (k : Nat) (p : PV), look k (pickT t ks) = some p → k ∈ ks ∧ look k t = some p
  | [], k, p, h => by cases h
  | j :: ks, k, p, h => by
    simp only [pickT] at h
    split at h
    · rename_i q hq
      simp only [look] at h
      rw [Bool.cond_eq_ite] at h
      split at h
      · rename_i he
        have := Nat.eq_of_beq_eq_true he
        subst this
        cases h
        exact ⟨List.mem_cons_self .., hq⟩
      · obtain ⟨h1, h2⟩ := look_pick ks k p h
        exact ⟨List.mem_cons_of_mem _ h1, h2⟩
    · obtain ⟨h1, h2⟩ := look_pick ks k p h
      exact ⟨List.mem_cons_of_mem _ h1, h2⟩
/-- A region of quiet operations that draws its order. ks: the temporaries that an operation looks at. -/
inductive ChainD (P : Program) (N : Nat) (ops : Array Oper) (σ : Sto) : List Oper → Tms → Tms → Prop
  | nil {t t' : Tms} : Sub t t' → ChainD P N ops σ [] t t'
  | val {o : Oper} {rest : List Oper} {t t' : Tms} {d : Nat} {p : PV} (ks : List Nat) : (ks.all fun k => (o.looksAt ops).contains k) = true → Yield P σ (pickT t ks) o p → o.dst = some d → wantB ops t o = some true → Nat.blt d N = true → ChainD P N ops σ rest ((d, p) :: t) t' → ChainD P N ops σ (o :: rest) t t'
  | skip {o : Oper} {rest : List Oper} {t t' : Tms} {d : Nat} : o.dst = some d → wantB ops t o = some false → Nat.blt d N = true → ChainD P N ops σ rest ((d, .raw undef) :: t) t' → ChainD P N ops σ (o :: rest) t t'

theorem wantB_looks {E : Env} {w : World} {ρ : Operand → Value} {b : Bool} (hT : ∀ k ∈ o.looksAt ops, ∀ p, look k t = some p → Rep E w (ρ (.tmp k)) p) (h : wantB ops t o = some b) : wantedR ops o ρ = b := by
  unfold wantB at h
  unfold wantedR
  split at h
  · rename_i hg; rw [hg]; cases h; rfl
  · rename_i j want hg
    rw [hg]
    simp only
    split at h
    · rename_i k hk
      simp only [hk]
      split at h
      · rename_i b' hb
        have := hT k (by simp [Oper.looksAt, hg, hk]) _ hb
        generalize ρ (.tmp k) = z at this
        cases this
        split at h
        · rename_i b'' hb''
          cases h
          simp [hb'']
        · rename_i hb''
          cases h
          simp [hb'']
      · cases h
    · cases h

def Knows (E : Env) (w : World) (α : Tmp → Know) (t : Tms) : Prop := ∀ k p, look k t = some p → ∀ v w', Ext w w' → α k v w' → Rep E w' v p
theorem Knows.put {E : Env} {w : World} {α : Tmp → Know} {d : Nat} {p : PV} (h : Knows E w α t) : Knows E w (upd α (some d) (fun v w' => Rep E w' v p)) ((d, p) :: t) := by
  intro k q hk v w' hE hv
  simp only [look] at hk
  rw [Bool.cond_eq_ite] at hk
  split at hk
  · rename_i he
    have := Nat.eq_of_beq_eq_true he
    subst this
    cases hk
    rw [upd_same] at hv
    exact hv
  · rename_i he
    have hne : k ≠ d := fun e => he (by rw [e]; exact Nat.beq_refl d)
    rw [upd_ne _ _ _ _ (fun e h' => by cases h'; exact hne)] at hv
    exact h k q hk v w' hE hv
theorem ChainD.abs {F : Nat → Prop} {base : Nat} {E : Env} {w : World} {C : World → Prop} (hC : ∀ w', C w' → Ext w w' ∧ Sat F base σ E w') {l : List Oper} {t t' : Tms} (h : ChainD P N ops σ l t t') {G : (Tmp → Know) → Prop} (hG : ∀ β, Knows E w β t' → G β) :
    ∀ α, Knows E w α t → wpAbs P ops C G l α := by
  induction h with
  | nil hs =>
    intro α hα
    refine hG α fun k p hk v w' hE hv => ?_
    obtain ⟨q, h1, h2⟩ := hs k p hk
    exact h2 E w' v (hα k q h1 v w' hE hv)
  | @val o rest t t' d p ks hks hy hd hw hN _ ih =>
    intro α hα
    refine ⟨fun v w' => Rep E w' v p, ⟨fun v w₁ w₂ hE hv => hv.ext hE, fun ρ w₁ hρ hw₁ hs => ?_⟩, by rw [hd]; exact ih hG _ hα.put⟩
    obtain ⟨hE, hS⟩ := hC w₁ hw₁
    have hwant := wantB_looks (ρ := ρ) (E := E) (w := w₁) (fun k hk p hp => hα k p hp _ w₁ hE (hs k hk)) hw
    unfold StepAt
    rw [hwant, if_pos rfl]
    refine hy F base E ρ w₁ hρ hS fun k q hk => ?_
    obtain ⟨h1, h2⟩ := look_pick ks k q hk
    refine hα k q h2 _ w₁ hE (hs k ?_)
    have := List.all_eq_true.1 hks k h1
    simpa using this
  | @skip o rest t t' d hd hw hN _ ih =>
    intro α hα
    refine ⟨fun v w' => Rep E w' v (.raw undef), ⟨fun v w₁ w₂ hE hv => hv.ext hE, fun ρ w₁ hρ hw₁ hs => ?_⟩, by rw [hd]; exact ih hG _ hα.put⟩
    obtain ⟨hE, hS⟩ := hC w₁ hw₁
    have hwant := wantB_looks (ρ := ρ) (E := E) (w := w₁) (fun k hk p hp => hα k p hp _ w₁ hE (hs k hk)) hw
    unfold StepAt
    rw [hwant, if_neg Bool.false_ne_true]
    exact .raw _
theorem wpFin_all {α : Tmp → Know} {w : World} {k : Array Value → Prop} : ∀ (D : List Tmp) (arr : Array Value), (∀ t ∈ D, t < arr.size) →
    (∀ b : Array Value, b.size = arr.size → (∀ t, t ∉ D → b.getD t undef = arr.getD t undef) → (∀ t ∈ D, α t (b.getD t undef) w) → k b) → wpFin α w k D arr
  | [], arr, _, h => h arr rfl (fun _ _ => rfl) (fun t ht => by cases ht)
  | t :: D, arr, hD, h => by
    intro x hx
    have ht : t < arr.size := hD t (List.mem_cons_self ..)
    refine wpFin_all D (arr.setIfInBounds t x) (fun s hs => by simpa using hD s (List.mem_cons_of_mem _ hs)) (fun b hb h1 h2 => h b (by simpa using hb) (fun s hs => ?_) (fun s hs => ?_))
    · have hst : s ≠ t := fun e => hs (by rw [e]; exact List.mem_cons_self ..)
      rw [h1 s (fun h' => hs (List.mem_cons_of_mem _ h'))]
      simp [Array.getElem?_setIfInBounds_ne (Ne.symm hst)]
    · by_cases hsD : s ∈ D
      · exact h2 s hsD
      · have : s = t := by
          rcases List.mem_cons.1 hs with h' | h'
          · exact h'
          · exact absurd h' hsD
        subst this
        rw [h1 s hsD]
        simpa [ht] using hx
theorem wpAbs_mono {C : World → Prop} {G G' : (Tmp → Know) → Prop} (h : ∀ β, G β → G' β) : ∀ (l : List Oper) (α : Tmp → Know), wpAbs P ops C G l α → wpAbs P ops C G' l α
  | [], _, hh => h _ hh
  | _ :: l, _, ⟨Φ, hy, hk⟩ => ⟨Φ, hy, wpAbs_mono h l _ hk⟩
theorem W_draw {id : Nat} {l : List Oper} {t t' : Tms} {σ : Sto} {Q : Exit → St → Prop} (D : List Nat) (hm : P.follows .mixedOrders = true) (hB : Region.lexB .any l.toArray = true) (hn : (l.all fun o => o.dst.all fun e => decide (e < N) && D.contains e) = true) (hD : (D.all fun e => decide (e < N)) = true)
    (h : ChainD P N l.toArray σ l t t') (hq : Q .normal ⟨t', σ⟩) : W P N L (.region id l.toArray true) ⟨t, σ⟩ Q := fun F base E₀ w₀ E a w hc hs => by
  obtain ⟨arr, ds⟩ := a
  have hsz : arr.size = N := hs.size
  refine wp_region_abs (fun w' => Sat F base σ E w') D (fun w₁ w₂ hE h => h.ext hE) hs.sat hm hB (by rw [hsz]; exact hn) ?_
  have hn' : ∀ o ∈ l, ∀ e, o.dst = some e → e ∈ D := fun o ho e he => by
    have := List.all_eq_true.1 hn o ho
    rw [he] at this
    simp at this
    exact this.2
  have h1 := h.abs (E := E) (w := w) (F := F) (base := base) (C := fun w' => Ext w w' ∧ Sat F base σ E w') (fun w' hw' => hw') (G := fun β => Knows E w β t') (fun β hβ => hβ) (fun t v _ => v = arr.getD t undef) (fun k p hk v w' hE hv => by
    subst hv
    have := hs.tmp k p hk
    simpa [Act.eval] using this.ext hE)
  have h2 := wpAbs_off (D := D) l _ (fun t v _ => v = arr.getD t undef) (fun _ _ => rfl) hn' h1
  refine wpAbs_mono (fun β hβ => ?_) l _ h2
  obtain ⟨hK, hoff⟩ := hβ
  intro w' hE hS'
  refine wpFin_all D arr (fun k hk => by have := List.all_eq_true.1 hD k hk; rw [hsz]; simpa using this) (fun b hb k1 k2 => ?_)
  refine ⟨⟨t', σ⟩, E, hq, ⟨hS', fun k p hk => hK k p hk _ w' hE ?_, hs.dfr, by rw [← hsz]; exact hb⟩, (hc.on (.ext hE) (Below.ofExt hE hs.sat.bl)).g, (hc.on (.ext hE) (Below.ofExt hE hs.sat.bl)).b⟩
  have he : (Act.eval ⟨b, ds⟩ (.tmp k)) = b.getD k undef := rfl
  rw [he]
  by_cases hkD : k ∈ D
  · exact k2 k hkD
  · rw [hoff k hkD]; exact k1 k hkD

theorem W_ds {id : Nat} {l : List Oper} {y : Code} {t t' : Tms} {σ : Sto} {Q : Exit → St → Prop} (D : List Nat) (hm : P.follows .mixedOrders = true) (hB : Region.lexB .any l.toArray = true) (hn : (l.all fun o => o.dst.all fun e => decide (e < N) && D.contains e) = true) (hD : (D.all fun e => decide (e < N)) = true)
    (h : ChainD P N l.toArray σ l t t') (hq : W P N L y ⟨t', σ⟩ Q) : W P N L (.seq (.region id l.toArray true) y) ⟨t, σ⟩ Q := W_seq (W_draw D hm hB hn hD h hq)
theorem W_drawB {id : Nat} {l : List Oper} {t : Tms} {σ : Sto} {Q : Exit → St → Prop} (D : List Nat) (hm : P.follows .mixedOrders = true) (hB : Region.lexB .any l.toArray = true) (hn : (l.all fun o => o.dst.all fun e => decide (e < N) && D.contains e) = true) (hD : (D.all fun e => decide (e < N)) = true) (k : Nat) (p : PV)
    (h : ChainD P N l.toArray σ l t ((k, p) :: t)) (hq : Q .normal ⟨(k, p) :: t, σ⟩) : W P N L (.region id l.toArray true) ⟨t, σ⟩ Q := W_draw D hm hB hn hD h hq
theorem W_dsB {id : Nat} {l : List Oper} {y : Code} {t : Tms} {σ : Sto} {Q : Exit → St → Prop} (D : List Nat) (hm : P.follows .mixedOrders = true) (hB : Region.lexB .any l.toArray = true) (hn : (l.all fun o => o.dst.all fun e => decide (e < N) && D.contains e) = true) (hD : (D.all fun e => decide (e < N)) = true) (k : Nat) (p : PV)
    (h : ChainD P N l.toArray σ l t ((k, p) :: t)) (hq : W P N L y ⟨(k, p) :: t, σ⟩ Q) : W P N L (.seq (.region id l.toArray true) y) ⟨t, σ⟩ Q := W_ds D hm hB hn hD h hq
/-- Results. -/
inductive ResV (P : Program) (st : St) : ResultVar → PV → Prop
  | tmp {k : Nat} {p : PV} : look k st.t = some p → ResV P st (.tmp k) p
  | cell1 {k i off : Nat} {ty : TypeId} {blk : Blk} {p : PV} : look k st.t = some (.ptr i off) → st.σ[i]? = some (some blk) → tyK P ty = some none → blk.xs[off]? = some p → ResV P st (.cell k ty) p
  | cellA {k i off n : Nat} {ty : TypeId} {blk : Blk} {ys : List PV} : look k st.t = some (.ptr i off) → st.σ[i]? = some (some blk) → tyK P ty = some (some n) → (blk.xs.drop off).take n = ys → ys.length = n → ResV P st (.cell k ty) (.agg ys)
inductive ResL (P : Program) (st : St) : List ResultVar → List PV → Prop
  | nil : ResL P st [] []
  | cons {r : ResultVar} {rs : List ResultVar} {p : PV} {ps : List PV} : ResV P st r p → ResL P st rs ps → ResL P st (r :: rs) (p :: ps)
def resF (tmps : Array Value) : ResultVar → Sem Value
  | .tmp t => pure (tmps.getD t undef)
  | .cell x ty => do loadVar ty (← asAddr (tmps.getD x undef))
theorem results_eq (fn : Func) (tmps : Array Value) : results fn tmps = (do let vs ← fn.results.mapM (resF tmps); pure (if h : vs.size = 1 then vs[0] else .tuple vs)) := by
  unfold results
  congr 1
theorem ResV.run {F : Nat → Prop} {base : Nat} {st : St} {E : Env} {a : Act} {w : World} (hs : SatSt F base N st E a w) {r : ResultVar} {p : PV} (h : ResV P st r p) :
    ∃ v, (resF a.tmps r).run P w = .ok v w ∧ Rep E w v p := by
  cases h with
  | tmp hk => exact ⟨_, rfl, hs.tmp _ _ hk⟩
  | @cell1 k i off ty blk p hk hi hty hp =>
    have h1 := hs.tmp _ _ hk
    have he : a.eval (.tmp k) = a.tmps.getD k undef := rfl
    rw [he] at h1
    simp only [resF]
    generalize a.tmps.getD k undef = z at h1 ⊢
    cases h1 with
    | ptr _ _ b hiL hat =>
      obtain ⟨cs, hR, hc⟩ := hs.sat.cells hi hat
      obtain ⟨c, hcc, hcr⟩ := hR.get hp
      have := run_loadOne (P := P) (w := w) hty (hc off c hcc)
      simp only [Instr.loadAt, Instr.sureAddr, Sem.run_bind, Sem.run_pure, Result.andThen_ok] at this
      exact ⟨c, by simp only [asAddr, Sem.run_bind, Sem.run_pure, Result.andThen_ok, this], hcr⟩
  | @cellA k i off n ty blk ys hk hi hty hp hn =>
    have h1 := hs.tmp _ _ hk
    have he : a.eval (.tmp k) = a.tmps.getD k undef := rfl
    rw [he] at h1
    simp only [resF]
    generalize a.tmps.getD k undef = z at h1 ⊢
    cases h1 with
    | ptr _ _ b hiL hat =>
      obtain ⟨cs, hR', hc⟩ := hs.sat.cells hi hat
      have hR : RepL E w ((cs.drop off).take n) ys := by rw [← hp]; exact (hR'.drop off).take n
      have := run_loadAgg (P := P) (w := w) (b := b) (off := off) (cs := (cs.drop off).take n) hty (by rw [hR.1, hn]) (fun j x hx => by
        rw [List.getElem?_take] at hx
        split at hx
        · rw [List.getElem?_drop] at hx; exact hc _ x hx
        · cases hx)
      simp only [Instr.loadAt, Instr.sureAddr, Sem.run_bind, Sem.run_pure, Result.andThen_ok] at this
      exact ⟨.agg ((cs.drop off).take n).toArray, by simp only [asAddr, Sem.run_bind, Sem.run_pure, Result.andThen_ok, this], .agg _ ys (by simpa using hR.1) (fun i x u h1 h2 => hR.2 i x u (by simpa using h1) h2)⟩
theorem ResL.run {F : Nat → Prop} {base : Nat} {st : St} {E : Env} {a : Act} {w : World} (hs : SatSt F base N st E a w) : ∀ {rs : List ResultVar} {ps : List PV}, ResL P st rs ps →
    ∃ vs, (rs.mapM (resF a.tmps)).run P w = .ok vs w ∧ RepL E w vs ps
  | _, _, .nil => ⟨[], by simp, RepL.nil E w⟩
  | _, _, .cons (r := r) h hl => by
    obtain ⟨v, h1, h2⟩ := h.run hs
    obtain ⟨vs, h3, h4⟩ := ResL.run hs hl
    refine ⟨v :: vs, ?_, RepL.cons h2 h4⟩
    rw [List.mapM_cons]
    simp only [Sem.run_bind, h1, Result.andThen_ok, h3, Sem.run_pure]
def tup : List PV → PV
  | [p] => p
  | ps => .tuple ps
instance (p : PV) [h : IsPure p] : IsPure (tup [p]) := h
instance : IsPure (tup []) := inferInstanceAs (IsPure (.tuple []))
instance (p q : PV) (ps : List PV) [h : IsPureL (p :: q :: ps)] : IsPure (tup (p :: q :: ps)) := inferInstanceAs (IsPure (.tuple (p :: q :: ps)))
def argT : Nat → List PV → Tms
  | _, [] => []
  | i, p :: ps => (i, p) :: argT (i + 1) ps
theorem argT_look : ∀ (ps : List PV) (i k : Nat) (p : PV), look k (argT i ps) = some p → i ≤ k ∧ ps[k - i]? = some p
  | [], i, k, p, h => by cases h
  | q :: ps, i, k, p, h => by
    simp only [argT, look] at h
    rw [Bool.cond_eq_ite] at h
    split at h
    · rename_i he
      have := Nat.eq_of_beq_eq_true he
      subst this
      cases h
      exact ⟨Nat.le_refl _, by simp⟩
    · obtain ⟨h1, h2⟩ := argT_look ps (i + 1) k p h
      exact ⟨by omega, by rw [show k - i = (k - (i + 1)) + 1 by omega]; simpa using h2⟩
theorem enter_sat {F : Nat → Prop} {base : Nat} {σ : Sto} {E : Env} {w : World} {vs : Array Value} {ps : List PV} (hS : Sat F base σ E w) (hR : RepL E w vs.toList ps) (hN : vs.size ≤ N) : SatSt F base N ⟨argT 0 ps, σ⟩ E { tmps := vs ++ Array.replicate (N - vs.size) undef, defers := [] } w := by
  refine ⟨hS, fun k p hk => ?_, rfl, by simp; omega⟩
  obtain ⟨_, h2⟩ := argT_look ps 0 k p hk
  rw [Nat.sub_zero] at h2
  obtain ⟨c, h3, h4⟩ := hR.get h2
  have hlt : k < vs.size := by have := (List.getElem?_eq_some_iff.1 h3).1; simpa using this
  have h3' : vs[k]? = some c := by simpa using h3
  have : Act.eval { tmps := vs ++ Array.replicate (N - vs.size) undef, defers := [] } (.tmp k) = c := by
    simp only [Act.eval, Array.getD_eq_getD_getElem?]
    rw [Array.getElem?_append_left hlt, h3']
    rfl
  rw [this]; exact h4
theorem results_run {F : Nat → Prop} {base : Nat} {st : St} {E : Env} {a : Act} {w : World} {fn : Func} {ps : List PV} (hs : SatSt F base N st E a w) (h : ResL P st fn.results.toList ps) : ∃ v, (results fn a.tmps).run P w = .ok v w ∧ Rep E w v (tup ps) := by
  obtain ⟨vs, h1, h2⟩ := ResL.run hs h
  have hm : (results fn a.tmps).run P w = .ok (if h : vs.toArray.size = 1 then vs.toArray[0] else .tuple vs.toArray) w := by
    rw [results_eq, Array.mapM_eq_mapM_toList]
    simp only [Sem.run_bind, Sem.run_map, h1, Result.andThen_ok, Sem.run_pure]
  refine ⟨_, hm, ?_⟩
  cases vs with
  | nil =>
    have : ps = [] := List.eq_nil_of_length_eq_zero h2.1.symm
    subst this
    exact .tuple _ _ rfl (fun i x u k1 k2 => by simp at k2)
  | cons v vs =>
    cases ps with
    | nil => have := h2.1; simp at this
    | cons p ps =>
      cases vs with
      | nil =>
        have : ps = [] := List.eq_nil_of_length_eq_zero (by have := h2.1; simpa using this.symm)
        subst this
        exact h2.uncons.1
      | cons v' vs =>
        cases ps with
        | nil => have := h2.1; simp at this
        | cons p' ps =>
          have hne : ¬ (v :: v' :: vs).toArray.size = 1 := by simp
          rw [dif_neg hne]
          exact .tuple _ _ (by simpa using h2.1) (fun i x u k1 k2 => h2.2 i x u (by simpa using k1) k2)
/-- What a call ends with. -/
def RetQ (P : Program) (fn : Func) (R : PV → Prop) : Exit → St → Prop
  | .normal, st | .ret, st => ∃ ps q, ResL P st fn.results.toList ps ∧ Pur st.σ (tup ps) q ∧ R q
  | _, _ => False
/-- A contract by a walk. -/
theorem can_of {f : FuncId} {fn : Func} {c : Code} {ps : List PV} {R : PV → Prop} (hf : P.funcs[f]? = some fn) (hb : fn.body = some c) (hN : fn.ntmps = N) (hp : Nat.ble ps.length N = true) (h : W P N 0 c ⟨argT 0 ps, []⟩ (RetQ P fn R)) : Can P f ps R := by
  intro F w vs hF hG hR
  have hvs : vs.size ≤ N := by have := hR.1; rw [Array.length_toList] at this; rw [this]; exact Nat.ble_eq.mp hp
  refine calls_of_wp hf hb ?_
  rw [hN]
  refine wp_mono (h F w.heap.size (EF F) w (EF F) _ w ⟨rfl, Goes.refl _ _, Below.refl _ _⟩ (enter_sat (Sat.start F w hF hG) hR hvs)) ?_
  rintro e a' w' ⟨st, E', hq, hs, hg, hbl⟩
  have fin : (∃ ps q, ResL P st fn.results.toList ps ∧ Pur st.σ (tup ps) q ∧ R q) → a'.defers = [] ∧ ∃ v, (results fn a'.tmps).run P w' = .ok v w' ∧ Ret (fun v w' => ∃ r, R r ∧ Rep (EF F) w' v r) w (.returned v) w' := by
    rintro ⟨ps, q, h1, h2, h3⟩
    obtain ⟨v, hr, hv⟩ := results_run hs h1
    exact ⟨hs.dfr, v, hr, v, rfl, hbl, q, h3, h2.rep hs.sat (fun b hb => (hs.sat.mm b).2 (.inl hb)) (fun b hb => (hs.sat.fb b hb).2) v hv⟩
  cases e with
  | normal => exact fin hq
  | ret => exact fin hq
  | exit _ => exact hq.elim
  | goto _ => exact hq.elim
  | panic _ => exact hq.elim
  | outgrown => exact hq.elim
def RetS (P : Program) (fn : Func) (R : PV → Sto → Prop) : Exit → St → Prop
  | .normal, st | .ret, st => ∃ ps, ResL P st fn.results.toList ps ∧ R (tup ps) st.σ
  | _, _ => False
/-- A contract of a function that changes its caller's store, by a walk. -/
theorem canS_of {f : FuncId} {fn : Func} {c : Code} {ps : List PV} {σ : Sto} {R : PV → Sto → Prop} (hf : P.funcs[f]? = some fn) (hb : fn.body = some c) (hN : fn.ntmps = N) (hp : Nat.ble ps.length N = true) (h : W P N σ.length c ⟨argT 0 ps, σ⟩ (RetS P fn R)) : CanS P f ps σ R := by
  intro F base E w vs hS hR
  have hvs : vs.size ≤ N := by have := hR.1; rw [Array.length_toList] at this; rw [this]; exact Nat.ble_eq.mp hp
  refine calls_of_wp hf hb ?_
  rw [hN]
  refine wp_mono (h F base E w E _ w ⟨hS.len, Goes.refl _ _, Below.refl _ _⟩ (enter_sat hS hR hvs)) ?_
  rintro e a' w' ⟨st, E', hq, hs, hg, hbl⟩
  have fin : (∃ ps, ResL P st fn.results.toList ps ∧ R (tup ps) st.σ) → a'.defers = [] ∧ ∃ v, (results fn a'.tmps).run P w' = .ok v w' ∧ ∃ v' r σ' E', Ending.returned v = .returned v' ∧ R r σ' ∧ Sat F base σ' E' w' ∧ Goes E w E' w' ∧ Below base w w' ∧ Rep E' w' v' r := by
    rintro ⟨ps, h1, h2⟩
    obtain ⟨v, hr, hv⟩ := results_run hs h1
    exact ⟨hs.dfr, v, hr, v, tup ps, st.σ, E', rfl, h2, hs.sat, hg, hbl, hv⟩
  cases e with
  | normal => exact fin hq
  | ret => exact fin hq
  | exit _ => exact hq.elim
  | goto _ => exact hq.elim
  | panic _ => exact hq.elim
  | outgrown => exact hq.elim
end
end
end PW
end Go.Proofs.YtbpgndbjbaoolaaGreat

/- Pure walks: regions that draw the order of their first operations, and carry out the others behind them one after the other. No program in sight. -/
namespace Go.Proofs.YtbpgndbjbaoolaaGreat
set_option linter.unusedVariables false
set_option linter.unusedSimpArgs false
namespace PW
open Go.RowKit Reg Mem

/-- The operations that bind an operation. -/
def aft (ops : Array Oper) (i : Nat) : List Nat :=
  match ops[i]? with
  | some o => (o.after.toList.filter (Region.binds .any)).map (·.on)
  | none => []
def reachB (ops : Array Oper) : Nat → Nat → Nat → Bool
  | 0, _, _ => false
  | f + 1, i, j => (aft ops i).contains j || (aft ops i).any fun k => reachB ops f k j
/-- From m on, every operation stands behind all that stand before it. -/
def barB (ops : Array Oper) (f m : Nat) : Bool :=
  (List.range ops.size).all fun i => ((aft ops i).all fun k => decide (k < i)) && (((ops[i]?).all fun o => o.guard.all fun g => decide (g.1 < i)) && (decide (i < m) || (List.range i).all fun j => reachB ops f i j))

section
variable {P : Program} {ops : Array Oper}
def Down (ops : Array Oper) (ls : Array Bool) : Prop := ∀ i, ls.getD i true = true → i < ops.size → ∀ k ∈ aft ops i, ls.getD k false = true
theorem reach_listed {ls : Array Bool} (hs : ls.size = ops.size) (hd : Down ops ls) (ha : ∀ i, i < ops.size → ∀ k ∈ aft ops i, k < i) : ∀ (f i j : Nat), i < ops.size → reachB ops f i j = true → (∀ k ∈ aft ops i, ls.getD k false = true) → ls.getD j false = true
  | 0, _, _, _, h, _ => by cases h
  | f + 1, i, j, hi, h, hk => by
    simp only [reachB, Bool.or_eq_true] at h
    rcases h with h | h
    · exact hk j (by simpa using h)
    · obtain ⟨k, h1, h2⟩ := List.any_eq_true.1 h
      have hki := ha i hi k h1
      have hk1 := hk k h1
      have hklt : k < ls.size := by rw [hs]; omega
      refine reach_listed hs hd ha f k j (by omega) h2 (hd k ?_ (by omega))
      simp only [Array.getD_eq_getD_getElem?] at hk1 ⊢
      simp [hklt] at hk1 ⊢
      exact hk1
theorem ready_iff {ls : Array Bool} {i : Nat} : i ∈ Region.ready .any ops ls ↔ i < ops.size ∧ ls.getD i true = false ∧ ∀ k ∈ aft ops i, ls.getD k false = true := by
  unfold Region.ready
  rw [List.mem_filter, List.mem_range]
  constructor
  · rintro ⟨h1, h2⟩
    simp only [Bool.and_eq_true, Bool.not_eq_true'] at h2
    refine ⟨h1, h2.1, fun k hk => ?_⟩
    have h3 := h2.2
    unfold aft at hk
    cases ho : ops[i]? with
    | none => rw [ho] at hk; simp at hk
    | some o =>
      rw [ho] at h3 hk
      simp only [Option.map_some, Option.getD_some] at h3
      obtain ⟨e, he, rfl⟩ := List.mem_map.1 hk
      obtain ⟨he1, he2⟩ := List.mem_filter.1 he
      have := Array.all_eq_true'.1 h3 e (by simpa using he1)
      simpa [he2] using this
  · rintro ⟨h1, h2, h3⟩
    refine ⟨h1, ?_⟩
    simp only [Bool.and_eq_true, Bool.not_eq_true']
    refine ⟨h2, ?_⟩
    have ho : ops[i]? = some ops[i] := by simp [h1]
    rw [ho]
    simp only [Option.map_some, Option.getD_some]
    apply Array.all_eq_true'.2
    intro e he
    cases hb : Region.binds .any e with
    | false => rfl
    | true =>
      simp only [Bool.not_true, Bool.false_or]
      refine h3 e.on ?_
      unfold aft
      rw [ho]
      exact List.mem_map.2 ⟨e, List.mem_filter.2 ⟨by simpa using he, hb⟩, rfl⟩

/-- The first k are listed. -/
def upto (n k : Nat) : Array Bool := ((List.range n).map fun i => decide (i < k)).toArray
theorem upto_get (n k i : Nat) (hi : i < n) (b : Bool) : (upto n k).getD i b = decide (i < k) := by simp [upto, hi]
theorem upto_set (n k : Nat) : (upto n k).setIfInBounds k true = upto n (k + 1) := by
  apply Array.ext
  · simp [upto]
  · intro i h1 h2
    simp [upto] at h2
    by_cases e : k = i
    · subst e; simp [upto]
    · rw [Array.getElem_setIfInBounds (by simpa [upto] using h2), if_neg e]
      simp [upto]; omega
section
variable {f m : Nat} (hB : barB ops f m = true)
include hB
theorem bar_aft : ∀ i, i < ops.size → ∀ k ∈ aft ops i, k < i := fun i hi k hk => by
  have := List.all_eq_true.1 hB i (List.mem_range.2 hi)
  simp only [Bool.and_eq_true] at this
  have := List.all_eq_true.1 this.1 k hk
  simpa using this
theorem bar_reach : ∀ i, i < ops.size → m ≤ i → ∀ j, j < i → reachB ops f i j = true := fun i hi hm j hj => by
  have := List.all_eq_true.1 hB i (List.mem_range.2 hi)
  simp only [Bool.and_eq_true, Bool.or_eq_true, decide_eq_true_eq] at this
  rcases this.2.2 with h | h
  · omega
  · exact List.all_eq_true.1 h j (List.mem_range.2 hj)
theorem bar_guard : ∀ (i : Nat) (o : Oper) (j : Nat) (b : Bool), ops[i]? = some o → o.guard = some (j, b) → j < i := fun i o j b ho hg => by
  have hi : i < ops.size := (Array.getElem?_eq_some_iff.1 ho).1
  have := List.all_eq_true.1 hB i (List.mem_range.2 hi)
  simp only [Bool.and_eq_true] at this
  have h1 := this.2.1
  rw [ho] at h1
  simp only [Option.all_some, hg, decide_eq_true_eq] at h1
  exact h1
theorem ready_upto (k : Nat) (hk : k < ops.size) (hm : m ≤ k) : Region.ready .any ops (upto ops.size k) = [k] := by
  have hd : Down ops (upto ops.size k) := fun i hi hi' j hj => by
    have := bar_aft hB i hi' j hj
    rw [upto_get _ _ _ hi'] at hi
    rw [upto_get _ _ _ (by omega)]
    simp at hi ⊢; omega
  have key : ∀ i, i ∈ Region.ready .any ops (upto ops.size k) ↔ i = k := fun i => by
    rw [ready_iff]
    constructor
    · rintro ⟨h1, h2, h3⟩
      rw [upto_get _ _ _ h1] at h2
      simp at h2
      rcases Nat.lt_or_ge k i with h | h
      · have := reach_listed (by simp [upto]) hd (bar_aft hB) f i k h1 (bar_reach hB i h1 (by omega) k h) h3
        rw [upto_get _ _ _ hk] at this
        simp at this
      · omega
    · rintro rfl
      exact ⟨hk, by rw [upto_get _ _ _ hk]; simp, fun j hj => by
        have := bar_aft hB i hk j hj
        rw [upto_get _ _ _ (by omega)]; simpa using this⟩
  -- one element, once
  have hnd : (Region.ready .any ops (upto ops.size k)).Nodup := List.Pairwise.filter _ List.nodup_range
  generalize Region.ready .any ops (upto ops.size k) = l at *
  match l, key, hnd with
  | [], key, _ => exact absurd ((key k).2 rfl) (by simp)
  | [x], key, _ => rw [(key x).1 (by simp)]
  | x :: y :: l, key, hnd =>
    have h1 := (key x).1 (by simp)
    have h2 := (key y).1 (by simp)
    subst h1; subst h2
    simp at hnd
omit hB in
theorem ready_all : Region.ready .any ops (upto ops.size ops.size) = [] := by
  apply List.eq_nil_iff_forall_not_mem.2
  intro i hi
  obtain ⟨h1, h2, _⟩ := ready_iff.1 hi
  rw [upto_get _ _ _ h1] at h2
  simp at h2; omega
/-- Behind the first m operations there is one order. -/
theorem wpAny_tail {Q : Exit → Act → World → Prop} : ∀ (r k : Nat) (a : Act) (w : World), k + r = ops.size → m ≤ k → wpOps P ops Q (List.range' k r) a w → wpAny P .any ops Q r (upto ops.size k) a w
  | 0, k, a, w, hk, _, h => by
    obtain rfl : k = ops.size := by omega
    exact ⟨ready_all, h⟩
  | r + 1, k, a, w, hk, hm, h => by
    have hr := ready_upto hB k (by omega) hm
    refine ⟨fun h0 => absurd (hr.symm.trans h0) (by simp), fun i hi => ?_⟩
    rw [hr] at hi
    simp at hi
    subst hi
    rw [List.range'_succ, wpOps_cons] at h
    rw [upto_set]
    exact wpOp_mono (fun a w h => wpAny_tail r (i + 1) a w (by omega) (by omega) h) h
end
/-- What follows the first operations. -/
def Qtail (P : Program) (ops : Array Oper) (Q : Exit → Act → World → Prop) (m r : Nat) : Exit → Act → World → Prop
  | .normal, a, w => wpOps P ops Q (List.range' m r) a w
  | e, a, w => Q e a w
theorem oper_wp_tail {o : Oper} {a : Act} {w : World} {K K' : Act → World → Prop} {Q : Exit → Act → World → Prop} {m r : Nat} (h : ∀ a w, K a w → K' a w) (hh : o.wp P a w K (Qtail P ops Q m r)) : o.wp P a w K' Q := by
  unfold Oper.wp at *
  generalize (execOp a.eval o).run P w = x at *
  cases x with
  | ok n w' =>
    cases n <;> simp only [Oper.upon] at hh ⊢ <;>
      first
        | exact h _ _ hh
        | exact Calls.mono hh (fun e w'' he => by cases e <;> first | exact h _ _ he | exact he)
        | exact Rows.mono hh (fun _ _ he => h _ _ he)
  | halt x w' => cases x <;> simp only [Oper.upon] at hh ⊢ <;> exact hh
def unlisted (ls : Array Bool) : Nat → Nat
  | 0 => 0
  | m + 1 => unlisted ls m + if ls.getD m true then 0 else 1
theorem unlisted_zero {ls : Array Bool} : ∀ {m : Nat}, unlisted ls m = 0 → ∀ i, i < m → ls.getD i true = true
  | 0, _, i, hi => by omega
  | m + 1, h, i, hi => by
    simp only [unlisted] at h
    by_cases e : i = m
    · subst e
      cases hb : ls.getD i true with
      | true => rfl
      | false => rw [hb] at h; simp at h
    · exact unlisted_zero (m := m) (by omega) i (by omega)
theorem unlisted_pos {ls : Array Bool} : ∀ {m : Nat}, 0 < unlisted ls m → ∃ i, i < m ∧ ls.getD i true = false ∧ ∀ j, j < i → ls.getD j true = true
  | 0, h => by simp [unlisted] at h
  | m + 1, h => by
    simp only [unlisted] at h
    by_cases hp : 0 < unlisted ls m
    · obtain ⟨i, h1, h2, h3⟩ := unlisted_pos hp
      exact ⟨i, by omega, h2, h3⟩
    · refine ⟨m, by omega, ?_, unlisted_zero (m := m) (by omega)⟩
      cases hb : ls.getD m true with
      | true => rw [hb] at h; simp at h; omega
      | false => rfl
theorem unlisted_set {ls : Array Bool} {i : Nat} (hi : ls.getD i true = false) : ∀ {m : Nat}, i < m → m ≤ ls.size → unlisted (ls.setIfInBounds i true) m + 1 = unlisted ls m
  | 0, h, _ => by omega
  | m + 1, h, hs => by
    simp only [unlisted]
    by_cases e : i = m
    · subst e
      have h1 : (ls.setIfInBounds i true).getD i true = true := by simp [show i < ls.size by omega]
      have h2 : unlisted (ls.setIfInBounds i true) i = unlisted ls i := by
        have : ∀ k, k ≤ i → unlisted (ls.setIfInBounds i true) k = unlisted ls k := by
          intro k
          induction k with
          | zero => intro _; rfl
          | succ k ih =>
            intro hk
            simp only [unlisted]
            rw [ih (by omega), Array.getD_eq_getD_getElem?, Array.getD_eq_getD_getElem?, Array.getElem?_setIfInBounds_ne (by omega)]
        exact this i (Nat.le_refl _)
      rw [h1, hi, h2]; simp
    · have h1 : (ls.setIfInBounds i true).getD m true = ls.getD m true := by
        rw [Array.getD_eq_getD_getElem?, Array.getD_eq_getD_getElem?, Array.getElem?_setIfInBounds_ne e]
      rw [h1]
      have := unlisted_set hi (m := m) (by omega) (by omega)
      omega
theorem wpAny_front {f m : Nat} (hB : barB ops f m = true) (hm : m ≤ ops.size) {Q : Exit → Act → World → Prop} : ∀ (fuel : Nat) (l₁ ls : Array Bool) (a : Act) (w : World), l₁.size = m → ls.size = ops.size → (∀ i, i < m → ls.getD i true = l₁.getD i true) → (∀ i, m ≤ i → i < ops.size → ls.getD i true = false) → Down ops ls → unlisted ls m = fuel →
    wpAny P .any (ops.extract 0 m) (Qtail P ops Q m (ops.size - m)) fuel l₁ a w → wpAny P .any ops Q (fuel + (ops.size - m)) ls a w := by
  have hsz : (ops.extract 0 m).size = m := by simp; omega
  have hget : ∀ i, i < m → (ops.extract 0 m)[i]? = ops[i]? := fun i hi => by rw [Array.getElem?_extract]; simp; omega
  have haft : ∀ i, i < m → aft (ops.extract 0 m) i = aft ops i := fun i hi => by unfold aft; rw [hget i hi]
  intro fuel
  induction fuel with
  | zero =>
    intro l₁ ls a w hs1 hs2 hsame hrest hd hu h
    have : ls = upto ops.size m := by
      apply Array.ext
      · simp [upto, hs2]
      · intro i h1 h2
        have hi : i < ops.size := by omega
        have e : ls.getD i true = (upto ops.size m).getD i true := by
          rw [upto_get _ _ _ hi]
          by_cases him : i < m
          · rw [unlisted_zero hu i him]; simp [him]
          · rw [hrest i (by omega) hi]; simp [him]
        simpa [h1, h2] using e
    rw [this]
    simpa using wpAny_tail hB (ops.size - m) m a w (by omega) (Nat.le_refl _) h.2
  | succ fuel ih =>
    intro l₁ ls a w hs1 hs2 hsame hrest hd hu h
    have hf : ∀ b c (i : Nat), i < ops.size → ls.getD i b = ls.getD i c := fun b c i hi => by simp [show i < ls.size by omega]
    obtain ⟨i0, hi0, hi1, hi2⟩ := unlisted_pos (ls := ls) (m := m) (by omega)
    have hrd : ∀ i, i ∈ Region.ready .any ops ls → i < m := fun i hi => by
      obtain ⟨h1, h2, h3⟩ := ready_iff.1 hi
      rcases Nat.lt_or_ge i m with h' | h'
      · exact h'
      · have := reach_listed hs2 hd (bar_aft hB) f i i0 h1 (bar_reach hB i h1 h' i0 (by omega)) h3
        rw [hf false true i0 (by omega), hi1] at this
        cases this
    have hin : ∀ i, i ∈ Region.ready .any ops ls → i ∈ Region.ready .any (ops.extract 0 m) l₁ := fun i hi => by
      have him := hrd i hi
      obtain ⟨h1, h2, h3⟩ := ready_iff.1 hi
      refine ready_iff.2 ⟨by omega, by rw [← hsame i him]; exact h2, fun k hk => ?_⟩
      rw [haft i him] at hk
      have hki := bar_aft hB i h1 k hk
      have := h3 k hk
      rw [hf false true k (by omega), hsame k (by omega)] at this
      simpa [show k < l₁.size by omega] using this
    have hi0r : i0 ∈ Region.ready .any ops ls := ready_iff.2 ⟨by omega, hi1, fun k hk => by
      have := bar_aft hB i0 (by omega) k hk
      rw [hf false true k (by omega)]; exact hi2 k this⟩
    rw [show fuel + 1 + (ops.size - m) = (fuel + (ops.size - m)) + 1 by omega]
    refine ⟨fun h0 => absurd hi0r (by rw [h0]; simp), fun i hi => ?_⟩
    have him := hrd i hi
    obtain ⟨h1, h2, h3⟩ := ready_iff.1 hi
    have hstep := h.2 i (hin i hi)
    have next : ∀ a w, wpAny P .any (ops.extract 0 m) (Qtail P ops Q m (ops.size - m)) fuel (l₁.setIfInBounds i true) a w → wpAny P .any ops Q (fuel + (ops.size - m)) (ls.setIfInBounds i true) a w := fun a w hh => by
      refine ih _ _ a w (by simpa using hs1) (by simpa using hs2) (fun j hj => ?_) (fun j hj hj' => ?_) (fun j hj hj' k hk => ?_) (by have := unlisted_set h2 him (by omega); omega) hh
      · by_cases e : i = j
        · subst e; simp [show i < ls.size by omega, show i < l₁.size by omega]
        · have := hsame j hj
          simp only [Array.getD_eq_getD_getElem?, Array.getElem?_setIfInBounds_ne e] at this ⊢
          exact this
      · have := hrest j hj hj'
        simp only [Array.getD_eq_getD_getElem?, Array.getElem?_setIfInBounds_ne (show i ≠ j by omega)] at this ⊢
        exact this
      · by_cases e : i = j
        · subst e
          have hki := bar_aft hB i h1 k hk
          have := h3 k hk
          simp only [Array.getD_eq_getD_getElem?, Array.getElem?_setIfInBounds_ne (show i ≠ k by omega)] at this ⊢
          exact this
        · have hj2 : ls.getD j true = true := by
            simp only [Array.getD_eq_getD_getElem?, Array.getElem?_setIfInBounds_ne e] at hj ⊢
            exact hj
          have := hd j hj2 hj' k hk
          by_cases e2 : i = k
          · subst e2; simp [show i < ls.size by omega]
          · simp only [Array.getD_eq_getD_getElem?, Array.getElem?_setIfInBounds_ne e2] at this ⊢
            exact this
    unfold wpOp at hstep ⊢
    rw [hget i him] at hstep
    have ho : ops[i]? = some ops[i] := by simp [h1]
    rw [ho] at hstep ⊢
    simp only at hstep ⊢
    have hy : Region.wanted ops[i] (yielded (ops.extract 0 m) a.tmps) = Region.wanted ops[i] (yielded ops a.tmps) := by
      unfold Region.wanted
      cases hg : (ops[i]).guard with
      | none => rfl
      | some g =>
        obtain ⟨j, wt⟩ := g
        have := bar_guard hB i ops[i] j wt ho hg
        simp only [yielded]
        rw [hget j (by omega)]
    rw [hy] at hstep
    split
    · rename_i hw
      rw [if_pos hw] at hstep
      rcases hstep with hh | ⟨hh, a0, w0, hq⟩
      · exact .inl (oper_wp_tail next hh)
      · exact .inr ⟨hh, a0, w0, hq⟩
    · rename_i hw
      rw [if_neg hw] at hstep
      exact next _ _ hstep

theorem rep_get (n i : Nat) (h : i < n) (b : Bool) : (Array.replicate n false).getD i b = false := by simp [h]
theorem chain_any {N : Nat} {l : List Oper} {t t' : Tms} {σ : Sto} {F : Nat → Prop} {base : Nat} {E : Env} {arr : Array Value} {ds : List Deferred} {w : World} {Q : Exit → Act → World → Prop} (hs : SatSt F base N ⟨t, σ⟩ E ⟨arr, ds⟩ w) (D : List Nat) (hB : Region.lexB .any l.toArray = true)
    (hn : (l.all fun o => o.dst.all fun e => decide (e < N) && D.contains e) = true) (h : ChainD P N l.toArray σ l t t') (hq : ∀ b w', Ext w w' → SatSt F base N ⟨t', σ⟩ E ⟨b, ds⟩ w' → Q .normal ⟨b, ds⟩ w') :
    wpAny P .any l.toArray Q l.length (Array.replicate l.length false) ⟨arr, ds⟩ { w with drawn := w.drawn + 1 } := by
  have hsz : arr.size = N := hs.size
  have hn' : ∀ o ∈ l, ∀ e, o.dst = some e → e < arr.size ∧ e ∈ D := fun o ho e he => by
    have := List.all_eq_true.1 hn o ho
    rw [he] at this
    simp at this
    rw [hsz]; exact this
  have h1 := h.abs (E := E) (w := w) (F := F) (base := base) (C := fun w' => Ext w w' ∧ Sat F base σ E w') (fun w' hw' => hw') (G := fun β => Knows E w β t') (fun β hβ => hβ) (fun t v _ => v = arr.getD t undef) (fun k p hk v w' hE hv => by
    subst hv
    have := hs.tmp k p hk
    simpa [Act.eval] using this.ext hE)
  have h2 := wpAbs_off (D := D) l _ (fun t v _ => v = arr.getD t undef) (fun _ _ => rfl) (fun o ho e he => (hn' o ho e he).2) h1
  simp only [Region.lexB, Bool.and_eq_true] at hB
  have h3 := wpAnyA_lex (md := .any) (ops := l.toArray) l 0 (Array.replicate l.toArray.size false) _ (by simp) (by simpa using hB.2) h2
  have hE : Ext w { w with drawn := w.drawn + 1 } := ⟨rfl, rfl, rfl, Nat.le_refl _, fun _ _ => rfl⟩
  have h4 := wpAny_of_abs (P := P) (ops := l.toArray) (md := .any) (n := arr.size) (d := ds) (Q := Q) (C := fun w' => Ext w w' ∧ Sat F base σ E w') (fun w₁ w₂ h12 h13 => ⟨h12.1.trans h13, h12.2.ext h13⟩)
    (fun i o ho e he => (hn' o (by simpa using Array.mem_of_getElem? ho) e he).1) (fun β a w' hw' hs' hF => ?_) l.length _ _ ⟨arr, ds⟩ { w with drawn := w.drawn + 1 } (fun t => mono_fix _) ⟨hE, hs.sat.ext hE⟩ ⟨fun t => rfl, rfl, rfl⟩ h3
  · simpa using h4
  · obtain ⟨hK, hoff⟩ := hF
    obtain ⟨hs1, hs2, hs3⟩ := hs'
    obtain ⟨b, dd⟩ := a
    simp only at hs2 hs3
    subst hs2
    exact hq b w' hw'.1 ⟨hw'.2, fun k p hk => hK k p hk _ w' hw'.1 (hs1 k), hs.dfr, by rw [← hsz]; exact hs3⟩
theorem W_drawSeq {N L : Nat} {id : Nat} {l : List Oper} {t t' : Tms} {σ : Sto} {Q : Exit → St → Prop} (m f : Nat) (D : List Nat) (hm : P.follows .mixedOrders = true) (hB : Region.lexB .any (l.take m).toArray = true)
    (hn : ((l.take m).all fun o => o.dst.all fun e => decide (e < N) && D.contains e) = true) (hbar : barB l.toArray f m = true) (hml : Nat.ble m l.length = true)
    (h : ChainD P N (l.take m).toArray σ (l.take m) t t') (hw : WR P N L l.toArray (l.drop m) ⟨t', σ⟩ (fun s => Q .normal s)) : W P N L (.region id l.toArray true) ⟨t, σ⟩ Q := fun F base E₀ w₀ E a w hc hs => by
  obtain ⟨arr, ds⟩ := a
  have hmle : m ≤ l.length := Nat.ble_eq.mp hml
  have hlt : (l.take m).length = m := by simp; omega
  refine wp_region_any hm ?_
  have hfr := chain_any (Q := Qtail P l.toArray (fun e a' w' => Post F base N E₀ w₀ (Q e) a' w') m (l.toArray.size - m)) hs D hB hn h (fun b w' hE hs' => by
    have := hw F base E₀ w₀ E ⟨b, ds⟩ w' (hc.on (.ext hE) (Below.ofExt hE hs.sat.bl)) hs' (fun e a' w' => Post F base N E₀ w₀ (Q e) a' w') m (fun a' w' hp => hp) (fun j => by simp)
    simpa [Qtail] using this)
  have he : l.toArray.extract 0 m = (l.take m).toArray := by simp
  have := wpAny_front (P := P) hbar (by simpa using hmle) (Q := fun e a' w' => Post F base N E₀ w₀ (Q e) a' w') m (Array.replicate m false) (Array.replicate l.toArray.size false) ⟨arr, ds⟩ { w with drawn := w.drawn + 1 } (by simp) (by simp) (fun i hi => by rw [rep_get _ _ hi, rep_get _ _ (by simp; omega)]) (fun i _ hi => rep_get _ _ hi _) (fun i hi hi' => by
      have : (Array.replicate l.toArray.size false).getD i true = false := rep_get _ _ hi' _
      rw [this] at hi; cases hi) (by
      have : ∀ k, k ≤ l.length → unlisted (Array.replicate l.toArray.size false) k = k := by
        intro k
        induction k with
        | zero => intro _; rfl
        | succ k ih =>
          intro hk
          simp only [unlisted]
          rw [ih (by omega)]
          have : (Array.replicate l.toArray.size false).getD k true = false := rep_get _ _ (by simp; omega) _
          rw [this]; simp
      exact this m hmle) (by rw [he]; rw [hlt] at hfr; exact hfr)
  rw [show m + (l.toArray.size - m) = l.toArray.size by simp; omega] at this
  exact this
theorem W_dss {N L : Nat} {id : Nat} {l : List Oper} {y : Code} {t t' : Tms} {σ : Sto} {Q : Exit → St → Prop} (m f : Nat) (D : List Nat) (hm : P.follows .mixedOrders = true) (hB : Region.lexB .any (l.take m).toArray = true)
    (hn : ((l.take m).all fun o => o.dst.all fun e => decide (e < N) && D.contains e) = true) (hbar : barB l.toArray f m = true) (hml : Nat.ble m l.length = true)
    (h : ChainD P N (l.take m).toArray σ (l.take m) t t') (hw : WR P N L l.toArray (l.drop m) ⟨t', σ⟩ (fun s => W P N L y s Q)) : W P N L (.seq (.region id l.toArray true) y) ⟨t, σ⟩ Q := W_seq (W_drawSeq m f D hm hB hn hbar hml h hw)
end
end PW
end Go.Proofs.YtbpgndbjbaoolaaGreat

/- Pure walks: shorter rows, several new blocks at once. No program in sight. -/
namespace Go.Proofs.YtbpgndbjbaoolaaGreat
set_option linter.unusedVariables false
set_option linter.unusedSimpArgs false
namespace PW
open Go.RowKit Reg Mem

section
variable {P : Program} {σ : Sto} {t : Tms} {o : Oper}
/-- The first h elements of a row of the call's own; the longer row is given up. -/
theorem l_sliceHiOwn {ty e s e' n h i : Nat} {x hi' : Operand} {xs : List PV} {k : IntKind} {hii : Int} (ho : o.op = .slice ty x none (some hi') none) (he : elK P ty = some (e, s)) (hx : evalO t x = some (.own i)) (hi : σ[i]? = some (some (.row e' s n xs))) (hhi : evalO t hi' = some (.raw (.int k hii))) (hli : hii = (h : Int)) (hl : h ≤ n) :
    Loud P σ t o (.own σ.length) (σ.set i none ++ [some (.row e' s h (xs.take (h * s)))]) := by
  intro F base E ρ w hρ hS hT
  have h1 := evalO_rep hρ hT hx
  have h2 := evalO_rep hρ hT hhi
  obtain ⟨hu, inf, hinf, hs⟩ := elK_spec he
  generalize hz : ρ x = v at h1
  generalize hz' : ρ hi' = u at h2
  cases h2
  subst hli
  cases h1 with
  | own _ hiL _ hat hone =>
    obtain ⟨cs, k1, k2⟩ := hS.blk i _ hi
    rw [hat] at k1
    have hob : blockOf (E.at_ i) = v.ownBlock := by rw [hat]; exact own_block k1
    have key : ∀ v', (execOp ρ o).run P w = .ok (.value v') w → w.ownsRow base e' s v' h (cs.take (h * s)) → v'.ownBlock = v.ownBlock → v'.oneCell' = true →
        ∃ v w' E', ((execOp ρ o).run P w = .ok (.value v) w' ∨ (v = undef ∧ (execOp ρ o).run P w = .ok .skip w')) ∧ Sat F base (σ.set i none ++ [some (.row e' s h (xs.take (h * s)))]) E' w' ∧ Goes E w E' w' ∧ Below base w w' ∧ Rep E' w' v (.own σ.length) := by
      intro v' hr hown hw hone'
      obtain ⟨a1, a2⟩ := hS.swap (w' := w) (blk := .row e' s h (xs.take (h * s))) hi (Nat.le_refl _) (fun k hk hne => rfl) (v := v') (fun b hb => by
        rw [own_block hown] at hb
        rw [hob, ← hw]; exact .inl hb) (fun E' g => ⟨_, hown, (k2.take (h * s)).goes g⟩)
      exact ⟨v', w, _, .inl hr, a1, a2, Below.refl _ _, .own σ.length (by simp [Env.push, Env.kill, hS.len]) v' (by simp [Env.push, Env.kill, hS.len]) hone'⟩
    have hcl := k1.1
    rcases k1.2 with ⟨rfl, h0⟩ | ⟨g, cap, cur, rfl, hb, hg, hnc, hcm, hcs, htk⟩
    · subst h0
      obtain rfl : h = 0 := by omega
      have hr : (execOp ρ o).run P w = .ok (.value (.slice none 0 0)) w := by
        simp [execOp, ho, hz, hz', Instr.sliceAt, run_underlying hu, Instr.slice, Instr.sliceBounds, Instr.sliceBound, asIntOf, sizeOf, typeInfo, hinf]
      exact key _ hr (by simpa using World.ownsRow_nil w base e' s) rfl rfl
    · have hr : (execOp ρ o).run P w = .ok (.value (.slice (some ⟨g, 0, none⟩) h cap)) w := by
        have : h ≤ cap := by omega
        simp [execOp, ho, hz, hz', Instr.sliceAt, run_underlying hu, Instr.slice, Instr.sliceBounds, Instr.sliceBound, asIntOf, this, sizeOf, typeInfo, hinf, Addr.add]
      refine key _ hr ⟨?_, .inr ⟨g, cap, cur, rfl, hb, hg, by omega, hcm, hcs, ?_⟩⟩ rfl rfl
      · rw [List.length_take, hcl]; exact Nat.min_eq_left (Nat.mul_le_mul_right _ hl)
      · rw [← htk, List.take_take, Nat.min_eq_left (Nat.mul_le_mul_right _ hl)]
theorem l_emptySlice {ty e s : Nat} {z : List Value} (ho : o.op = .buildSlice ty 0 #[]) (hk : slK P ty = some (e, s, z)) : Loud P σ t o (.own σ.length) (σ ++ [some (.row e s 0 [])]) := by
  intro F base E ρ w hρ hS hT
  obtain ⟨hu, i, z', hi, hs, hz, hzz, hzl, hpos⟩ := slK_spec hk
  have hrun : (Instr.buildSlice ty 0 #[]).run P w = .ok (.slice (some ⟨w.heap.size, 0, none⟩) 0 0) (w.alloc (.cells #[] e)) := by
    have : Array.map (fun _ : Nat => (default : Value)) (Array.range 0) = #[] := by simp [Array.range]
    simp [Instr.buildSlice, run_underlying hu, sizeOf, typeInfo, hi, Instr.fill, newRow, this]
  have hr : (execOp ρ o).run P w = .ok (.value (.slice (some ⟨w.heap.size, 0, none⟩) 0 0)) (w.alloc (.cells #[] e)) := by
    simp only [execOp, ho, Sem.run_bind, List.map_toArray, List.map_nil, hrun, Result.andThen_ok, Sem.run_pure]
  obtain ⟨a1, a2, a3, a4⟩ := lay_row hS ((Ext.refl w).alloc (.cells #[] e)) (fun b h => by simp [blockOf] at h; omega) (World.ownsRow_lit (base := base) (e := e) (size := s) w #[] 0 hS.bl (Nat.zero_le _) (by simp)) (RepL.nil E w)
  exact ⟨_, _, _, .inl hr, a1, a2, a3, a4⟩
end

section
variable {P : Program} {σ : Sto} {t : Tms} {o : Oper}
def ptrK (P : Program) (ty : TypeId) : Bool := match P.underlying ty with | some (.pointer _) => true | _ => false
theorem run_eqNil {ty : TypeId} (h : ptrK P ty = true) (a : Addr) (w : World) : (Op.equal ty (.pointer (some a)) (.pointer none)).run P w = .ok false w := by
  unfold ptrK at h
  split at h
  · rename_i e hu
    have key : ∀ d, (Op.equalIn (d + 1) ty (.pointer (some a)) (.pointer none)).run P w = .ok false w := fun d => by
      simp only [Op.equalIn, Sem.run_bind, run_underlying hu, Result.andThen_ok, Sem.run_pure]
    exact key 9999
  · cases h
/-- A pointer that is not nil, compared with nil. -/
theorem y_ptrEql {x y : Operand} {ty tz : TypeId} {i k : Nat} (ho : o.op = .binOp .eql ty x y tz) (hk : ptrK P ty = true) (hx : evalO t x = some (.ptr i k)) (hy : evalO t y = some (.raw (.pointer none))) : Yield P σ t o (.raw (.bool false)) := by
  intro F base E ρ w hρ _ hT
  have h1 := evalO_rep hρ hT hx
  have h2 := evalO_rep hρ hT hy
  generalize hz : ρ x = z at h1
  generalize hz' : ρ y = z' at h2
  cases h2
  cases h1 with
  | ptr _ _ b hi h =>
    simp only [execOp, ho, hz, hz', Sem.run_bind, eqGuard, binOp, run_eqNil hk, Result.andThen_ok, Sem.run_pure]
    exact upon_val (.raw _)
theorem y_pinEql {x y : Operand} {ty tz : TypeId} {xs : List PV} {k : Nat} (ho : o.op = .binOp .eql ty x y tz) (hk : ptrK P ty = true) (hx : evalO t x = some (.pin xs k)) (hy : evalO t y = some (.raw (.pointer none))) : Yield P σ t o (.raw (.bool false)) := by
  intro F base E ρ w hρ _ hT
  have h1 := evalO_rep hρ hT hx
  have h2 := evalO_rep hρ hT hy
  generalize hz : ρ x = z at h1
  generalize hz' : ρ y = z' at h2
  cases h2
  cases h1 with
  | pin b o' _ cs _ hb hM hc hl hr =>
    simp only [execOp, ho, hz, hz', Sem.run_bind, eqGuard, binOp, run_eqNil hk, Result.andThen_ok, Sem.run_pure]
    exact upon_val (.raw _)
theorem y_ptrNeq {x y : Operand} {ty tz : TypeId} {i k : Nat} (ho : o.op = .binOp .neq ty x y tz) (hk : ptrK P ty = true) (hx : evalO t x = some (.ptr i k)) (hy : evalO t y = some (.raw (.pointer none))) : Yield P σ t o (.raw (.bool true)) := by
  intro F base E ρ w hρ _ hT
  have h1 := evalO_rep hρ hT hx
  have h2 := evalO_rep hρ hT hy
  generalize hz : ρ x = z at h1
  generalize hz' : ρ y = z' at h2
  cases h2
  cases h1 with
  | ptr _ _ b hi h =>
    simp only [execOp, ho, hz, hz', Sem.run_bind, eqGuard, binOp, run_eqNil hk, Result.andThen_ok, Sem.run_pure]
    exact upon_val (.raw _)
def boolK (P : Program) (ty : TypeId) : Bool := match P.underlying ty with | some .bool => true | _ => false
theorem run_eqBool {ty : TypeId} (h : boolK P ty = true) (a b : Bool) (w : World) : (Op.equal ty (.bool a) (.bool b)).run P w = .ok (a == b) w := by
  unfold boolK at h
  split at h
  · rename_i hu
    have key : ∀ d, (Op.equalIn (d + 1) ty (.bool a) (.bool b)).run P w = .ok (a == b) w := fun d => by
      simp only [Op.equalIn, Sem.run_bind, run_underlying hu, Result.andThen_ok, Sem.run_pure]
    exact key 9999
  · cases h
theorem y_boolEql {x y : Operand} {ty tz : TypeId} {a b q : Bool} (ho : o.op = .binOp .eql ty x y tz) (hk : boolK P ty = true) (hx : evalO t x = some (.raw (.bool a))) (hy : evalO t y = some (.raw (.bool b))) (hq : (a == b) = q) : Yield P σ t o (.raw (.bool q)) := by
  refine y_bin ho hx hy fun w => ?_
  simp [eqGuard, binOp, run_eqBool hk, hq]
theorem y_boolNeq {x y : Operand} {ty tz : TypeId} {a b q : Bool} (ho : o.op = .binOp .neq ty x y tz) (hk : boolK P ty = true) (hx : evalO t x = some (.raw (.bool a))) (hy : evalO t y = some (.raw (.bool b))) (hq : (!(a == b)) = q) : Yield P σ t o (.raw (.bool q)) := by
  refine y_bin ho hx hy fun w => ?_
  simp [eqGuard, binOp, run_eqBool hk, hq]
theorem y_cat {x y : Operand} {ty tz : TypeId} {a b c : ByteArray} (ho : o.op = .binOp .add ty x y tz) (hx : evalO t x = some (.raw (.string a))) (hy : evalO t y = some (.raw (.string b))) (hc : a ++ b = c) (hn : a.size + b.size ≤ 9223372036854775807) : Yield P σ t o (.raw (.string c)) :=
  y_bin ho hx hy fun w => by simp [eqGuard, binOp, Op.stringOp, hc]; omega
theorem y_strEql {x y : Operand} {ty tz : TypeId} {a b : ByteArray} {q : Bool} (ho : o.op = .binOp .eql ty x y tz) (hx : evalO t x = some (.raw (.string a))) (hy : evalO t y = some (.raw (.string b))) (hq : (a.toList == b.toList) = q) : Yield P σ t o (.raw (.bool q)) :=
  y_bin ho hx hy fun w => by simp [eqGuard, binOp, Op.stringOp, hq]
theorem y_strNeq {x y : Operand} {ty tz : TypeId} {a b : ByteArray} {q : Bool} (ho : o.op = .binOp .neq ty x y tz) (hx : evalO t x = some (.raw (.string a))) (hy : evalO t y = some (.raw (.string b))) (hq : (!(a.toList == b.toList)) = q) : Yield P σ t o (.raw (.bool q)) :=
  y_bin ho hx hy fun w => by simp only [eqGuard, binOp, Op.stringOp, hq]; rfl
end

/-- Several blocks more. -/
def Env.pushAll (E : Env) (vs : List Value) : Env := ⟨E.L + vs.length, fun i => if i < E.L then E.at_ i else vs.getD (i - E.L) undef, fun b => E.M b ∨ ∃ v ∈ vs, blockOf v = some b⟩
theorem Sat.pushAll {F : Nat → Prop} {base : Nat} {σ : Sto} {E : Env} {w w' : World} (hS : Sat F base σ E w) (hE : Ext w w') (vs : List Value) (bs : List Blk) (hl : vs.length = bs.length) (hv : ∀ v ∈ vs, ∀ b, blockOf v = some b → w.heap.size ≤ b)
    (hd : ∀ (i j : Nat) u v b, vs[i]? = some u → vs[j]? = some v → blockOf u = some b → blockOf v = some b → i = j) (hb : ∀ (i : Nat) v blk, vs[i]? = some v → bs[i]? = some blk → BlkSat base (E.pushAll vs) w' v blk) :
    Sat F base (σ ++ bs.map some) (E.pushAll vs) w' ∧ Goes E w (E.pushAll vs) w' := by
  have g : Goes E w (E.pushAll vs) w' := ⟨Nat.le_add_right _ _, fun i hi => by simp [Env.pushAll, hi], fun b hb hM h => by
    rcases h with h | ⟨v, h1, h2⟩
    · exact hM h
    · have := hv v h1 b h2; omega, hE.size, fun b h _ => hE.block b h⟩
  have hat : ∀ i, i < σ.length → (E.pushAll vs).at_ i = E.at_ i := fun i hi => g.at_ i (by rw [hS.len]; exact hi)
  have hnew : ∀ (j : Nat) v, vs[j]? = some v → (E.pushAll vs).at_ (σ.length + j) = v := fun j v hj => by
    simp only [Env.pushAll, hS.len]
    rw [if_neg (by omega), Nat.add_sub_cancel_left, List.getD_eq_getElem?_getD, hj]
    rfl
  have split : ∀ i (b : Blk), (σ ++ bs.map some)[i]? = some (some b) → (i < σ.length ∧ σ[i]? = some (some b)) ∨ (∃ j v, i = σ.length + j ∧ bs[j]? = some b ∧ vs[j]? = some v) := fun i b h => by
    by_cases hi : i < σ.length
    · rw [List.getElem?_append_left hi] at h; exact .inl ⟨hi, h⟩
    · rw [List.getElem?_append_right (by omega), List.getElem?_map, Option.map_eq_some_iff] at h
      obtain ⟨b', h1, h2⟩ := h
      cases h2
      have hj : i - σ.length < vs.length := by rw [hl]; exact (List.getElem?_eq_some_iff.1 h1).1
      exact .inr ⟨i - σ.length, vs[i - σ.length], by omega, h1, by simp [hj]⟩
  refine ⟨⟨Nat.le_trans hS.bl hE.size, fun b hb' => ⟨Nat.lt_of_lt_of_le (hS.fb b hb').1 hE.size, fun i bl hi => ?_⟩, by simp [Env.pushAll, hS.len, hl], fun b => ?_, fun i bl hi => ?_, fun i j bi bj b hi hj hbi hbj => ?_, hS.gl.goes g⟩, g⟩
  · rcases split i bl hi with ⟨h1, h2⟩ | ⟨j, v, rfl, h2, h3⟩
    · rw [hat i h1]; exact (hS.fb b hb').2 i bl h2
    · rw [hnew j v h3]; intro h
      have := hv v (List.mem_of_getElem? h3) b h; have := (hS.fb b hb').1; omega
  · constructor
    · rintro (h | ⟨v, h1, h2⟩)
      · rcases (hS.mm b).1 h with h | ⟨i, bl, h1, h2⟩
        · exact .inl h
        · have hi : i < σ.length := (List.getElem?_eq_some_iff.1 h1).1
          exact .inr ⟨i, bl, by rw [List.getElem?_append_left hi]; exact h1, by rw [hat i hi]; exact h2⟩
      · obtain ⟨j, hj⟩ := List.getElem?_of_mem h1
        have hjb : j < bs.length := by rw [← hl]; exact (List.getElem?_eq_some_iff.1 hj).1
        exact .inr ⟨σ.length + j, bs[j], by rw [List.getElem?_append_right (by omega)]; simp [hjb], by rw [hnew j v hj]; exact h2⟩
    · rintro (h | ⟨i, bl, h1, h2⟩)
      · exact .inl ((hS.mm b).2 (.inl h))
      · rcases split i bl h1 with ⟨h3, h4⟩ | ⟨j, v, rfl, h4, h5⟩
        · rw [hat i h3] at h2; exact .inl ((hS.mm b).2 (.inr ⟨i, bl, h4, h2⟩))
        · rw [hnew j v h5] at h2; exact .inr ⟨v, List.mem_of_getElem? h5, h2⟩
  · rcases split i bl hi with ⟨h1, h2⟩ | ⟨j, v, rfl, h2, h3⟩
    · rw [hat i h1]
      exact (hS.blk i bl h2).goes g (fun b hb => hE.block b ((hS.blk i bl h2).lt hb).2)
    · rw [hnew j v h3]; exact hb j v bl h3 h2
  · rcases split i bi hi with ⟨h1, h2⟩ | ⟨k, v, rfl, h2, h3⟩ <;> rcases split j bj hj with ⟨h4, h5⟩ | ⟨k', v', rfl, h5, h6⟩
    · rw [hat i h1] at hbi; rw [hat j h4] at hbj; exact hS.inj i j bi bj b h2 h5 hbi hbj
    · rw [hat i h1] at hbi; rw [hnew k' v' h6] at hbj
      have := ((hS.blk i bi h2).lt hbi).2; have := hv v' (List.mem_of_getElem? h6) b hbj; omega
    · rw [hnew k v h3] at hbi; rw [hat j h4] at hbj
      have := ((hS.blk j bj h5).lt hbj).2; have := hv v (List.mem_of_getElem? h3) b hbi; omega
    · rw [hnew k v h3] at hbi; rw [hnew k' v' h6] at hbj
      rw [hd k k' v v' b h3 h6 hbi hbj]
end PW
end Go.Proofs.YtbpgndbjbaoolaaGreat
