/- Pure walks, fifth part: the call's own store, regions that draw their order, calls. No program in sight. -/
import Derived.Test.YtkaalpdfppbdeaaDoorPWs
import Derived.Laws.OwnMore
namespace Go.Proofs.YtkaalpdfppbdeaaDoor
namespace PW
open Go.RowKit Reg Mem

/-- One block more. -/
def Env.push (E : Env) (v : Value) : Env := ⟨E.L + 1, fun i => if i = E.L then v else E.at_ i, fun b => E.M b ∨ blockOf v = some b⟩
/-- One block less. -/
def Env.kill (E : Env) (i : Nat) : Env := ⟨E.L, E.at_, fun b => E.M b ∧ blockOf (E.at_ i) ≠ some b⟩
section
variable {F : Nat → Prop} {base : Nat} {σ : Sto} {E : Env} {w w' : World}

theorem push_goes (hw : ∀ b, b < w.heap.size → ¬ E.M b → w'.heap[b]? = w.heap[b]?) (hs : w.heap.size ≤ w'.heap.size) {v : Value} (hv : ∀ b, blockOf v = some b → w.heap.size ≤ b ∨ E.M b) : Goes E w (E.push v) w' :=
  ⟨Nat.le_succ _, fun i hi => by simp [Env.push, Nat.ne_of_lt hi], fun b hb hM h => by
    rcases h with h | h
    · exact hM h
    · rcases hv b h with h' | h'
      · omega
      · exact hM h', hs, hw⟩
theorem Sat.push (hS : Sat F base σ E w) (hE : Ext w w') {v : Value} {blk : Blk} (hv : ∀ b, blockOf v = some b → w.heap.size ≤ b) (hb : BlkSat base (E.push v) w' v blk) : Sat F base (σ ++ [some blk]) (E.push v) w' ∧ Goes E w (E.push v) w' := by
  have g : Goes E w (E.push v) w' := push_goes (fun b h _ => hE.block b h) hE.size (fun b h => .inl (hv b h))
  have hat : ∀ i, i < σ.length → (E.push v).at_ i = E.at_ i := fun i hi => g.at_ i (by rw [hS.len]; exact hi)
  have hnew : (E.push v).at_ σ.length = v := by simp [Env.push, hS.len]
  have split : ∀ i (b : Blk), (σ ++ [some blk])[i]? = some (some b) → (i < σ.length ∧ σ[i]? = some (some b)) ∨ (i = σ.length ∧ b = blk) := fun i b h => by
    by_cases hi : i < σ.length
    · rw [List.getElem?_append_left hi] at h; exact .inl ⟨hi, h⟩
    · rw [List.getElem?_append_right (by omega)] at h
      have : i - σ.length = 0 := by
        rcases Nat.eq_zero_or_pos (i - σ.length) with h' | h'
        · exact h'
        · rw [List.getElem?_eq_none (by simp; omega)] at h; cases h
      rw [this] at h
      simp at h
      exact .inr ⟨by omega, h.symm⟩
  refine ⟨⟨Nat.le_trans hS.bl hE.size, fun b hb' => ⟨Nat.lt_of_lt_of_le (hS.fb b hb').1 hE.size, fun i bl hi => ?_⟩, by simp [Env.push, hS.len], fun b => ?_, fun i bl hi => ?_, fun i j bi bj b hi hj hbi hbj => ?_⟩, g⟩
  · rcases split i bl hi with ⟨h1, h2⟩ | ⟨rfl, _⟩
    · rw [hat i h1]; exact (hS.fb b hb').2 i bl h2
    · rw [hnew]; intro h; have := hv b h; have := (hS.fb b hb').1; omega
  · constructor
    · rintro (h | h)
      · rcases (hS.mm b).1 h with h | ⟨i, bl, h1, h2⟩
        · exact .inl h
        · have hi : i < σ.length := (List.getElem?_eq_some_iff.1 h1).1
          exact .inr ⟨i, bl, by rw [List.getElem?_append_left hi]; exact h1, by rw [hat i hi]; exact h2⟩
      · exact .inr ⟨σ.length, blk, by simp, by rw [hnew]; exact h⟩
    · rintro (h | ⟨i, bl, h1, h2⟩)
      · exact .inl ((hS.mm b).2 (.inl h))
      · rcases split i bl h1 with ⟨h3, h4⟩ | ⟨rfl, _⟩
        · rw [hat i h3] at h2; exact .inl ((hS.mm b).2 (.inr ⟨i, bl, h4, h2⟩))
        · rw [hnew] at h2; exact .inr h2
  · rcases split i bl hi with ⟨h1, h2⟩ | ⟨rfl, rfl⟩
    · rw [hat i h1]
      exact (hS.blk i bl h2).goes g (fun b hb => hE.block b ((hS.blk i bl h2).lt hb).2)
    · rw [hnew]; exact hb
  · rcases split i bi hi with ⟨h1, h2⟩ | ⟨rfl, rfl⟩ <;> rcases split j bj hj with ⟨h3, h4⟩ | ⟨rfl, rfl⟩
    · rw [hat i h1] at hbi; rw [hat j h3] at hbj; exact hS.inj i j bi bj b h2 h4 hbi hbj
    · rw [hat i h1] at hbi; rw [hnew] at hbj
      have := ((hS.blk i bi h2).lt hbi).2; have := hv b hbj; omega
    · rw [hnew] at hbi; rw [hat j h3] at hbj
      have := ((hS.blk j bj h4).lt hbj).2; have := hv b hbi; omega
    · rfl
theorem set_none {i j : Nat} {bl : Blk} (h : (σ.set i none)[j]? = some (some bl)) : j ≠ i ∧ σ[j]? = some (some bl) := by
  rw [List.getElem?_set] at h
  split at h
  · rename_i he; subst he; split at h <;> simp at h
  · rename_i he; exact ⟨Ne.symm he, h⟩
theorem Sat.kill (hS : Sat F base σ E w) (i : Nat) {bi : Blk} (hi : σ[i]? = some (some bi)) : Sat F base (σ.set i none) (E.kill i) w ∧ Goes E w (E.kill i) w := by
  have g : Goes E w (E.kill i) w := ⟨Nat.le_refl _, fun _ _ => rfl, fun b _ hM h => hM h.1, Nat.le_refl _, fun _ _ _ => rfl⟩
  refine ⟨⟨hS.bl, fun b hb => ⟨(hS.fb b hb).1, fun j bl hj => (hS.fb b hb).2 j bl (set_none hj).2⟩, by simp [Env.kill, hS.len], fun b => ?_, fun j bl hj => ?_, fun j k bj bk b hj hk h1 h2 => hS.inj j k bj bk b (set_none hj).2 (set_none hk).2 h1 h2⟩, g⟩
  · constructor
    · rintro ⟨h1, h2⟩
      rcases (hS.mm b).1 h1 with h | ⟨j, bl, h3, h4⟩
      · exact .inl h
      · refine .inr ⟨j, bl, ?_, h4⟩
        have hne : i ≠ j := fun e => by rw [← e] at h4; exact h2 h4
        rw [List.getElem?_set, if_neg hne]; exact h3
    · rintro (h | ⟨j, bl, h1, h2⟩)
      · exact ⟨(hS.mm b).2 (.inl h), (hS.fb b h).2 i bi hi⟩
      · obtain ⟨hne, h3⟩ := set_none h1
        refine ⟨(hS.mm b).2 (.inr ⟨j, bl, h3, h2⟩), fun h4 => hne (hS.inj j i bl bi b h3 hi h2 h4)⟩
  · exact (hS.blk j bl (set_none hj).2).goes g (fun _ _ => rfl)
/-- One block is turned; the others stay. -/
theorem Sat.turn (hS : Sat F base σ E w) {i b : Nat} {bi bi' : Blk} (hi : σ[i]? = some (some bi)) (hb : blockOf (E.at_ i) = some b) (hs : w.heap.size ≤ w'.heap.size) (ho : ∀ k, k < w.heap.size → k ≠ b → w'.heap[k]? = w.heap[k]?) (hn : BlkSat base E w' (E.at_ i) bi') :
    Sat F base (σ.set i (some bi')) E w' ∧ Goes E w E w' := by
  have hbM : E.M b := (hS.mm b).2 (.inr ⟨i, bi, hi, hb⟩)
  have hil : i < σ.length := (List.getElem?_eq_some_iff.1 hi).1
  have g : Goes E w E w' := ⟨Nat.le_refl _, fun _ _ => rfl, fun _ _ h => h, hs, fun k hk hM => ho k hk (fun e => hM (by rw [e]; exact hbM))⟩
  have split : ∀ j (bl : Blk), (σ.set i (some bi'))[j]? = some (some bl) → (j ≠ i ∧ σ[j]? = some (some bl)) ∨ (j = i ∧ bl = bi') := fun j bl h => by
    rw [List.getElem?_set] at h
    split at h
    · rename_i he; subst he; simp at h; exact .inr ⟨rfl, h.symm⟩
    · rename_i he; exact .inl ⟨Ne.symm he, h⟩
  have back : ∀ j (bl : Blk), σ[j]? = some (some bl) → ∃ bl', (σ.set i (some bi'))[j]? = some (some bl') := fun j bl h => by
    by_cases he : i = j
    · subst he; exact ⟨bi', by rw [List.getElem?_set, if_pos rfl, if_pos hil]⟩
    · exact ⟨bl, by rw [List.getElem?_set, if_neg he]; exact h⟩
  have fwd : ∀ j (bl : Blk), (σ.set i (some bi'))[j]? = some (some bl) → ∃ bl', σ[j]? = some (some bl') := fun j bl h => by
    rcases split j bl h with ⟨_, h2⟩ | ⟨rfl, _⟩
    · exact ⟨bl, h2⟩
    · exact ⟨bi, hi⟩
  refine ⟨⟨Nat.le_trans hS.bl hs, fun k hk => ⟨Nat.lt_of_lt_of_le (hS.fb k hk).1 hs, fun j bl hj => ?_⟩, by simp [hS.len], fun k => ?_, fun j bl hj => ?_, fun j k bj bk c hj hk h1 h2 => ?_⟩, g⟩
  · obtain ⟨bl', h'⟩ := fwd j bl hj
    exact (hS.fb k hk).2 j bl' h'
  · rw [hS.mm k]
    constructor
    · rintro (h | ⟨j, bl, h1, h2⟩)
      · exact .inl h
      · obtain ⟨bl', h'⟩ := back j bl h1
        exact .inr ⟨j, bl', h', h2⟩
    · rintro (h | ⟨j, bl, h1, h2⟩)
      · exact .inl h
      · obtain ⟨bl', h'⟩ := fwd j bl h1
        exact .inr ⟨j, bl', h', h2⟩
  · rcases split j bl hj with ⟨h1, h2⟩ | ⟨rfl, rfl⟩
    · exact (hS.blk j bl h2).goes g (fun k hk => ho k ((hS.blk j bl h2).lt hk).2 (fun e => h1 (hS.inj j i bl bi b h2 hi (by rw [← e]; exact hk) hb)))
    · exact hn
  · obtain ⟨bj', hj'⟩ := fwd j bj hj
    obtain ⟨bk', hk'⟩ := fwd k bk hk
    exact hS.inj j k bj' bk' c hj' hk' h1 h2
end

section
variable {P : Program} {σ : Sto} {t : Tms} {o : Oper}

theorem tyK_size {ty : TypeId} {k : Option Nat} (h : tyK P ty = some k) (w : World) : (sizeOf ty).run P w = .ok (k.getD 1) w := by
  unfold tyK at h
  split at h
  · rename_i d i hu hi
    have hr : (sizeOf ty).run P w = .ok i.size w := by simp [sizeOf, typeInfo, hi]
    rw [hr]
    split at h
    · cases h; rfl
    · cases h; rfl
    · split at h
      · rename_i h1; cases h; simp [h1]
      · cases h
  · cases h
def Blk.setXs : Blk → List PV → Blk
  | .cells t _, xs => .cells t xs
  | .row e s n _, xs => .row e s n xs
theorem over_repL {E : Env} {w : World} {cs vs : List Value} {xs ys : List PV} (h : RepL E w cs xs) (k : RepL E w vs ys) (off : Nat) : RepL E w (cs.take off ++ vs ++ cs.drop (off + vs.length)) (over xs off ys) := by
  unfold over
  rw [List.append_assoc, ← k.1]
  exact (h.take off).append (k.append (h.drop _))
theorem store_core {ty : TypeId} {k : Option Nat} {x y : Operand} {i off : Nat} {blk : Blk} {ys : List PV} {F : Nat → Prop} {base : Nat} {E : Env} {ρ : Operand → Value} {w : World} (ho : o.op = .store ty x y) (hk : tyK P ty = some k) (hx : evalO t x = some (.ptr i off)) (h2 : RepL E w (ρ y).cells.toList ys) (hl : ys.length = k.getD 1)
    (hi : σ[i]? = some (some blk)) (hoff : off + ys.length ≤ blk.xs.length) [IsOneL ys] (hρ : IsEval ρ) (hS : Sat F base σ E w) (hT : RepT E w ρ t) :
    ∃ v w' E', ((execOp ρ o).run P w = .ok (.value v) w' ∨ (v = undef ∧ (execOp ρ o).run P w = .ok .skip w')) ∧ Sat F base (σ.set i (some (blk.setXs (over blk.xs off ys)))) E' w' ∧ Goes E w E' w' ∧ Below base w w' ∧ Rep E' w' v (.raw undef) := by
  have h1 := evalO_rep hρ hT hx
  generalize hz : ρ x = z at h1
  cases h1 with
  | ptr _ _ b hiL hat =>
    have hbk : blockOf (E.at_ i) = some b := by rcases hat with hat | ⟨n, c, hat⟩ <;> rw [hat] <;> rfl
    have hbM : E.M b := (hS.mm b).2 (.inr ⟨i, blk, hi, hbk⟩)
    have hB := hS.blk i blk hi
    have hbase := hB.lt hbk
    have hone := h2.oneCell
    have hsz : (ρ y).cells.size = k.getD 1 := by rw [← Array.length_toList, h2.1, hl]
    have go : ∀ (cur : Array Value) (e : TypeId), w.heap[b]? = some (.cells cur e (0, 0)) → off + ys.length ≤ cur.size →
        (execOp ρ o).run P w = .ok .skip (w.setRow b (cur.toList.take off ++ (ρ y).cells.toList ++ cur.toList.drop (off + (ρ y).cells.toList.length)).toArray) := fun cur e hcur hle => by
      have hst := run_storeCells_at P b off e (ρ y).cells.toList 0 cur w hcur (by rw [Nat.add_zero, h2.1]; exact hle) hone
      simp only [Nat.add_zero] at hst
      have hrun : (Instr.storeAt ty (.pointer (some ⟨b, off, none⟩)) (ρ y)).run P w = .ok () (w.setRow b (cur.toList.take off ++ (ρ y).cells.toList ++ cur.toList.drop (off + (ρ y).cells.toList.length)).toArray) := by
        simp only [Instr.storeAt, Instr.sureAddr, storeVar, Sem.run_bind, Sem.run_pure, Result.andThen_ok, tyK_size hk, hsz, ne_eq, not_true_eq_false, if_false]
        exact hst
      simp only [execOp, ho, hz, Sem.run_bind, hrun, Result.andThen_ok, Sem.run_pure]
    have oth : ∀ (cs : Array Value) j, j < w.heap.size → j ≠ b → (w.setRow b cs).heap[j]? = w.heap[j]? := fun cs j _ hj => setRow_other w b j cs hj
    have hsize : ∀ cs : Array Value, w.heap.size ≤ (w.setRow b cs).heap.size := fun cs => by simp
    have hbelow : ∀ cs : Array Value, Below base w (w.setRow b cs) := fun cs => ⟨rfl, rfl, rfl, hsize cs, fun j hj => setRow_other w b j cs (by omega)⟩
    cases blk with
    | cells ty' xs =>
      obtain ⟨b', cs, he, k1, k2, k3⟩ := hB
      have : b = b' := by rw [he] at hbk; simp [blockOf] at hbk; exact hbk.symm
      subst this
      have hlen : cs.size = xs.length := by have := k3.1; rw [Array.length_toList] at this; exact this
      have hrun := go cs ty' k2 (by rw [hlen]; exact hoff)
      have hn := hS.turn (w' := w.setRow b (cs.toList.take off ++ (ρ y).cells.toList ++ cs.toList.drop (off + (ρ y).cells.toList.length)).toArray) (bi' := .cells ty' (over xs off ys)) hi hbk (hsize _) (oth _) ⟨b, _, he, k1, setRow_heap w b cs _ ty' _ k2, by
        have := over_repL k3 h2 off
        have g : Goes E w E (w.setRow b (cs.toList.take off ++ (ρ y).cells.toList ++ cs.toList.drop (off + (ρ y).cells.toList.length)).toArray) := ⟨Nat.le_refl _, fun _ _ => rfl, fun _ _ h => h, hsize _, fun j hj hM => oth _ j hj (fun e => hM (by rw [e]; exact hbM))⟩
        exact this.goes g⟩
      exact ⟨undef, _, E, .inr ⟨rfl, hrun⟩, hn.1, hn.2, hbelow _, .raw _⟩
    | row e s n xs =>
      obtain ⟨cs, k1, k2⟩ := hB
      obtain ⟨hcl, k1'⟩ := k1
      rcases k1' with ⟨hv, _⟩ | ⟨g, cap, cur, hv, hb0, hg, hnc, hcm, hcs, htake⟩
      · rw [hv] at hbk; cases hbk
      · have : b = g := by rw [hv] at hbk; simp [blockOf] at hbk; exact hbk.symm
        subst this
        have hle : n * s ≤ cur.size := by rw [hcs]; exact Nat.mul_le_mul_right _ hnc
        have hxl : xs.length = n * s := by rw [← k2.1, hcl]
        have hoff' : off + ys.length ≤ n * s := by rw [← hxl]; exact hoff
        have hrun := go cur e hg (by omega)
        have hlenv : (ρ y).cells.toList.length = ys.length := h2.1
        have htk : (cur.toList.take off ++ (ρ y).cells.toList ++ cur.toList.drop (off + (ρ y).cells.toList.length)).take (n * s) = cs.take off ++ (ρ y).cells.toList ++ cs.drop (off + (ρ y).cells.toList.length) := by
          rw [← htake, List.append_assoc, List.take_append, List.take_append, List.take_take, List.length_take, Array.length_toList]
          rw [List.append_assoc, List.take_take, List.drop_take]
          congr 1
          · congr 1; omega
          · congr 1
            · rw [List.take_of_length_le (by rw [hlenv]; omega)]
            · congr 1; rw [hlenv]; omega
        have hn := hS.turn (w' := w.setRow b (cur.toList.take off ++ (ρ y).cells.toList ++ cur.toList.drop (off + (ρ y).cells.toList.length)).toArray) (bi' := .row e s n (over xs off ys)) hi hbk (hsize _) (oth _) ⟨cs.take off ++ (ρ y).cells.toList ++ cs.drop (off + (ρ y).cells.toList.length), ⟨by
            simp only [List.length_append, List.length_take, List.length_drop, hlenv, hcl]; omega, .inr ⟨b, cap, _, hv, hb0, setRow_heap w b cur _ e _ hg, hnc, hcm, by
            simp only [List.size_toArray, List.length_append, List.length_take, List.length_drop, Array.length_toList, hlenv]; omega, htk⟩⟩, by
          have := over_repL k2 h2 off
          have g : Goes E w E (w.setRow b (cur.toList.take off ++ (ρ y).cells.toList ++ cur.toList.drop (off + (ρ y).cells.toList.length)).toArray) := ⟨Nat.le_refl _, fun _ _ => rfl, fun _ _ h => h, hsize _, fun j hj hM => oth _ j hj (fun e => hM (by rw [e]; exact hbM))⟩
          exact this.goes g⟩
        exact ⟨undef, _, E, .inr ⟨rfl, hrun⟩, hn.1, hn.2, hbelow _, .raw _⟩

/-- A store. -/
theorem l_store {ty : TypeId} {k : Option Nat} {x y : Operand} {i off : Nat} {p : PV} {blk : Blk} {ys : List PV} (ho : o.op = .store ty x y) (hk : tyK P ty = some k) (hx : evalO t x = some (.ptr i off)) (hy : evalO t y = some p) (hc : cellsP p = some ys) (hl : ys.length = k.getD 1)
    (hi : σ[i]? = some (some blk)) (hoff : off + ys.length ≤ blk.xs.length) [IsOneL ys] : Loud P σ t o (.raw undef) (σ.set i (some (blk.setXs (over blk.xs off ys)))) := by
  intro F base E ρ w hρ hS hT
  exact store_core ho hk hx (cellsP_rep (evalO_rep hρ hT hy) hc) hl hi hoff hρ hS hT
/-- A store of one cell. -/
theorem l_store1 {ty : TypeId} {x y : Operand} {i off : Nat} {p : PV} {blk : Blk} (ho : o.op = .store ty x y) (hk : tyK P ty = some none) (hx : evalO t x = some (.ptr i off)) (hy : evalO t y = some p) (hi : σ[i]? = some (some blk)) (hoff : off < blk.xs.length) [hone : IsOne p] : Loud P σ t o (.raw undef) (σ.set i (some (blk.setXs (over blk.xs off [p])))) := by
  intro F base E ρ w hρ hS hT
  have hv := evalO_rep hρ hT hy
  have h1 := hone.out E w _ hv
  have hcells : (ρ y).cells = #[ρ y] := by
    generalize ρ y = v at h1
    cases v <;> first | rfl | cases h1
  have h2 : RepL E w (ρ y).cells.toList [p] := by rw [hcells]; exact RepL.cons hv (RepL.nil E w)
  exact store_core ho hk hx (ys := [p]) h2 rfl hi (by simp; omega) hρ hS hT
theorem alloc_cells {F : Nat → Prop} {base : Nat} {E : Env} {w : World} (hS : Sat F base σ E w) (ty : TypeId) (cs : Array Value) {xs : List PV} (h : RepL E w cs.toList xs) :
    Sat F base (σ ++ [some (.cells ty xs)]) (E.push (.pointer (some ⟨w.heap.size, 0, none⟩))) (w.alloc (.cells cs ty)) ∧ Goes E w (E.push (.pointer (some ⟨w.heap.size, 0, none⟩))) (w.alloc (.cells cs ty)) ∧ Below base w (w.alloc (.cells cs ty)) ∧
    Rep (E.push (.pointer (some ⟨w.heap.size, 0, none⟩))) (w.alloc (.cells cs ty)) (.pointer (some ⟨w.heap.size, 0, none⟩)) (.ptr σ.length 0) := by
  have hE : Ext w (w.alloc (.cells cs ty)) := (Ext.refl w).alloc _
  have g := push_goes (E := E) (w := w) (w' := w.alloc (.cells cs ty)) (fun b h _ => hE.block b h) hE.size (v := .pointer (some ⟨w.heap.size, 0, none⟩)) (fun b h => by simp [blockOf] at h; exact .inl (by omega))
  have hp := hS.push hE (v := .pointer (some ⟨w.heap.size, 0, none⟩)) (blk := .cells ty xs) (fun b h => by simp [blockOf] at h; omega) ⟨w.heap.size, cs, rfl, hS.bl, heap_alloc_new w _, h.goes g⟩
  refine ⟨hp.1, hp.2, Below.ofExt hE hS.bl, .ptr σ.length 0 w.heap.size (by simp [Env.push, hS.len]) (.inl ?_)⟩
  simp [Env.push, hS.len]
theorem l_box {ty : TypeId} {x : Operand} {p : PV} {xs : List PV} (ho : o.op = .box ty x) (hx : evalO t x = some p) (hc : cellsP p = some xs) : Loud P σ t o (.ptr σ.length 0) (σ ++ [some (.cells ty xs)]) := by
  intro F base E ρ w hρ hS hT
  have h := cellsP_rep (evalO_rep hρ hT hx) hc
  have hr : (execOp ρ o).run P w = .ok (.value (.pointer (some ⟨w.heap.size, 0, none⟩))) (w.alloc (.cells (ρ x).cells ty)) := by
    simp [execOp, ho, Instr.box, newVar, newRow]
  obtain ⟨a1, a2, a3, a4⟩ := alloc_cells hS ty _ h
  exact ⟨_, _, _, .inl hr, a1, a2, a3, a4⟩
def zeroK (P : Program) (ty : TypeId) : Option (List Value) :=
  match P.info? ty with
  | some i => match i.zero with
    | some z => some z.cells.toList
    | none => none
  | none => none
theorem raws_rep {E : Env} {w : World} (cs : List Value) : RepL E w cs (cs.map .raw) := ⟨by simp, fun i x u k1 k2 => by
  simp only [List.getElem?_map, Option.map_eq_some_iff] at k2
  obtain ⟨y, hy, rfl⟩ := k2
  rw [hy] at k1; cases k1
  exact .raw _⟩
theorem l_alloc {ty : TypeId} {z : List Value} (ho : o.op = .alloc ty) (hz : zeroK P ty = some z) : Loud P σ t o (.ptr σ.length 0) (σ ++ [some (.cells ty (z.map .raw))]) := by
  intro F base E ρ w hρ hS hT
  unfold zeroK at hz
  split at hz
  · rename_i i hi
    split at hz
    · rename_i z' hz'
      cases hz
      have hr : (execOp ρ o).run P w = .ok (.value (.pointer (some ⟨w.heap.size, 0, none⟩))) (w.alloc (.cells z'.cells ty)) := by
        simp [execOp, ho, Instr.alloc, zeroValue, typeInfo, hi, hz', newVar, newRow]
      obtain ⟨a1, a2, a3, a4⟩ := alloc_cells hS ty z'.cells (raws_rep (E := E) (w := w) z'.cells.toList)
      exact ⟨_, _, _, .inl hr, a1, a2, a3, a4⟩
    · cases hz
  · cases hz
/-- A row that the call owns is laid. -/
theorem lay_row {F : Nat → Prop} {base : Nat} {E : Env} {w w' : World} (hS : Sat F base σ E w) (hE : Ext w w') {e s n : Nat} {v : Value} {cs : List Value} {xs : List PV} (hv : ∀ b, blockOf v = some b → w.heap.size ≤ b) (ho : w'.ownsRow base e s v n cs) (hR : RepL E w cs xs) :
    Sat F base (σ ++ [some (.row e s n xs)]) (E.push v) w' ∧ Goes E w (E.push v) w' ∧ Below base w w' ∧ Rep (E.push v) w' v (.own σ.length) := by
  have g := push_goes (E := E) (w := w) (w' := w') (fun b h _ => hE.block b h) hE.size (v := v) (fun b h => .inl (hv b h))
  have hp := hS.push hE (v := v) (blk := .row e s n xs) hv ⟨cs, ho, hR.goes g⟩
  refine ⟨hp.1, hp.2, Below.ofExt hE hS.bl, .own σ.length (by simp [Env.push, hS.len]) v (by simp [Env.push, hS.len]) ?_⟩
  rcases ho.2 with ⟨rfl, _⟩ | ⟨g', cap, cur, rfl, _⟩ <;> rfl
/-- Slice types with what append and make ask for. -/
def rowK (P : Program) (ty : TypeId) : Option (TypeId × Nat × Nat × List Value) :=
  match P.underlying ty with
  | some (.slice e) => match P.info? e with
    | some i => match i.zero with
      | some z => if z.cells.size = i.size ∧ 0 < i.size then some (e, i.size, i.bytes, z.cells.toList) else none
      | none => none
    | none => none
  | _ => none
theorem rowK_spec {ty e s by' : Nat} {z : List Value} (h : rowK P ty = some (e, s, by', z)) : P.underlying ty = some (.slice e) ∧ ∃ i z', P.info? e = some i ∧ i.size = s ∧ i.bytes = by' ∧ i.zero = some z' ∧ z'.cells.toList = z ∧ z'.cells.size = s ∧ 0 < s := by
  unfold rowK at h
  split at h
  · rename_i e' hu
    split at h
    · rename_i i hi
      split at h
      · rename_i z' hz
        split at h
        · rename_i hc; cases h; exact ⟨hu, i, z', hi, rfl, rfl, hz, rfl, hc.1, hc.2⟩
        · cases h
      · cases h
    · cases h
  · cases h
theorem l_make {ty e s by' : Nat} {z : List Value} {l c : Operand} {n : Nat} {li ci : Int} {k k' : IntKind} (ho : o.op = .makeSlice ty l c) (hk : rowK P ty = some (e, s, by', z)) (hl : evalO t l = some (.raw (.int k li))) (hc : evalO t c = some (.raw (.int k' ci))) (hli : li = (n : Int)) (hci : ci = (n : Int)) (hn : n ≤ maxLen ∧ by' * n ≤ 281474976710656) :
    Loud P σ t o (.own σ.length) (σ ++ [some (.row e s n (zeros (z.map .raw) n))]) := by
  intro F base E ρ w hρ hS hT
  have h1 := evalO_rep hρ hT hl
  have h2 := evalO_rep hρ hT hc
  generalize hz1 : ρ l = v1 at h1
  generalize hz2 : ρ c = v2 at h2
  cases h1; cases h2
  subst hli; subst hci
  obtain ⟨hu, i, z', hi, hs, hby, hz, hzz, hzs, hpos⟩ := rowK_spec hk
  obtain ⟨w', hrun, hown, hg⟩ := run_make_full (P := P) w base ty e i z' s hu hi hz hs k k' n (by rw [hby]; exact hn.2) hn.1 hS.bl
  have hr : (execOp ρ o).run P w = .ok (.value (.slice (some ⟨w.heap.size, 0, none⟩) n n)) w' := by
    simp only [execOp, ho, hz1, hz2, Sem.run_bind, hrun, Result.andThen_ok, Sem.run_pure]
  have hR : RepL E w (madeCells z'.cells (n * s)).toList (zeros (z.map .raw) n) := by
    rw [← hzz]; exact zeros_rep z'.cells n (n * s) (by rw [hzs])
  obtain ⟨a1, a2, a3, a4⟩ := lay_row hS (ext_of_grown hg) (fun b h => by simp [blockOf] at h; omega) hown hR
  exact ⟨_, _, _, .inl hr, a1, a2, a3, a4⟩
theorem over_len (xs : List PV) (off : Nat) (ys : List PV) (h : off + ys.length ≤ xs.length) : (over xs off ys).length = xs.length := by
  simp [over]; omega
theorem fillP_len {place : Nat → Option (Nat × Nat)} : ∀ {ps : List (Nat × List PV)} {xs ys : List PV}, fillP place xs ps = some ys → ys.length = xs.length
  | [], xs, ys, h => by simp only [fillP, Option.some.injEq] at h; rw [h]
  | (i, q) :: ps, xs, ys, h => by
    simp only [fillP] at h
    split at h
    · cases h
    · rename_i off size hpl
      rw [Bool.cond_eq_ite] at h
      split at h
      · rename_i hc
        simp only [Bool.and_eq_true, Nat.beq_eq, Nat.ble_eq] at hc
        rw [fillP_len h, over_len _ _ _ (by omega)]
      · cases h
theorem l_buildSlice {ty e s n : Nat} {parts : Array (Nat × Operand)} {z : List Value} {ps : List (Nat × List PV)} {xs : List PV} (ho : o.op = .buildSlice ty n parts) (hk : slK P ty = some (e, s, z)) (hn : 0 < n ∧ n * s ≤ 16777216) (hp : evalP t parts.toList = some ps)
    (hf : fillP (fun i => some (i * s, s)) (zeros (z.map .raw) n) ps = some xs) : Loud P σ t o (.own σ.length) (σ ++ [some (.row e s n xs)]) := by
  intro F base E ρ w hρ hS hT
  obtain ⟨h1, h2⟩ := evalP_rep hρ hT parts.toList ps hp
  obtain ⟨hu, i, z', hi, hs, hz, hzz, hzl, hpos⟩ := slK_spec hk
  have hzs : z'.cells.size = s := by rw [← hzl, ← hzz]; simp
  have hR0 : RepL E w ((Array.range (n * s)).map (z'.cells[· % z'.cells.size]!)).toList (zeros (z.map .raw) n) := by
    rw [← hzz]; exact zeros_rep z'.cells n (n * s) (by rw [hzs])
  obtain ⟨cs, hc, hR⟩ := fill_rep (fun i => some (i * s, s)) _ ps _ _ xs hR0 h1 h2 hf
  have hns : 0 < n * s := Nat.mul_pos hn.1 hpos
  have hrun := run_buildSlice (P := P) w ty e n (parts.map fun (i, x) => (i, ρ x)) cs i z' hu hi hz (by rw [hs]; omega) (by rw [hs]; omega) (by rw [hs, Array.toList_map]; simpa using hc)
  have hr : (execOp ρ o).run P w = .ok (.value (.slice (some ⟨w.heap.size, 0, none⟩) n n)) (w.alloc (.cells cs e)) := by
    simp only [execOp, ho, Sem.run_bind, hrun, Result.andThen_ok, Sem.run_pure]
  have hle : n ≤ n * s := Nat.le_mul_of_pos_right n hpos
  have hcsz : cs.size = n * s := by
    have h3 := hR.1
    have h4 := fillP_len hf
    rw [Array.length_toList] at h3
    rw [h3, h4, zeros_len]; simp [hzl]
  obtain ⟨a1, a2, a3, a4⟩ := lay_row hS ((Ext.refl w).alloc (.cells cs e)) (fun b h => by simp [blockOf] at h; omega) (World.ownsRow_lit (base := base) (e := e) (size := s) w cs n hS.bl (by unfold maxLen; omega) hcsz) hR
  exact ⟨_, _, _, .inl hr, a1, a2, a3, a4⟩
end
end PW
end Go.Proofs.YtkaalpdfppbdeaaDoor
