/- Pure walks: strings: bytes appended to a row of the call's own. No program in sight. -/
import Derived.Test.YtkaalpdfppbdeaaDoorPWw
import Derived.Lib.AppendStr
import Derived.Lib.UnsafeStr
import Derived.Lib.Builder
namespace Go.Proofs.YtkaalpdfppbdeaaDoor
namespace PW
open Go.RowKit Reg Mem
section
variable {P : Program} {σ : Sto} {t : Tms} {o : Oper}
def bytesP (l : List UInt8) : List PV := l.map fun b => .raw (.int .u8 b.toNat)
instance (l : List UInt8) : IsPureL (bytesP l) := IsPureL.map _ _ fun _ => inferInstance
instance (l : List UInt8) : IsOneL (bytesP l) := IsOneL.map _ _ fun _ => inferInstance
theorem bytesP_append (a b : List UInt8) : bytesP a ++ bytesP b = bytesP (a ++ b) := by simp [bytesP]
theorem run_append_whereS {w : World} (base : Nat) (t u ty e : TypeId) (i : TypeInfo) (ht : P.underlying t = some (.slice e)) (hu : P.underlying u = some .string) (hi : P.info? e = some i) (hz : i.zero = some (.int .u8 0))
    (hsize : i.size = 1) (hby : i.bytes = 1) (v : Value) (n : Nat) (xs : List Value) (hown : w.ownsRow base e 1 v n xs) (s : ByteArray)
    (h63 : n + s.size ≤ maxLen) (hbytes : n + s.size ≤ 140737488355328) (hbase : base ≤ w.heap.size) :
    ∃ v' w', (Builtin.append_ #[t, u] ty #[v, .string s]).run P w = .ok v' w' ∧ w'.ownsRow base e 1 v' (n + s.size) (xs ++ Lib.strCells s) ∧ w.grownBy w' v.ownBlock ∧ (v'.ownBlock = v.ownBlock ∨ v'.ownBlock = some w.heap.size) := by
  obtain ⟨v', w', hr, h2, h3, h4⟩ := Lib.run_append_own_string (P := P) w base t u ty e i ht hu hi hz hsize hby v n xs hown s h63 hbytes hbase
  refine ⟨v', w', hr, h2, h3, ?_⟩
  have hsmall : n + s.size ≤ 9223372036854775807 := by simp only [maxLen] at h63; omega
  rcases hown.2 with ⟨rfl, rfl⟩ | ⟨g, cap, cur, rfl, hbg, hg, hnc, hcm, hcs, htake⟩
  · by_cases hm : s.size = 0
    · rw [h4.2 ⟨rfl, hm⟩]; exact .inl rfl
    · have hr' := run_append_nil_string (P := P) w t u ty e i (.int .u8 0) ht hu hi hz s (by omega) (by omega) (by rw [hby]; omega)
      rw [hr'] at hr
      cases hr
      exact .inr rfl
  · by_cases hroom : n + s.size ≤ cap
    · have hr' := Lib.run_append_room_string (P := P) w t u ty e i ht hu hi hsize g n cap cur hg s hroom (by rw [hcs]; omega)
      rw [hr'] at hr
      cases hr
      exact .inl rfl
    · have holds : ∀ (j : Nat) u, xs[j]? = some u → w.cell? ((⟨g, 0, none⟩ : Addr).add j) = some u := hown.cells (g := g) rfl
      have hr' := Lib.run_append_grow_string (P := P) w t u ty e i (.int .u8 0) ht hu hi hz ⟨g, 0, none⟩ n cap xs (by rw [hsize]; exact hown.1) holds s (by omega) (by omega) (growslice_fits (by omega) (by rw [hby]; omega))
      rw [hr'] at hr
      cases hr
      exact .inr rfl
def byteK (P : Program) (ty sy : TypeId) : Option TypeId :=
  match P.underlying ty, P.underlying sy with
  | some (.slice e), some .string => match P.info? e with
    | some i => match i.zero with
      | some (.int .u8 0) => bif Nat.beq i.size 1 && Nat.beq i.bytes 1 then some e else none
      | _ => none
    | none => none
  | _, _ => none
theorem byteK_spec {ty sy e : TypeId} (h : byteK P ty sy = some e) : P.underlying ty = some (.slice e) ∧ P.underlying sy = some .string ∧ ∃ i, P.info? e = some i ∧ i.zero = some (.int .u8 0) ∧ i.size = 1 ∧ i.bytes = 1 := by
  unfold byteK at h
  split at h
  · rename_i e' h1 h2
    split at h
    · rename_i i hi
      split at h
      · rename_i hz
        rw [Bool.cond_eq_ite] at h
        split at h
        · rename_i hb
          cases h
          obtain ⟨b1, b2⟩ := Bool.and_eq_true_iff.1 hb
          exact ⟨h1, h2, i, hi, hz, Nat.eq_of_beq_eq_true b1, Nat.eq_of_beq_eq_true b2⟩
        · cases h
      · cases h
    · cases h
  · cases h
/-- Append of a string to a row of bytes of the call's own. -/
theorem l_appendStr {ty sy e n i : Nat} {xs : List PV} {x y : Operand} {s : ByteArray} (ho : o.op = .call { callee := .builtin .append, args := #[x, y], argTypes := #[ty, sy] }) (hk : byteK P ty sy = some e) (hx : evalO t x = some (.own i)) (hi : σ[i]? = some (some (.row e 1 n xs)))
    (hy : evalO t y = some (.raw (.string s))) (hn : n + s.size ≤ 140737488355328) :
    Loud P σ t o (.own σ.length) (σ.set i none ++ [some (.row e 1 (n + s.size) (xs ++ bytesP s.data.toList))]) := by
  intro F base E ρ w hρ hS hT
  have h1 := evalO_rep hρ hT hx
  have h2 := evalO_rep hρ hT hy
  generalize hz1 : ρ x = v at h1
  generalize hz2 : ρ y = u at h2
  cases h2
  obtain ⟨hu, hu2, inf, hinf, hz, hs, hby⟩ := byteK_spec hk
  cases h1 with
  | own _ hiL _ hat hone =>
    obtain ⟨cs, k1, k2⟩ := hS.blk i _ hi
    rw [hat] at k1
    have hob : blockOf (E.at_ i) = v.ownBlock := by rw [hat]; exact own_block k1
    obtain ⟨v', w', hrun, hown, hg, hw⟩ := run_append_whereS (P := P) (w := w) base ty sy o.type e inf hu hu2 hinf hz hs hby v n cs k1 s (by unfold maxLen; omega) hn hS.bl
    have hr : (execOp ρ o).run P w = .ok (.value v') w' := by
      simp only [execOp, ho, resolve, invoke, builtin, Sem.run_bind, Sem.run_pure, Result.andThen_ok, List.map_toArray, List.map_cons, List.map_nil, hz1, hz2, hrun]
    have hnw : RepL E w (Lib.strCells s) (bytesP s.data.toList) := by
      refine ⟨by simp [Lib.strCells, bytesP], fun j c u h1 h2 => ?_⟩
      simp only [Lib.strCells, bytesP, List.getElem?_map, Option.map_eq_some_iff] at h1 h2
      obtain ⟨b, hb, rfl⟩ := h1
      obtain ⟨b', hb', rfl⟩ := h2
      rw [hb] at hb'
      cases hb'
      exact .raw _
    have hv' : ∀ b, blockOf v' = some b → blockOf (E.at_ i) = some b ∨ w.heap.size ≤ b := fun b hb => by
      rw [own_block hown] at hb
      rcases hw with h | h
      · rw [hob, ← h]; exact .inl hb
      · rw [h] at hb; cases hb; exact .inr (Nat.le_refl _)
    obtain ⟨a1, a2⟩ := hS.swap (w' := w') (blk := .row e 1 (n + s.size) (xs ++ bytesP s.data.toList)) hi hg.size (fun k hk hne => hg.block k hk (by rw [← hob]; exact Ne.symm hne)) hv' (fun E' g => ⟨cs ++ Lib.strCells s, hown, (k2.append hnw).goes g⟩)
    refine ⟨v', w', _, .inl hr, a1, a2, ⟨hg.os, hg.tape, hg.output, hg.size, fun k hk => hg.block k (Nat.lt_of_lt_of_le hk hS.bl) (fun e => ?_)⟩, .own σ.length (by simp [Env.push, Env.kill, hS.len]) v' (by simp [Env.push, Env.kill, hS.len]) ?_⟩
    · have := (k1.lt k e.symm).1; omega
    · rcases hown.2 with ⟨rfl, _⟩ | ⟨g', cap, cur, rfl, _⟩ <;> rfl
theorem Sat.drop {F : Nat → Prop} {base : Nat} {E : Env} {w w' : World} (hS : Sat F base σ E w) {j g : Nat} {bj : Blk} (hj : σ[j]? = some (some bj)) (hb : blockOf (E.at_ j) = some g) (hs : w.heap.size ≤ w'.heap.size) (ho : ∀ k, k < w.heap.size → k ≠ g → w'.heap[k]? = w.heap[k]?) :
    Sat F base (σ.set j none) (E.kill j) w' ∧ Goes E w (E.kill j) w' := by
  have hgM : E.M g := (hS.mm g).2 (.inr ⟨j, bj, hj, hb⟩)
  obtain ⟨k1, _⟩ := hS.kill j hj
  have g' : Goes E w (E.kill j) w' := ⟨Nat.le_refl _, fun _ _ => rfl, fun b _ hM h => hM h.1, hs, fun k hk hM => ho k hk (fun e => hM (by rw [e]; exact hgM))⟩
  refine ⟨⟨Nat.le_trans hS.bl hs, fun b hb' => ⟨Nat.lt_of_lt_of_le (k1.fb b hb').1 hs, (k1.fb b hb').2⟩, k1.len, k1.mm, fun i bl hi => ?_, k1.inj⟩, g'⟩
  obtain ⟨hne, h3⟩ := set_none hi
  exact (hS.blk i bl h3).goes g' (fun k hk => ho k ((hS.blk i bl h3).lt hk).2 (fun e => hne (hS.inj i j bl bj g h3 hj (by rw [← e]; exact hk) hb)))
theorem y_lenStr {ty : TypeId} {x : Operand} {s : ByteArray} (ho : o.op = .call { callee := .builtin .len, args := #[x], argTypes := #[ty] }) (hu : P.underlying ty = some .string) (hx : evalO t x = some (.raw (.string s))) : Yield P σ t o (.raw (.int .i64 s.size)) := by
  intro F base E ρ w hρ _ hT
  have h1 := evalO_rep hρ hT hx
  generalize hz : ρ x = z at h1
  cases h1
  simp [execOp, ho, resolve, invoke, builtin, Builtin.len_, hz, run_underlying hu, goInt]
  exact upon_val (.raw _)
/-- unsafe.SliceData of a row of the call's own that is not empty. -/
theorem y_sliceData {ty : TypeId} {x : Operand} {j e s n : Nat} {xs : List PV} (ho : o.op = .call { callee := .builtin .unsafeSliceData, args := #[x], argTypes := #[ty] }) (hx : evalO t x = some (.own j)) (hj : σ[j]? = some (some (.row e s n xs))) (hn : 0 < n) : Yield P σ t o (.ptr j 0) := by
  intro F base E ρ w hρ hS hT
  have h1 := evalO_rep hρ hT hx
  generalize hz : ρ x = z at h1
  cases h1 with
  | own _ hi _ h hone =>
    obtain ⟨cs, k1, _⟩ := hS.blk j _ hj
    rw [h] at k1
    rcases k1.2 with ⟨_, h0⟩ | ⟨g, cap, cur, hv, _, _, hnc, _⟩
    · omega
    · subst hv
      have := Lib.run_unsafeSliceData_row (P := P) w #[ty] o.type ⟨g, 0, none⟩ n cap (by omega)
      simp only [execOp, ho, resolve, invoke, builtin, Sem.run_bind, Sem.run_pure, Result.andThen_ok, List.map_toArray, List.map_cons, List.map_nil, hz, this]
      exact upon_val (.ptr j 0 g hi (.inr ⟨n, cap, h⟩))
/-- unsafe.String over a row of bytes of the call's own: the row is no longer written to. -/
theorem l_unsafeStr {pt it : TypeId} {x y : Operand} {j e : Nat} {l : List UInt8} (ho : o.op = .call { callee := .builtin .unsafeString, args := #[x, y], argTypes := #[pt, it] }) (hp : P.underlying pt = some (.pointer e)) (hc : P.cellsOf e = 1) (hx : evalO t x = some (.ptr j 0)) (hy : evalO t y = some (.raw (.int .i64 l.length))) (hj : σ[j]? = some (some (.row e 1 l.length (bytesP l)))) (hl : 0 < l.length) :
    Loud P σ t o (.raw (.string ⟨l.toArray⟩)) (σ.set j none) := by
  intro F base E ρ w hρ hS hT
  have h1 := evalO_rep hρ hT hx
  have h2 := evalO_rep hρ hT hy
  generalize hz : ρ x = z at h1
  generalize hz' : ρ y = z' at h2
  cases h2
  cases h1 with
  | ptr _ _ b hi h =>
    obtain ⟨cs, k1, k2⟩ := hS.blk j _ hj
    have hcs : cs = Lib.byteCells l := by
      apply List.ext_getElem?
      intro i
      by_cases hi' : i < l.length
      · have h3 := k2.2 i (cs[i]'(by rw [k2.1]; simpa [bytesP] using hi')) (.raw (.int .u8 (l[i]).toNat)) (by simp) (by simp [bytesP, hi'])
        have h4 : cs[i]'(by rw [k2.1]; simpa [bytesP] using hi') = .int .u8 (l[i]).toNat := by
          generalize cs[i]'(by rw [k2.1]; simpa [bytesP] using hi') = q at h3
          cases h3; rfl
        rw [List.getElem?_eq_getElem (by rw [k2.1]; simpa [bytesP] using hi'), h4]
        simp [Lib.byteCells, hi']
      · rw [List.getElem?_eq_none (by rw [k2.1]; simp [bytesP]; omega), List.getElem?_eq_none (by simp [Lib.byteCells]; omega)]
    subst hcs
    have k3 := k1
    rcases k1.2 with ⟨hv, h0⟩ | ⟨g, cap, cur, hv, hbg, hg, hnc, hcm, hsz, htk⟩
    · omega
    · have hbeq : b = g := by
        rcases h with h | ⟨n, c, h⟩
        · rw [hv] at h; cases h
        · rw [hv] at h; cases h; rfl
      subst hbeq
      have hblk : blockOf (E.at_ j) = some b := by rw [hv]; rfl
      have hrun := Lib.run_unsafeString_row (P := P) w pt it o.type e hp hc b cur.size (by simp [World.shape?, hg]) l (by intro e'; rw [e'] at hl; simp at hl) (by omega) (by unfold maxLen at hcm; omega) (fun i x hx' => k3.cells (g := b) (by rw [hv]; rfl) i (.int .u8 x.toNat) (by simp [Lib.byteCells, hx']))
      have hr : (execOp ρ o).run P w = .ok (.value (.string ⟨l.toArray⟩)) (w.freeze ⟨b, 0, none⟩ l.length) := by
        simp only [execOp, ho, resolve, invoke, builtin, Sem.run_bind, Sem.run_pure, Result.andThen_ok, List.map_toArray, List.map_cons, List.map_nil, hz, hz', hrun]
      have hfz : ∀ k, k ≠ b → (w.freeze ⟨b, 0, none⟩ l.length).heap[k]? = w.heap[k]? := fun k hk => by
        unfold World.freeze
        split
        · rfl
        · simp only [Array.getElem?_modify]
          rw [if_neg (Ne.symm hk)]
      have hsz' : w.heap.size ≤ (w.freeze ⟨b, 0, none⟩ l.length).heap.size := by
        unfold World.freeze
        split <;> simp
      obtain ⟨a1, a2⟩ := Sat.drop (w' := w.freeze ⟨b, 0, none⟩ l.length) hS hj hblk hsz' (fun k _ hk => hfz k hk)
      exact ⟨_, _, _, .inl hr, a1, a2, Lib.below_freeze (Below.refl base w) (p := ⟨b, 0, none⟩) hbg _, .raw _⟩
theorem y_nilEql {x y : Operand} {ty tz : TypeId} (ho : o.op = .binOp .eql ty x y tz) (hk : ptrK P ty = true) (hx : evalO t x = some (.raw (.pointer none))) (hy : evalO t y = some (.raw (.pointer none))) : Yield P σ t o (.raw (.bool true)) := by
  refine y_bin ho hx hy fun w => ?_
  unfold ptrK at hk
  split at hk
  · rename_i e hu
    have key : ∀ d, (Op.equalIn (d + 1) ty (.pointer none) (.pointer none)).run P w = .ok true w := fun d => by
      simp only [Op.equalIn, Sem.run_bind, run_underlying hu, Result.andThen_ok, Sem.run_pure, Option.isNone_none]
    have := key 9999
    simp only [Nat.reduceAdd] at this
    simp [eqGuard, binOp, Op.equal, Op.maxDepth, this]
  · cases hk
theorem y_ptrSame {x y : Operand} {ty te tz : TypeId} {i k : Nat} {ji : TypeInfo} (ho : o.op = .binOp .neq ty x y tz) (hp : P.underlying ty = some (.pointer te)) (hte : P.info? te = some ji) (hx : evalO t x = some (.ptr i k)) (hy : evalO t y = some (.ptr i k)) : Yield P σ t o (.raw (.bool false)) := by
  intro F base E ρ w hρ hS hT
  have h1 := evalO_rep hρ hT hx
  have h2 := evalO_rep hρ hT hy
  have he : ρ x = ρ y := IsFix.det E w _ _ h1 h2
  generalize hz : ρ x = z at h1
  have hz' : ρ y = z := by rw [← he, hz]
  cases h1 with
  | ptr _ _ b hi h =>
    have hb := Lib.run_neq_ptr_same (P := P) w ⟨b, k, none⟩ hp hte
    have hr : (execOp ρ o).run P w = .ok (.value (.bool false)) w := by
      simp only [execOp, ho, hz, hz', Sem.run_bind, Sem.run_pure]
      have hg : (eqGuard .neq ty x y (.pointer (some ⟨b, k, none⟩)) (.pointer (some ⟨b, k, none⟩))).run P w = .ok () w := rfl
      rw [hg]
      simp only [Result.andThen_ok, hb]
    rw [hr]
    exact upon_val (.raw _)
theorem y_toUnsafe {src dst te ty : TypeId} {x : Operand} {i : Nat} {ji : TypeInfo} {xs : List PV} (ho : o.op = .convert src dst x) (hs : P.underlying src = some (.pointer te)) (hd : P.underlying dst = some .unsafePointer) (ht : P.info? te = some ji) (hj : ji.size ≠ 0) (hx : evalO t x = some (.ptr i 0)) (hi : σ[i]? = some (some (.cells ty xs))) (hl : 0 < xs.length) : Yield P σ t o (.ptr i 0) := by
  intro F base E ρ w hρ hS hT
  have h1 := evalO_rep hρ hT hx
  have h1' := h1
  generalize hz : ρ x = z at h1 h1'
  obtain ⟨b, cs, k1, k2, k3, k4⟩ := hS.blk i _ hi
  cases h1 with
  | ptr _ _ b' hi' h =>
    have hb : b' = b := by
      rcases h with h | ⟨n, c, h⟩ <;> rw [k1] at h <;> cases h
      rfl
    subst hb
    have := Lib.run_to_unsafe (P := P) w ⟨b', 0, none⟩ hs hd ht hj (e := ty) (cells := cs.size) (by simp [World.shape?, k3]) (by have := k4.1; simp at this ⊢; omega)
    simp only [execOp, ho, hz, Sem.run_bind, this, Result.andThen_ok, Sem.run_pure]
    exact upon_val h1'
theorem y_fromUnsafe {src dst u ty : TypeId} {x : Operand} {i : Nat} {ji : TypeInfo} {xs : List PV} (ho : o.op = .convert src dst x) (hs : P.underlying src = some .unsafePointer) (hd : P.underlying dst = some (.pointer u)) (ht : P.info? u = some ji) (hx : evalO t x = some (.ptr i 0)) (hi : σ[i]? = some (some (.cells ty xs))) (hl : liesAt P P.depth ty (xs.length / P.cellsOf ty) 0 u 1 = true) : Yield P σ t o (.ptr i 0) := by
  intro F base E ρ w hρ hS hT
  have h1 := evalO_rep hρ hT hx
  have h1' := h1
  generalize hz : ρ x = z at h1 h1'
  obtain ⟨b, cs, k1, k2, k3, k4⟩ := hS.blk i _ hi
  cases h1 with
  | ptr _ _ b' hi' h =>
    have hb : b' = b := by
      rcases h with h | ⟨n, c, h⟩ <;> rw [k1] at h <;> cases h
      rfl
    subst hb
    have hsz : cs.size = xs.length := by have := k4.1; simpa using this
    have := Lib.run_from_unsafe (P := P) w ⟨b', 0, none⟩ hs hd ht (e := ty) (cells := cs.size) (by simp [World.shape?, k3]) (by rw [hsz]; exact hl)
    simp only [execOp, ho, hz, Sem.run_bind, this, Result.andThen_ok, Sem.run_pure]
    exact upon_val h1'
/-- A function of the model's own that hands its argument back. -/
theorem y_callSame {f : FuncId} {x a : Operand} {ats : Array TypeId} {p : PV} (ho : o.op = .call { callee := .value x, args := #[a], argTypes := ats }) (hx : evalO t x = some (.func f [])) (ha : evalO t a = some p) (hr : ∀ v w, (callFunc f #[v]).run P w = .ok (.value v) w) : Yield P σ t o p := by
  intro F base E ρ w hρ hS hT
  have h1 := evalO_rep hρ hT hx
  have h2 := evalO_rep hρ hT ha
  generalize hz : ρ x = z at h1
  cases h1 with
  | func _ cs _ hl hr' =>
    have hcs : cs = #[] := Array.eq_empty_of_size_eq_zero (by simpa using hl)
    subst hcs
    have h3 : (execOp ρ o).run P w = .ok (.value (ρ a)) w := by
      have := hr (ρ a) w
      simp [execOp, ho, resolve, hz, Deferred.ofValue, invoke, this]
    rw [h3]
    exact upon_val h2
end
end PW
end Go.Proofs.YtkaalpdfppbdeaaDoor
