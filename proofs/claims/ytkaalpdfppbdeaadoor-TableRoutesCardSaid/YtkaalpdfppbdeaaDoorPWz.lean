/- Pure walks: shorter rows, several new blocks at once. No program in sight. -/
import Derived.Test.YtkaalpdfppbdeaaDoorPWx
namespace Go.Proofs.YtkaalpdfppbdeaaDoor
namespace PW
open Go.RowKit Reg Mem

section
variable {P : Program} {σ : Sto} {t : Tms} {o : Oper}
/-- The first h elements of a row of the call's own; the longer row is given up. -/
theorem l_sliceHiOwn {ty e s e' n h i : Nat} {x hi' : Operand} {xs : List PV} {k : IntKind} {hii : Int} (ho : o.op = .slice ty x none (some hi') none) (he : elK P ty = some (e, s)) (hx : evalO t x = some (.own i)) (hi : σ[i]? = some (some (.row e' s n xs))) (hhi : evalO t hi' = some (.raw (.int k hii))) (hli : hii = (h : Int)) (hl : h ≤ n) :
    Loud P σ t o (.own σ.length) (σ.set i none ++ [some (.row e' s h (xs.take (h * s)))]) := by
  intro F base E ρ w hρ hS hT
  have h1 := evalO_rep hρ hT hx
  have h2 := evalO_rep hρ hT hhi
  obtain ⟨hu, inf, hinf, hs⟩ := elK_spec he
  generalize hz : ρ x = v at h1
  generalize hz' : ρ hi' = u at h2
  cases h2
  subst hli
  cases h1 with
  | own _ hiL _ hat hone =>
    obtain ⟨cs, k1, k2⟩ := hS.blk i _ hi
    rw [hat] at k1
    have hob : blockOf (E.at_ i) = v.ownBlock := by rw [hat]; exact own_block k1
    have key : ∀ v', (execOp ρ o).run P w = .ok (.value v') w → w.ownsRow base e' s v' h (cs.take (h * s)) → v'.ownBlock = v.ownBlock → v'.oneCell' = true →
        ∃ v w' E', ((execOp ρ o).run P w = .ok (.value v) w' ∨ (v = undef ∧ (execOp ρ o).run P w = .ok .skip w')) ∧ Sat F base (σ.set i none ++ [some (.row e' s h (xs.take (h * s)))]) E' w' ∧ Goes E w E' w' ∧ Below base w w' ∧ Rep E' w' v (.own σ.length) := by
      intro v' hr hown hw hone'
      obtain ⟨a1, a2⟩ := hS.swap (w' := w) (blk := .row e' s h (xs.take (h * s))) hi (Nat.le_refl _) (fun k hk hne => rfl) (v := v') (fun b hb => by
        rw [own_block hown] at hb
        rw [hob, ← hw]; exact .inl hb) (fun E' g => ⟨_, hown, (k2.take (h * s)).goes g⟩)
      exact ⟨v', w, _, .inl hr, a1, a2, Below.refl _ _, .own σ.length (by simp [Env.push, Env.kill, hS.len]) v' (by simp [Env.push, Env.kill, hS.len]) hone'⟩
    have hcl := k1.1
    rcases k1.2 with ⟨rfl, h0⟩ | ⟨g, cap, cur, rfl, hb, hg, hnc, hcm, hcs, htk⟩
    · subst h0
      obtain rfl : h = 0 := by omega
      have hr : (execOp ρ o).run P w = .ok (.value (.slice none 0 0)) w := by
        simp [execOp, ho, hz, hz', Instr.sliceAt, run_underlying hu, Instr.slice, Instr.sliceBounds, Instr.sliceBound, asIntOf, sizeOf, typeInfo, hinf]
      exact key _ hr (by simpa using World.ownsRow_nil w base e' s) rfl rfl
    · have hr : (execOp ρ o).run P w = .ok (.value (.slice (some ⟨g, 0, none⟩) h cap)) w := by
        have : h ≤ cap := by omega
        simp [execOp, ho, hz, hz', Instr.sliceAt, run_underlying hu, Instr.slice, Instr.sliceBounds, Instr.sliceBound, asIntOf, this, sizeOf, typeInfo, hinf, Addr.add]
      refine key _ hr ⟨?_, .inr ⟨g, cap, cur, rfl, hb, hg, by omega, hcm, hcs, ?_⟩⟩ rfl rfl
      · rw [List.length_take, hcl]; exact Nat.min_eq_left (Nat.mul_le_mul_right _ hl)
      · rw [← htk, List.take_take, Nat.min_eq_left (Nat.mul_le_mul_right _ hl)]
theorem l_emptySlice {ty e s : Nat} {z : List Value} (ho : o.op = .buildSlice ty 0 #[]) (hk : slK P ty = some (e, s, z)) : Loud P σ t o (.own σ.length) (σ ++ [some (.row e s 0 [])]) := by
  intro F base E ρ w hρ hS hT
  obtain ⟨hu, i, z', hi, hs, hz, hzz, hzl, hpos⟩ := slK_spec hk
  have hrun : (Instr.buildSlice ty 0 #[]).run P w = .ok (.slice (some ⟨w.heap.size, 0, none⟩) 0 0) (w.alloc (.cells #[] e)) := by
    have : Array.map (fun _ : Nat => (default : Value)) (Array.range 0) = #[] := by simp [Array.range]
    simp [Instr.buildSlice, run_underlying hu, sizeOf, typeInfo, hi, Instr.fill, newRow, this]
  have hr : (execOp ρ o).run P w = .ok (.value (.slice (some ⟨w.heap.size, 0, none⟩) 0 0)) (w.alloc (.cells #[] e)) := by
    simp only [execOp, ho, Sem.run_bind, List.map_toArray, List.map_nil, hrun, Result.andThen_ok, Sem.run_pure]
  obtain ⟨a1, a2, a3, a4⟩ := lay_row hS ((Ext.refl w).alloc (.cells #[] e)) (fun b h => by simp [blockOf] at h; omega) (World.ownsRow_lit (base := base) (e := e) (size := s) w #[] 0 hS.bl (Nat.zero_le _) (by simp)) (RepL.nil E w)
  exact ⟨_, _, _, .inl hr, a1, a2, a3, a4⟩
end

section
variable {P : Program} {σ : Sto} {t : Tms} {o : Oper}
def ptrK (P : Program) (ty : TypeId) : Bool := match P.underlying ty with | some (.pointer _) => true | _ => false
theorem run_eqNil {ty : TypeId} (h : ptrK P ty = true) (a : Addr) (w : World) : (Op.equal ty (.pointer (some a)) (.pointer none)).run P w = .ok false w := by
  unfold ptrK at h
  split at h
  · rename_i e hu
    have key : ∀ d, (Op.equalIn (d + 1) ty (.pointer (some a)) (.pointer none)).run P w = .ok false w := fun d => by
      simp only [Op.equalIn, Sem.run_bind, run_underlying hu, Result.andThen_ok, Sem.run_pure]
    exact key 9999
  · cases h
/-- A pointer that is not nil, compared with nil. -/
theorem y_ptrEql {x y : Operand} {ty tz : TypeId} {i k : Nat} (ho : o.op = .binOp .eql ty x y tz) (hk : ptrK P ty = true) (hx : evalO t x = some (.ptr i k)) (hy : evalO t y = some (.raw (.pointer none))) : Yield P σ t o (.raw (.bool false)) := by
  intro F base E ρ w hρ _ hT
  have h1 := evalO_rep hρ hT hx
  have h2 := evalO_rep hρ hT hy
  generalize hz : ρ x = z at h1
  generalize hz' : ρ y = z' at h2
  cases h2
  cases h1 with
  | ptr _ _ b hi h =>
    simp only [execOp, ho, hz, hz', Sem.run_bind, eqGuard, binOp, run_eqNil hk, Result.andThen_ok, Sem.run_pure]
    exact upon_val (.raw _)
theorem y_pinEql {x y : Operand} {ty tz : TypeId} {xs : List PV} {k : Nat} (ho : o.op = .binOp .eql ty x y tz) (hk : ptrK P ty = true) (hx : evalO t x = some (.pin xs k)) (hy : evalO t y = some (.raw (.pointer none))) : Yield P σ t o (.raw (.bool false)) := by
  intro F base E ρ w hρ _ hT
  have h1 := evalO_rep hρ hT hx
  have h2 := evalO_rep hρ hT hy
  generalize hz : ρ x = z at h1
  generalize hz' : ρ y = z' at h2
  cases h2
  cases h1 with
  | pin b o' _ cs _ hb hM hc hl hr =>
    simp only [execOp, ho, hz, hz', Sem.run_bind, eqGuard, binOp, run_eqNil hk, Result.andThen_ok, Sem.run_pure]
    exact upon_val (.raw _)
theorem y_ptrNeq {x y : Operand} {ty tz : TypeId} {i k : Nat} (ho : o.op = .binOp .neq ty x y tz) (hk : ptrK P ty = true) (hx : evalO t x = some (.ptr i k)) (hy : evalO t y = some (.raw (.pointer none))) : Yield P σ t o (.raw (.bool true)) := by
  intro F base E ρ w hρ _ hT
  have h1 := evalO_rep hρ hT hx
  have h2 := evalO_rep hρ hT hy
  generalize hz : ρ x = z at h1
  generalize hz' : ρ y = z' at h2
  cases h2
  cases h1 with
  | ptr _ _ b hi h =>
    simp only [execOp, ho, hz, hz', Sem.run_bind, eqGuard, binOp, run_eqNil hk, Result.andThen_ok, Sem.run_pure]
    exact upon_val (.raw _)
def boolK (P : Program) (ty : TypeId) : Bool := match P.underlying ty with | some .bool => true | _ => false
theorem run_eqBool {ty : TypeId} (h : boolK P ty = true) (a b : Bool) (w : World) : (Op.equal ty (.bool a) (.bool b)).run P w = .ok (a == b) w := by
  unfold boolK at h
  split at h
  · rename_i hu
    have key : ∀ d, (Op.equalIn (d + 1) ty (.bool a) (.bool b)).run P w = .ok (a == b) w := fun d => by
      simp only [Op.equalIn, Sem.run_bind, run_underlying hu, Result.andThen_ok, Sem.run_pure]
    exact key 9999
  · cases h
theorem y_boolEql {x y : Operand} {ty tz : TypeId} {a b q : Bool} (ho : o.op = .binOp .eql ty x y tz) (hk : boolK P ty = true) (hx : evalO t x = some (.raw (.bool a))) (hy : evalO t y = some (.raw (.bool b))) (hq : (a == b) = q) : Yield P σ t o (.raw (.bool q)) := by
  refine y_bin ho hx hy fun w => ?_
  simp [eqGuard, binOp, run_eqBool hk, hq]
theorem y_boolNeq {x y : Operand} {ty tz : TypeId} {a b q : Bool} (ho : o.op = .binOp .neq ty x y tz) (hk : boolK P ty = true) (hx : evalO t x = some (.raw (.bool a))) (hy : evalO t y = some (.raw (.bool b))) (hq : (!(a == b)) = q) : Yield P σ t o (.raw (.bool q)) := by
  refine y_bin ho hx hy fun w => ?_
  simp [eqGuard, binOp, run_eqBool hk, hq]
theorem y_cat {x y : Operand} {ty tz : TypeId} {a b c : ByteArray} (ho : o.op = .binOp .add ty x y tz) (hx : evalO t x = some (.raw (.string a))) (hy : evalO t y = some (.raw (.string b))) (hc : a ++ b = c) (hn : a.size + b.size ≤ 9223372036854775807) : Yield P σ t o (.raw (.string c)) :=
  y_bin ho hx hy fun w => by simp [eqGuard, binOp, Op.stringOp, hc]; omega
theorem y_strEql {x y : Operand} {ty tz : TypeId} {a b : ByteArray} {q : Bool} (ho : o.op = .binOp .eql ty x y tz) (hx : evalO t x = some (.raw (.string a))) (hy : evalO t y = some (.raw (.string b))) (hq : (a.toList == b.toList) = q) : Yield P σ t o (.raw (.bool q)) :=
  y_bin ho hx hy fun w => by simp [eqGuard, binOp, Op.stringOp, hq]
theorem y_strNeq {x y : Operand} {ty tz : TypeId} {a b : ByteArray} {q : Bool} (ho : o.op = .binOp .neq ty x y tz) (hx : evalO t x = some (.raw (.string a))) (hy : evalO t y = some (.raw (.string b))) (hq : (!(a.toList == b.toList)) = q) : Yield P σ t o (.raw (.bool q)) :=
  y_bin ho hx hy fun w => by simp only [eqGuard, binOp, Op.stringOp, hq]; rfl
end

/-- Several blocks more. -/
def Env.pushAll (E : Env) (vs : List Value) : Env := ⟨E.L + vs.length, fun i => if i < E.L then E.at_ i else vs.getD (i - E.L) undef, fun b => E.M b ∨ ∃ v ∈ vs, blockOf v = some b⟩
theorem Sat.pushAll {F : Nat → Prop} {base : Nat} {σ : Sto} {E : Env} {w w' : World} (hS : Sat F base σ E w) (hE : Ext w w') (vs : List Value) (bs : List Blk) (hl : vs.length = bs.length) (hv : ∀ v ∈ vs, ∀ b, blockOf v = some b → w.heap.size ≤ b)
    (hd : ∀ (i j : Nat) u v b, vs[i]? = some u → vs[j]? = some v → blockOf u = some b → blockOf v = some b → i = j) (hb : ∀ (i : Nat) v blk, vs[i]? = some v → bs[i]? = some blk → BlkSat base (E.pushAll vs) w' v blk) :
    Sat F base (σ ++ bs.map some) (E.pushAll vs) w' ∧ Goes E w (E.pushAll vs) w' := by
  have g : Goes E w (E.pushAll vs) w' := ⟨Nat.le_add_right _ _, fun i hi => by simp [Env.pushAll, hi], fun b hb hM h => by
    rcases h with h | ⟨v, h1, h2⟩
    · exact hM h
    · have := hv v h1 b h2; omega, hE.size, fun b h _ => hE.block b h⟩
  have hat : ∀ i, i < σ.length → (E.pushAll vs).at_ i = E.at_ i := fun i hi => g.at_ i (by rw [hS.len]; exact hi)
  have hnew : ∀ (j : Nat) v, vs[j]? = some v → (E.pushAll vs).at_ (σ.length + j) = v := fun j v hj => by
    simp only [Env.pushAll, hS.len]
    rw [if_neg (by omega), Nat.add_sub_cancel_left, List.getD_eq_getElem?_getD, hj]
    rfl
  have split : ∀ i (b : Blk), (σ ++ bs.map some)[i]? = some (some b) → (i < σ.length ∧ σ[i]? = some (some b)) ∨ (∃ j v, i = σ.length + j ∧ bs[j]? = some b ∧ vs[j]? = some v) := fun i b h => by
    by_cases hi : i < σ.length
    · rw [List.getElem?_append_left hi] at h; exact .inl ⟨hi, h⟩
    · rw [List.getElem?_append_right (by omega), List.getElem?_map, Option.map_eq_some_iff] at h
      obtain ⟨b', h1, h2⟩ := h
      cases h2
      have hj : i - σ.length < vs.length := by rw [hl]; exact (List.getElem?_eq_some_iff.1 h1).1
      exact .inr ⟨i - σ.length, vs[i - σ.length], by omega, h1, by simp [hj]⟩
  refine ⟨⟨Nat.le_trans hS.bl hE.size, fun b hb' => ⟨Nat.lt_of_lt_of_le (hS.fb b hb').1 hE.size, fun i bl hi => ?_⟩, by simp [Env.pushAll, hS.len, hl], fun b => ?_, fun i bl hi => ?_, fun i j bi bj b hi hj hbi hbj => ?_⟩, g⟩
  · rcases split i bl hi with ⟨h1, h2⟩ | ⟨j, v, rfl, h2, h3⟩
    · rw [hat i h1]; exact (hS.fb b hb').2 i bl h2
    · rw [hnew j v h3]; intro h
      have := hv v (List.mem_of_getElem? h3) b h; have := (hS.fb b hb').1; omega
  · constructor
    · rintro (h | ⟨v, h1, h2⟩)
      · rcases (hS.mm b).1 h with h | ⟨i, bl, h1, h2⟩
        · exact .inl h
        · have hi : i < σ.length := (List.getElem?_eq_some_iff.1 h1).1
          exact .inr ⟨i, bl, by rw [List.getElem?_append_left hi]; exact h1, by rw [hat i hi]; exact h2⟩
      · obtain ⟨j, hj⟩ := List.getElem?_of_mem h1
        have hjb : j < bs.length := by rw [← hl]; exact (List.getElem?_eq_some_iff.1 hj).1
        exact .inr ⟨σ.length + j, bs[j], by rw [List.getElem?_append_right (by omega)]; simp [hjb], by rw [hnew j v hj]; exact h2⟩
    · rintro (h | ⟨i, bl, h1, h2⟩)
      · exact .inl ((hS.mm b).2 (.inl h))
      · rcases split i bl h1 with ⟨h3, h4⟩ | ⟨j, v, rfl, h4, h5⟩
        · rw [hat i h3] at h2; exact .inl ((hS.mm b).2 (.inr ⟨i, bl, h4, h2⟩))
        · rw [hnew j v h5] at h2; exact .inr ⟨v, List.mem_of_getElem? h5, h2⟩
  · rcases split i bl hi with ⟨h1, h2⟩ | ⟨j, v, rfl, h2, h3⟩
    · rw [hat i h1]
      exact (hS.blk i bl h2).goes g (fun b hb => hE.block b ((hS.blk i bl h2).lt hb).2)
    · rw [hnew j v h3]; exact hb j v bl h3 h2
  · rcases split i bi hi with ⟨h1, h2⟩ | ⟨k, v, rfl, h2, h3⟩ <;> rcases split j bj hj with ⟨h4, h5⟩ | ⟨k', v', rfl, h5, h6⟩
    · rw [hat i h1] at hbi; rw [hat j h4] at hbj; exact hS.inj i j bi bj b h2 h5 hbi hbj
    · rw [hat i h1] at hbi; rw [hnew k' v' h6] at hbj
      have := ((hS.blk i bi h2).lt hbi).2; have := hv v' (List.mem_of_getElem? h6) b hbj; omega
    · rw [hnew k v h3] at hbi; rw [hat j h4] at hbj
      have := ((hS.blk j bj h5).lt hbj).2; have := hv v (List.mem_of_getElem? h3) b hbi; omega
    · rw [hnew k v h3] at hbi; rw [hnew k' v' h6] at hbj
      rw [hd k k' v v' b h3 h6 hbi hbj]
end PW
end Go.Proofs.YtkaalpdfppbdeaaDoor
