/- RepairStep returns true for every input: in the state Repair, no packet, whatever its segments are, leaves on an arc of the component that has failed. No conditions. -/
import Derived.Deep.AppendSrc
import Derived.Test.YtbpgndbjbaoolaaGreatCardPSB13
/- Tables of the state Repair reckoned, for examples; the ring's. No program in sight. -/
namespace Go.Proofs.YtbpgndbjbaoolaaGreat
set_option linter.unusedVariables false
set_option linter.unusedSimpArgs false
namespace PW
open Go.RowKit Reg Mem Net Rng
namespace Cmp
def mixC (T : Topo) (own : List Bool) (n d : Int) (a : Nat) : List Bool :=
  if spC T (orM T (maskL T (asmC T a d).1 (asmC T a d).2) own) n d = 0 then orM T (maskL T (asmC T a d).1 (asmC T a d).2) own else own
def repC (T : Topo) (own : List Bool) (n d : Nat) : Ent := match hitL own (nextC T [] n d) with
  | none => ⟨nextC T [] n d, false, []⟩
  | some a => entC T (mixC T own n d a.toNat) n d
def chkR (T : Topo) (own : List Bool) (n d : Nat) : Bool := match hitL own (nextC T [] n d) with
  | none => true
  | some a => chk T (maskL T 3 (grpN T a.toNat)) && chk T (maskL T 2 (headN T a.toNat)) && chk T (orM T (maskL T (asmC T a.toNat d).1 (asmC T a.toNat d).2) own) && chk T (mixC T own n d a.toNat)
theorem rep {T : Topo} {own : List Bool} {n d : Nat} (hv : validB T = true) (h0 : chk T [] = true) (hd : (d : Int) < T.nodes) (h : chkR T own n d = true) : repX T own n d = repC T own n d := by
  unfold repX repC
  unfold chkR at h
  rw [next hv h0 hd]
  cases hh : hitL own (nextC T [] n d) with
  | none => rfl
  | some a =>
    rw [hh] at h
    simp only [Bool.and_eq_true] at h
    obtain ⟨⟨⟨h1, h2⟩, h3⟩, h4⟩ := h
    have hm : mixM T own n d a.toNat = mixC T own n d a.toNat := by
      unfold mixM mixC rchB
      rw [asm hv h1 h2, spe hv h3]
      by_cases e : spC T (orM T (maskL T (asmC T a.toNat (d : Int)).1 (asmC T a.toNat (d : Int)).2) own) n d = 0
      · rw [if_pos (by simpa using e), if_pos e]
      · rw [if_neg (by simpa using e), if_neg e]
    simp only []
    rw [hm, ent hv h0 h4]
def repTC (T : Topo) (M : List Bool) (n : Nat) : Tab := ⟨n, (List.range T.nodes.toNat).map fun d => repC T (ownM T M n) n d, downL M (outL T n)⟩
theorem repTab {T : Topo} {M : List Bool} {n : Nat} (hv : validB T = true) (h0 : chk T [] = true) (h : ((List.range T.nodes.toNat).all fun d => chkR T (ownM T M n) n d) = true) : repT T M n = repTC T M n := by
  have hN := (sound_of hv).nodes
  unfold repT repTC repL
  congr 1
  refine List.map_congr_left fun d hd => ?_
  have hd' := List.mem_range.1 hd
  exact rep hv h0 (by omega) (List.all_eq_true.1 h d hd)
end Cmp
def ringR : Tab := ⟨0, [⟨[], false, []⟩, ⟨[7], true, [⟨1, 3⟩, ⟨1, 2⟩, ⟨1, 1⟩]⟩, ⟨[7], true, [⟨1, 3⟩, ⟨1, 2⟩]⟩, ⟨[7], false, []⟩], [0]⟩
theorem ring_rep : repT ringT ringD1 0 = ringR := (Cmp.repTab ring_valid ring_chk0 (by kernel_rfl)).trans (by kernel_rfl)
theorem ring_asm : asmF ringT 0 2 = (2, 1) := (Cmp.asm ring_valid (by kernel_rfl) (by kernel_rfl) 2).trans (by kernel_rfl)
end PW
end Go.Proofs.YtbpgndbjbaoolaaGreat

/- The laws of layer 30, walked: awake, large, Tables. -/
namespace Go.Proofs.YtbpgndbjbaoolaaGreat
set_option linter.unusedVariables false
set_option linter.unusedSimpArgs false
namespace PW
open Go.RowKit Reg Mem Net Rng

def tooBig (T : Topo) : Bool := decide ((10 : Int) < T.nodes) || decide ((16 : Int) < T.links.length)
theorem not_big {T : Topo} (h : tooBig T = false) : T.nodes ≤ 12 ∧ T.links.length ≤ 16 := by
  unfold tooBig at h
  simp only [Bool.or_eq_false_iff, decide_eq_false_iff_not] at h
  omega
theorem rsame_yes (L : List Int) : Can Tryz.prog 25 [intsV L, intsV L] (· = flag true) := by
  have h := rsame_can L L
  rw [show sameB L L = true from decide_eq_true rfl] at h
  exact h
end PW
end Go.Proofs.YtbpgndbjbaoolaaGreat

/- The law TransitionValid, walked. -/
namespace Go.Proofs.YtbpgndbjbaoolaaGreat
set_option linter.unusedVariables false
set_option linter.unusedSimpArgs false
namespace PW
open Go.RowKit Reg Mem Net Rng

theorem rup_yes {D : List Bool} {a : Nat} (ha : D.length = 0 ∨ a < D.length) (h : downN D a = false) : Can Tryz.prog 26 [boolsV D, num a] (· = flag true) := by
  have := rup_can D a ha
  rw [h] at this
  exact this
end PW
end Go.Proofs.YtbpgndbjbaoolaaGreat

/- The laws TransitionStable and TransitionLists, walked. -/
namespace Go.Proofs.YtbpgndbjbaoolaaGreat
set_option linter.unusedVariables false
set_option linter.unusedSimpArgs false
namespace PW
open Go.RowKit Reg Mem Net Rng

end PW
end Go.Proofs.YtbpgndbjbaoolaaGreat

/- The laws of layer 29, walked: awake, large, Entry, Table. -/
namespace Go.Proofs.YtbpgndbjbaoolaaGreat
set_option linter.unusedVariables false
set_option linter.unusedSimpArgs false
namespace PW
open Go.RowKit Reg Mem Net Rng

set_option maxRecDepth 10000 in
set_option maxHeartbeats 1000000 in
theorem large29_can (T : Topo) : Can Tryz.prog 34 [topoV T] (· = flag (tooBig T)) := by
  obtain ⟨q1, h1⟩ : ∃ q, decide ((10 : Int) < T.nodes) = q := ⟨_, rfl⟩
  obtain ⟨q2, h2⟩ : ∃ q, decide ((16 : Int) < T.links.length) = q := ⟨_, rfl⟩
  have he : tooBig T = (q1 || q2) := by unfold tooBig; rw [h1, h2]
  rw [he]
  refine can_of Tryz.func34 rfl Tryz.ntmps34 rfl ?_
  refine W_cs (.a 2 rfl <| .k [1] rfl) ?_
  refine W_csK 2 (.raw (.bool (q1 || q2))) [] rfl ?_ ?_
  · refine .a 2 rfl <| .v (y_q rfl (h1)) rfl <| .a 1 rfl <| ?_
    cases q1
    · exact .a 3 rfl <| .v (y_q rfl (h2)) rfl <| .a 2 rfl <| .k [2] rfl
    · exact .a 6 rfl <| .k [2] rfl
  refine W_ret ?_
  exact ⟨_, _, ResL.of rfl, Pur.pure, rfl⟩
set_option maxRecDepth 10000 in
set_option maxHeartbeats 1000000 in
theorem square29_can : Can Tryz.prog 69 [] (· = topoV ringT) := by
  refine can_of Tryz.func69 rfl Tryz.ntmps69 rfl ?_
  refine W_rs ?_
  refine WR_a 1 rfl <| WR_k [0] rfl ?_
  refine W_rs ?_
  refine WR_a 3 rfl <| WR_k [0, 1] rfl ?_
  refine W_adoptCell 1 2 72 7 rfl rfl ?_
  refine W_seq ?_
  refine W_cs (.a 1 rfl <| .k [0, 1, 4] rfl) ?_
  refine W_block ?_
  refine W_k [0, 1, 4] rfl ?_
  refine W_loop (fun r s => ∃ k, k ≤ 4 ∧ r = 4 - k ∧ s = ⟨[(0, .ptr 0 0), (1, .ptr 1 0), (4, num k)], [some (.cells 25 [num 0, .raw (.slice none 0 0), .raw (.slice none 0 0)]), some (.cells 25 [num 4, .raw (.slice none 0 0), .own 2]), some (.row 72 7 k (lnksP (ringL k)))]⟩) 4 ⟨0, by omega, by omega, rfl⟩ ?_
  rintro r s ⟨k, hk, rfl, rfl⟩
  refine W_cs (.a 1 rfl <| .k [0, 1, 4, 5] rfl) ?_
  refine W_seq ?_
  refine W_cond rfl (fun hc => ?_) (fun hc => ?_)
  · have hlt : k < 4 := by have := of_decide_eq_true hc; omega
    refine W_skip ?_
    refine W_seq ?_
    refine W_block ?_
    refine W_cs (.a 2 rfl <| .k [0, 1, 2, 4] rfl) ?_
    refine W_region ?_
    refine WR_a 4 rfl <| WR_v (y_ar rfl) rfl <| WR_v (y_rem rfl rfl rfl (by decide) ((show ((k : Int) + 1).tmod 4 = (((k + 1) % 4 : Nat) : Int) by rw [Int.tmod_eq_emod_of_nonneg (by omega)]; omega))) rfl <| WR_v (y_build2 rfl (show Tryz.prog.built 70 [(0, .int .i64 1), (1, .int .i64 1)] = some #[.int .i64 1, .int .i64 1] by kernel_rfl)) rfl <| WR_a 2 rfl <| WR_l (l_append rfl (fok.rk.get rfl) rfl rfl rfl rfl (by unfold maxLen; omega)) rfl <| WR_a 2 rfl ?_
    refine WR_ren [0, 1, 3] (.c 0 <| .c 1 <| .c 4 <| .nil) (.kept rfl (.cells (RenL.c <| RenL.c <| RenL.c <| RenL.nil)) <| .kept rfl (.cells (RenL.c <| RenL.c <| RenL.c <| RenL.nil)) <| .kept rfl (.rowP rfl (show _ = lnksP (ringL (k + 1)) by rw [ringL_step]; exact lnksP_snoc _ ⟨(k : Int), (((k + 1) % 4 : Nat) : Int), 1, 1, 0, 1, 0⟩)) <| .nil) rfl rfl (WR_nil ?_)
    refine W_chain (.v (y_ar rfl) rfl <| .a 1 rfl <| .k [0, 1, 4] rfl) ?_
    exact ⟨4 - (k + 1), by omega, k + 1, by omega, rfl, rfl⟩
  · have hke : k = 4 := by have := of_decide_eq_false hc; omega
    subst hke
    refine W_exit ?_
    refine W_rs ?_
    refine WR_a 2 rfl <| WR_k [0] rfl ?_
    refine W_ret ?_
    exact ⟨_, _, ResL.of rfl, Pur.aggL (PurL.cons Pur.pure <| PurL.cons Pur.nils <| PurL.cons (Pur.ownL rfl PurL.pure) PurL.nil), rfl⟩
theorem run_eqCmp (a b c d : Int) (w : World) : (Op.equalIn 10000 27 (.agg #[.int .i64 a, .int .i64 b]) (.agg #[.int .i64 c, .int .i64 d])).run Tryz.prog w = .ok (a == c && b == d) w := by
  have u3 := Tryz.underlying3
  have a3 := Tryz.isAgg3
  have z3 := Tryz.sizeOf3
  have hS : Tryz.prog.underlying 27 = some (.struct (Tryz.prog.fieldsOf 27)) := by kernel_rfl
  rw [show (10000 : Nat) = 9999 + 1 from rfl, run_equalIn_agg w 9999 27 _ _ hS (by kernel_rfl)]
  simp only [Program.fieldsOf, Tryz.underlying27]
  go_simp
  by_cases h1 : a = c <;> by_cases h2 : b = d <;> simp [h1, h2]
theorem rep_cmp {E : Env} {w : World} {v : Value} {k x : Int} (h : Rep E w v (compV k x)) : v = .agg #[.int .i64 k, .int .i64 x] := by
  unfold compV compP at h
  cases h with
  | agg cs _ hl hr =>
    obtain ⟨l⟩ := cs
    match l, hl, hr with
    | [x, y], _, hr =>
      have h0 := rep_raw (hr 0 x _ rfl rfl)
      have h1 := rep_raw (hr 1 y _ rfl rfl)
      subst h0; subst h1; rfl
    | [], hl, _ => simp at hl
    | [_], hl, _ => simp at hl
    | _ :: _ :: _ :: _, hl, _ => simp at hl
theorem y_cmpNeq {σ : Sto} {t : Tms} {o : Oper} {x y : Operand} {tz : TypeId} {a b c d : Int} {q : Bool} (ho : o.op = .binOp .neq 27 x y tz) (hx : evalO t x = some (compV a b)) (hy : evalO t y = some (compV c d)) (hq : (!(a == c && b == d)) = q) : Yield Tryz.prog σ t o (.raw (.bool q)) := by
  intro F base E ρ w hρ _ hT
  have h1 := rep_cmp (evalO_rep hρ hT hx)
  have h2 := rep_cmp (evalO_rep hρ hT hy)
  simp only [execOp, ho, h1, h2, Sem.run_bind, run_eqGuard_agg w _ _ _ _ _ _ (show Tryz.prog.eqGuardType Tryz.prog.depth 27 = false by kernel_rfl), Result.andThen_ok, run_neq_struct, run_eqCmp, Sem.run_pure, hq]
  exact upon_val (.raw _)
set_option maxRecDepth 10000 in
set_option maxHeartbeats 1000000 in
theorem awake29_can : Can Tryz.prog 33 [] (· = flag true) := by
  have hA := prtab_can ringT 1 0 0 (by decide)
  rw [show maskE ringT 1 0 = 0 by kernel_rfl, show nodeB ringT 0 = true by kernel_rfl, if_pos rfl, if_pos rfl, ring_mask, show ((0 : Int).toNat) = 0 from rfl, ring_rep] at hA
  have hB := pcomp_can ringT 0 2 ring_valid (by decide) (by decide)
  rw [show (((2 : Nat) : Int)) = 2 from rfl, ring_asm] at hB
  have ht1 := tlist_can [3, 2, 1] (by decide) (by decide)
  have ht2 := tlist_can [3, 2] (by decide) (by decide)
  refine can_of Tryz.func33 rfl Tryz.ntmps33 rfl ?_
  refine W_cs (.a 1 rfl <| .k [] rfl) ?_
  refine W_rs ?_
  refine WR_c rfl (square29_can) rfl <| WR_v (y_le (y_build (xs := [_, _]) rfl (fok.st.get rfl) rfl rfl) (PLe.refl _)) rfl <| WR_c rfl (hA) rfl <| WR_a 6 rfl <| WR_k [1, 2] rfl ?_
  refine W_rs ?_
  refine WR_c rfl (square29_can) rfl <| WR_c rfl (hB) rfl <| WR_a 6 rfl <| WR_k [1, 2, 3, 4] rfl ?_
  refine W_seq ?_
  refine W_csK 45 (.raw (.bool (false))) [1] rfl ?_ ?_
  · exact .a 21 rfl <| .v (y_ix (0) rfl (by omega) (by decide)) rfl <| .v (y_ld rfl ((show _ = some (num 0) from rfl))) rfl <| .a 5 rfl <| .v (y_cmpNeq (a := 2) (b := 1) (c := 2) (d := 1) rfl rfl rfl (q := false) rfl) rfl <| .a 1 rfl <| .k [45, 1] rfl
  refine W_cond rfl (fun h => ?_) (fun h => ?_)
  · exact absurd h (by decide)
  · clear h
    refine W_skip ?_
    refine W_csK 0 (.raw (.bool (true))) [] rfl ?_ ?_
    · exact .a 2 rfl <| .v (y_ix (3) rfl (by omega) (by decide)) rfl <| .a 1 rfl <| .v (y_ld rfl ((show _ = some (intsV [7]) from rfl))) rfl <| .a 1 rfl <| .c rfl (rsame_yes [7]) rfl <| .a 3 rfl <| .v (y_ix (3) rfl (by omega) (by decide)) rfl <| .a 1 rfl <| .v (y_ld rfl ((show _ = some (segsV (nodeS [3, 2, 1])) from rfl))) rfl <| .c rfl (ht1) rfl <| .v (y_strEql rfl rfl rfl (beq_self_eq_true (ByteArray.toList ⟨[110, 51, 32, 110, 50, 32, 110, 49].toArray⟩))) rfl <| .a 4 rfl <| .v (y_ix (6) rfl (by omega) (by decide)) rfl <| .a 1 rfl <| .v (y_ld rfl ((show _ = some (segsV (nodeS [3, 2])) from rfl))) rfl <| .c rfl (ht2) rfl <| .v (y_strEql rfl rfl rfl (beq_self_eq_true (ByteArray.toList ⟨[110, 51, 32, 110, 50].toArray⟩))) rfl <| .a 4 rfl <| .v (y_ix (9) rfl (by omega) (by decide)) rfl <| .a 1 rfl <| .v (y_ld rfl ((show _ = some (flag false) from rfl))) rfl <| .a 3 rfl <| .k [0] rfl
    refine W_ret ?_
    exact ⟨_, _, ResL.of rfl, Pur.pure, rfl⟩
end PW
end Go.Proofs.YtbpgndbjbaoolaaGreat

/- The reference's affected nodes; the law RepairValid, walked. -/
namespace Go.Proofs.YtbpgndbjbaoolaaGreat
set_option linter.unusedVariables false
set_option linter.unusedSimpArgs false
namespace PW
open Go.RowKit Reg Mem Net Rng

end PW
end Go.Proofs.YtbpgndbjbaoolaaGreat

/- Pure walks: growing a nil slice. No program in sight. -/
namespace Go.Proofs.YtbpgndbjbaoolaaGreat
set_option linter.unusedVariables false
set_option linter.unusedSimpArgs false
namespace PW
open Go.RowKit Reg Mem

section
variable {P : Program} {σ : Sto} {t : Tms} {o : Oper}
theorem y_capNil {ty e s : Nat} {x : Operand} (ho : o.op = .call { callee := .builtin .cap, args := #[x], argTypes := #[ty] }) (he : elK P ty = some (e, s)) (hx : evalO t x = some (.raw (.slice none 0 0))) : Yield P σ t o (.raw (.int .i64 0)) := by
  intro F base E ρ w hρ _ hT
  have h1 := evalO_rep hρ hT hx
  obtain ⟨hu, _⟩ := elK_spec he
  generalize hz : ρ x = z at h1
  cases h1
  simp [execOp, ho, resolve, invoke, builtin, Builtin.cap_, hz, run_underlying hu, goInt]
  exact upon_val (.raw _)
theorem y_sliceNil {ty e s : Nat} {x hi' : Operand} {k : IntKind} (ho : o.op = .slice ty x none (some hi') none) (he : elK P ty = some (e, s)) (hx : evalO t x = some (.raw (.slice none 0 0))) (hhi : evalO t hi' = some (.raw (.int k 0))) : Yield P σ t o (.raw (.slice none 0 0)) := by
  intro F base E ρ w hρ _ hT
  have h1 := evalO_rep hρ hT hx
  have h2 := evalO_rep hρ hT hhi
  obtain ⟨hu, inf, hinf, hs⟩ := elK_spec he
  generalize hz : ρ x = z at h1
  generalize hz' : ρ hi' = z' at h2
  cases h1
  cases h2
  have hr : (execOp ρ o).run P w = .ok (.value (.slice none 0 0)) w := by
    simp [execOp, ho, hz, hz', Instr.sliceAt, run_underlying hu, Instr.slice, Instr.sliceBounds, Instr.sliceBound, asIntOf, sizeOf, typeInfo, hinf]
  rw [hr]
  exact upon_val (.raw _)
theorem run_growNil {P : Program} (w : World) (t tx ty e : TypeId) (i : TypeInfo) (z : Value) (ht : P.underlying t = some (.slice e)) (hx : P.underlying tx = some (.int .i64)) (hi : P.info? e = some i) (hz : i.zero = some z) (hp : 0 < i.size) (n : Nat)
    (h0 : 0 < n) (h63 : (n : Int) ≤ 9223372036854775807) (h48 : n * i.bytes ≤ 281474976710656) :
    (Builtin.append_ #[t, tx] ty #[.slice none 0 0, .int .i64 (n : Int)]).run P w =
      .ok (.slice (some ⟨w.heap.size, 0, none⟩) n (grownCap w n 0 e)) (w.drew.alloc (.cells (Builtin.zeroCells z.cells n ++ Builtin.zeroCells z.cells (grownCap w n 0 e - n)) e)) := by
  have hn : n ≠ 0 := by omega
  have hp' : i.size ≠ 0 := by omega
  have h63' : ¬ (9223372036854775807 < (n : Int)) := by omega
  have h48' : ¬ (281474976710656 < Builtin.nextslicecap n 0 * i.bytes) := by rw [nextslicecap_zero h0]; omega
  have hw : IntKind.i64.wrap (n : Int) = n := wrap_in (by unfold In64; omega)
  have hb : ¬ (281474976710656 < (n : Int) * (i.bytes : Int)) := by
    have : ((n * i.bytes : Nat) : Int) ≤ 281474976710656 := by omega
    rw [Int.natCast_mul] at this
    omega
  have hneg : ¬ ((n : Int) < 0) := by omega
  simp [Builtin.append_, run_underlying ht, run_underlying hx, sizeOf, typeInfo, zeroValue, hi, hz, asInt, asIntOf, hw, hb, hneg, hn, hp', h63', h48', Question.forced, run_firstCells_none, newRow, grownCap]
  exact fun h => absurd h (Nat.mul_ne_zero hn hp')
theorem l_growNil {ty tx e s by' : Nat} {z : List Value} {x y : Operand} {n : Nat} {m : Int} (ho : o.op = .call { callee := .builtin .append, args := #[x, y], argTypes := #[ty, tx] }) (hk : rowK P ty = some (e, s, by', z)) (htx : P.underlying tx = some (.int .i64)) (hx : evalO t x = some (.raw (.slice none 0 0))) (hy : evalO t y = some (.raw (.int .i64 m))) (hm : m = (n : Int)) (h0 : 0 < n) (hn : n ≤ maxLen ∧ n * by' ≤ 281474976710656) :
    Loud P σ t o (.own σ.length) (σ ++ [some (.row e s n (zeros (z.map .raw) n))]) := by
  intro F base E ρ w hρ hS hT
  have h1 := evalO_rep hρ hT hx
  have h2 := evalO_rep hρ hT hy
  generalize hz1 : ρ x = v1 at h1
  generalize hz2 : ρ y = v2 at h2
  cases h1; cases h2
  subst hm
  obtain ⟨hu, i, z', hi, hs, hby, hz, hzz, hzs, hpos⟩ := rowK_spec hk
  have hsm : n ≤ 9223372036854775807 := by have := hn.1; simp only [maxLen] at this; omega
  have hrun := run_growNil (P := P) w ty tx o.type e i z' hu htx hi hz (by omega) n h0 (by omega) (by rw [hby]; exact hn.2)
  have hr : (execOp ρ o).run P w = .ok (.value (.slice (some ⟨w.heap.size, 0, none⟩) n (grownCap w n 0 e))) (w.drew.alloc (.cells (Builtin.zeroCells z'.cells n ++ Builtin.zeroCells z'.cells (grownCap w n 0 e - n)) e)) := by
    simp only [execOp, ho, resolve, invoke, builtin, Sem.run_bind, Sem.run_pure, Result.andThen_ok, List.map_toArray, List.map_cons, List.map_nil, hz1, hz2, hrun]
  have hge := grownCap_ge w n 0 e
  have hcm : grownCap w n 0 e ≤ maxLen := grownCap_le_maxLen w n 0 e hn.1
  have hzc : (Builtin.zeroCells z'.cells n).size = n * s := by rw [size_zeroCells, hzs]
  have hown : (w.drew.alloc (.cells (Builtin.zeroCells z'.cells n ++ Builtin.zeroCells z'.cells (grownCap w n 0 e - n)) e)).ownsRow base e s (.slice (some ⟨w.heap.size, 0, none⟩) n (grownCap w n 0 e)) n (Builtin.zeroCells z'.cells n).toList := by
    refine ⟨by rw [Array.length_toList, hzc], .inr ⟨w.heap.size, _, _, rfl, hS.bl, heap_alloc_new w.drew _, hge, hcm, ?_, ?_⟩⟩
    · simp only [Array.size_append, size_zeroCells, hzs, ← Nat.add_mul]
      congr 1
      omega
    · simp only [Array.toList_append]
      rw [← hzc, ← Array.length_toList]
      exact List.take_left
  have hg : w.grownBy (w.drew.alloc (.cells (Builtin.zeroCells z'.cells n ++ Builtin.zeroCells z'.cells (grownCap w n 0 e - n)) e)) none := ⟨rfl, rfl, rfl, by simp, fun k hk _ => heap_alloc_old w.drew _ hk⟩
  have hR : RepL E w (Builtin.zeroCells z'.cells n).toList (zeros (z.map .raw) n) := by
    rw [← hzz]; exact zeros_rep z'.cells n (n * z'.cells.size) rfl
  obtain ⟨a1, a2, a3, a4⟩ := lay_row hS (ext_of_grown hg) (fun b h => by simp [blockOf] at h; omega) hown hR
  exact ⟨_, _, _, .inl hr, a1, a2, a3, a4⟩
end
end PW
end Go.Proofs.YtbpgndbjbaoolaaGreat

/- Package forward: slices.Clone, Grow, Concat, Contains; the results of Step. -/
namespace Go.Proofs.YtbpgndbjbaoolaaGreat
set_option linter.unusedVariables false
set_option linter.unusedSimpArgs false
namespace PW
open Go.RowKit Reg Mem Net Rng

set_option maxRecDepth 10000 in
set_option maxHeartbeats 1000000 in
theorem iclone_can (l : List Int) (hl : l.length ≤ 1000) : Can Tryz.prog 138 [intsV l] (· = intsV l) := by
  refine can_of Tryz.func138 rfl Tryz.ntmps138 rfl ?_
  refine W_cs (.a 1 rfl <| .k [0] rfl) ?_
  refine W_seq ?_
  refine W_rs (WR.mono (K := fun s => ∃ b : Bool, s = ⟨[(0, intsV l), (4, .raw (.bool b))], []⟩ ∧ (b = true → l = [])) ?_ ?_)
  · cases l with
    | nil => exact WR_a 1 rfl <| WR_nilq rfl slI rfl rfl rfl rfl rfl fun b => WR_k [0, 4] rfl ⟨b, rfl, fun _ => rfl⟩
    | cons a l => exact WR_a 1 rfl <| WR_val (y_notNil rfl slI rfl rfl (Nat.succ_pos _)) rfl rfl rfl <| WR_k [0, 4] rfl ⟨_, rfl, fun h => by cases h⟩
  rintro _ ⟨b, rfl, hb⟩
  refine W_cond rfl (fun hc => ?_) (fun hc => ?_)
  · have : l = [] := hb hc
    subst this
    refine W_cs (.a 1 rfl <| .k [2] rfl) ?_
    refine W_ret ?_
    exact ⟨_, _, ResL.of rfl, Pur.nils, rfl⟩
  · refine W_skip ?_
    refine W_rs ?_
    refine WR_l (l_emptySlice rfl (fok.sl.get rfl)) rfl <| WR_a 1 rfl <| WR_l (l_append rfl (fok.rk.get rfl) rfl rfl rfl (show (intsP l).length = l.length * 1 by simp [intsP]) (by unfold maxLen; omega)) rfl <| WR_a 1 rfl <| WR_k [2] rfl ?_
    refine W_ret ?_
    refine ⟨_, _, ResL.of rfl, Pur.ownL (xs := intsP l) (ys := intsP l) rfl PurL.pure, ?_⟩
    rw [Nat.zero_add]; rfl
set_option maxRecDepth 10000 in
set_option maxHeartbeats 1000000 in
theorem sgrow_can (n : Nat) (hn : n ≤ 1000) : CanS Tryz.prog 161 [.raw (.slice none 0 0), num n] [] (fun r σ' => r = .own 0 ∧ σ' = [some (.row 53 2 0 [])]) := by
  refine canS_of Tryz.func161 rfl Tryz.ntmps161 rfl ?_
  refine W_cs (.a 1 rfl <| .k [0, 1] rfl) ?_
  refine W_seq ?_
  refine W_cs (.a 2 rfl <| .k [0, 1, 6] rfl) ?_
  refine W_cond rfl (fun h1 => ?_) (fun h1 => ?_)
  · exact absurd (tt h1) (by omega)
  · clear h1
    refine W_skip ?_
    refine W_seq ?_
    refine W_cs (.a 2 rfl <| .v (y_capNil rfl (fok.el.get rfl) rfl) rfl <| .a 1 rfl <| .v (y_lenNil rfl (fok.el.get rfl) rfl) rfl <| .v (y_ar rfl) rfl <| .v (y_ar rfl) rfl <| .a 1 rfl <| .k [0, 1] rfl) ?_
    refine W_cs (.a 2 rfl <| .k [0, 1, 16] rfl) ?_
    refine W_cond rfl (fun h2 => ?_) (fun h2 => ?_)
    · have hpos : 0 < n := by have := tt h2; omega
      refine W_region ?_
      refine WR_a 2 rfl <| WR_v (y_capNil rfl (fok.el.get rfl) rfl) rfl <| WR_v (y_sliceNil rfl (fok.el.get rfl) rfl rfl) rfl <| WR_a 1 rfl <| WR_l (l_growNil (n := n) rfl (fok.rk.get rfl) Tryz.underlying3 rfl rfl (by omega) hpos (by unfold maxLen; omega)) rfl <| WR_a 1 rfl <| WR_v (y_lenNil rfl (fok.el.get rfl) rfl) rfl <| WR_l (l_sliceHiOwn (h := 0) rfl (fok.el.get rfl) rfl rfl rfl rfl (by omega)) rfl <| WR_a 1 rfl <| WR_k [0] rfl ?_
      refine W_ren [1] (.c 0 <| .nil) (.kept rfl (.row RenL.nil) <| .nil) rfl rfl ?_
      refine W_cs (.a 2 rfl <| .k [4] rfl) ?_
      refine W_ret ?_
      exact ⟨_, ResL.of rfl, rfl, rfl⟩
    · refine W_adopt 0 53 2 rfl ?_
      refine W_skip ?_
      refine W_cs (.a 2 rfl <| .k [4] rfl) ?_
      refine W_ret ?_
      exact ⟨_, ResL.of rfl, rfl, rfl⟩
def catL (A B : List Seg) (i : Nat) : List Seg := if i = 0 then [] else if i = 1 then A else A ++ B
def nthL (A B : List Seg) (i : Nat) : List Seg := if i = 0 then A else B
theorem cat_step (A B : List Seg) {i : Nat} (h : i < 2) : catL A B (i + 1) = catL A B i ++ nthL A B i := by
  rcases (show i = 0 ∨ i = 1 by omega) with rfl | rfl <;> rfl
theorem cat_len (A B : List Seg) (i : Nat) : (catL A B i).length ≤ A.length + B.length := by
  unfold catL
  split
  · simp
  · split <;> simp
set_option maxRecDepth 10000 in
set_option maxHeartbeats 1000000 in
theorem sconcat_can (A B : List Seg) (hl : A.length + B.length ≤ 1000) : Can Tryz.prog 139 [.slice 2 [segsV A, segsV B]] (· = segsV (A ++ B)) := by
  refine can_of Tryz.func139 rfl Tryz.ntmps139 rfl ?_
  have hg := sgrow_can (A ++ B).length (by simpa using hl)
  refine W_cs (.a 1 rfl <| .k [0] rfl) ?_
  refine W_cs (.a 1 rfl <| .k [0, 3] rfl) ?_
  refine W_seq ?_
  refine W_cs (.a 3 rfl <| .k [0, 3, 9, 10, 11] rfl) ?_
  refine W_block ?_
  refine W_k [0, 3, 9, 10, 11] rfl ?_
  refine W_loop (fun r s => ∃ i, i ≤ 2 ∧ r = 2 - i ∧ s = ⟨[(0, .slice 2 [segsV A, segsV B]), (3, num (catL A B i).length), (9, .slice 2 [segsV A, segsV B]), (10, num 2), (11, num i)], []⟩) 2 ⟨0, by omega, by omega, rfl⟩ ?_
  rintro r s ⟨i, hi, rfl, rfl⟩
  refine W_cs (.a 1 rfl <| .k [0, 3, 9, 10, 11, 12] rfl) ?_
  refine W_seq ?_
  refine W_cond rfl (fun h1 => ?_) (fun h1 => ?_)
  · have hlt : i < 2 := by have := tt h1; omega
    have hc1 := cat_len A B i
    have hc2 := cat_len A B (i + 1)
    have hst := congrArg List.length (cat_step A B hlt)
    rw [List.length_append] at hst
    have hget : [segsV A, segsV B][i]? = some (segsV (nthL A B i)) := by
      rcases (show i = 0 ∨ i = 1 by omega) with rfl | rfl <;> rfl
    clear h1
    refine W_skip ?_
    refine W_seq ?_
    refine W_block ?_
    refine W_cs (.v (y_ix (i) rfl) rfl <| .v (y_ld rfl (hget)) rfl <| .a 1 rfl <| .k [0, 3, 5, 9, 10, 11] rfl) ?_
    refine W_cs (.a 3 rfl <| .v (y_ar rfl (hc := (show ((catL A B i).length : Int) + ((nthL A B i).length : Int) = ((catL A B (i + 1)).length : Int) by omega)) (hn := (by unfold In64; omega))) rfl <| .a 1 rfl <| .k [0, 3, 9, 10, 11] rfl) ?_
    refine W_cs (.a 2 rfl <| .k [0, 3, 9, 10, 11, 20] rfl) ?_
    refine W_cond rfl (fun h2 => ?_) (fun h2 => ?_)
    · exact absurd (tt h2) (by omega)
    · clear h2
      refine W_skip ?_
      refine W_chain (.v (y_ar rfl) rfl <| .a 1 rfl <| .k [0, 3, 9, 10, 11] rfl) ?_
      exact ⟨2 - (i + 1), by omega, i + 1, by omega, rfl, rfl⟩
  · have hie : i = 2 := by have := ff h1; omega
    subst hie
    have hcat : catL A B 2 = A ++ B := rfl
    rw [hcat]
    clear h1
    refine W_exit ?_
    refine W_rs ?_
    refine WR_a 1 rfl <| WR_cS rfl rfl (CanS.mono hg (fun r σ' h => ?_))
    obtain ⟨rfl, rfl⟩ := h
    refine WR_a 1 rfl <| WR_k [0, 6] rfl ?_
    refine W_seq ?_
    refine W_cs (.a 3 rfl <| .k [6, 25, 26, 27] rfl) ?_
    refine W_block ?_
    refine W_k [6, 25, 26, 27] rfl ?_
    refine W_loop (fun r s => ∃ i, i ≤ 2 ∧ r = 2 - i ∧ s = ⟨[(6, .own 0), (25, .slice 2 [segsV A, segsV B]), (26, num 2), (27, num i)], [some (.row 53 2 (catL A B i).length (segsP (catL A B i)))]⟩) 2 ⟨0, by omega, by omega, rfl⟩ ?_
    rintro r s ⟨i, hi, rfl, rfl⟩
    refine W_cs (.a 1 rfl <| .k [6, 25, 26, 27, 28] rfl) ?_
    refine W_seq ?_
    refine W_cond rfl (fun h1 => ?_) (fun h1 => ?_)
    · have hlt : i < 2 := by have := tt h1; omega
      have hc1 := cat_len A B i
      have hc2 := cat_len A B (i + 1)
      have hst := cat_step A B hlt
      have hsl := congrArg List.length hst
      rw [List.length_append] at hsl
      have hget : [segsV A, segsV B][i]? = some (segsV (nthL A B i)) := by
        rcases (show i = 0 ∨ i = 1 by omega) with rfl | rfl <;> rfl
      clear h1
      refine W_skip ?_
      refine W_seq ?_
      refine W_block ?_
      refine W_cs (.v (y_ix (i) rfl) rfl <| .v (y_ld rfl (hget)) rfl <| .a 1 rfl <| .k [6, 8, 25, 26, 27] rfl) ?_
      refine W_region ?_
      refine WR_a 2 rfl <| WR_l (l_append rfl (fok.rk.get rfl) rfl rfl rfl (segsP_len _) (show _ ≤ maxLen ∧ _ * 16 ≤ 140737488355328 by unfold maxLen; omega)) rfl <| WR_a 1 rfl ?_
      refine WR_ren [1] (.c 6 <| .c 25 <| .c 26 <| .c 27 <| .nil) (.kept rfl (.rowP rfl (rfl)) <| .nil) rfl rfl (WR_nil ?_)
      refine W_chain (.v (y_ar rfl) rfl <| .a 1 rfl <| .k [6, 25, 26, 27] rfl) ?_
      refine ⟨2 - (i + 1), by omega, i + 1, by omega, rfl, ?_⟩
      rw [hst, List.length_append]
      unfold segsP
      rw [List.flatMap_append]
      rfl
    · have hie : i = 2 := by have := ff h1; omega
      subst hie
      have hcat : catL A B 2 = A ++ B := rfl
      rw [hcat]
      clear h1
      refine W_exit ?_
      refine W_cs (.a 2 rfl <| .k [2] rfl) ?_
      refine W_ret ?_
      exact ⟨_, _, ResL.of rfl, Pur.ownL rfl PurL.pure, rfl⟩
end PW
end Go.Proofs.YtbpgndbjbaoolaaGreat

/- Package forward: Step. -/
namespace Go.Proofs.YtbpgndbjbaoolaaGreat
set_option linter.unusedVariables false
set_option linter.unusedSimpArgs false
namespace PW
open Go.RowKit Reg Mem Net Rng

def ixI (v : Int) : List Int → Nat → Int
  | [], _ => -1
  | a :: l, i => bif decide (v = a) then (i : Int) else ixI v l (i + 1)
theorem ixI_iff (v : Int) : ∀ (l : List Int) (i : Nat), 0 ≤ ixI v l i ↔ v ∈ l
  | [], i => by simp [ixI]
  | a :: l, i => by
    simp only [ixI]
    by_cases h : v = a
    · rw [decide_eq_true h, cond_true]
      exact ⟨fun _ => by rw [h]; exact List.mem_cons_self, fun _ => by omega⟩
    · rw [decide_eq_false h, cond_false, ixI_iff v l (i + 1), List.mem_cons]
      exact ⟨.inr, fun h' => h'.resolve_left h⟩
theorem ixI_mem (v : Int) (l : List Int) (i : Nat) : decide (0 ≤ ixI v l i) = decide (v ∈ l) := decide_eq_decide.2 (ixI_iff v l i)
set_option maxRecDepth 10000 in
set_option maxHeartbeats 1000000 in
theorem sindex_can (l : List Int) (v : Int) (hl : l.length ≤ 1000) : Can Tryz.prog 137 [intsV l, num v] (· = num (ixI v l 0)) := by
  refine can_of Tryz.func137 rfl Tryz.ntmps137 rfl ?_
  refine W_cs (.a 1 rfl <| .k [0, 1] rfl) ?_
  refine W_seq ?_
  refine W_cs (.a 3 rfl <| .k [0, 1, 7, 8] rfl) ?_
  refine W_block ?_
  refine W_k [0, 1, 7, 8] rfl ?_
  refine W_loop (fun r s => ∃ i, i ≤ l.length ∧ r = l.length - i ∧ ixI v l 0 = ixI v (l.drop i) i ∧ s = ⟨[(0, intsV l), (1, num v), (7, num l.length), (8, num i)], []⟩) l.length ⟨0, by omega, by omega, rfl, rfl⟩ ?_
  rintro r s ⟨i, hi, rfl, hx, rfl⟩
  refine W_cs (.a 1 rfl <| .k [0, 1, 7, 8, 9] rfl) ?_
  refine W_seq ?_
  refine W_cond rfl (fun h1 => ?_) (fun h1 => ?_)
  · have hlt : i < l.length := by have := tt h1; omega
    rw [drop_cons l i hlt] at hx
    simp only [ixI] at hx
    obtain ⟨q, hq⟩ : ∃ q, decide (v = l.getD i 0) = q := ⟨_, rfl⟩
    rw [hq] at hx
    refine W_skip ?_
    refine W_seq ?_
    refine W_block ?_
    refine W_cs (.a 2 rfl <| .k [0, 1, 5, 7, 8] rfl) ?_
    refine W_cs (.a 3 rfl <| .v (y_ix (i) rfl) rfl <| .v (y_ld rfl (ints_get l i hlt)) rfl <| .v (y_q rfl (hq)) rfl <| .k [0, 1, 5, 7, 8, 16] rfl) ?_
    refine W_cond rfl (fun h2 => ?_) (fun h2 => ?_)
    · subst h2
      rw [cond_true] at hx
      rw [hx]
      refine W_cs (.a 2 rfl <| .k [4] rfl) ?_
      refine W_ret ?_
      exact ⟨_, _, ResL.of rfl, Pur.pure, rfl⟩
    · subst h2
      rw [cond_false] at hx
      refine W_skip ?_
      refine W_chain (.v (y_ar rfl) rfl <| .a 1 rfl <| .k [0, 1, 7, 8] rfl) ?_
      exact ⟨l.length - (i + 1), by omega, i + 1, by omega, rfl, hx, rfl⟩
  · have hie : i = l.length := by have := ff h1; omega
    subst hie
    rw [List.drop_length] at hx
    rw [hx]
    refine W_exit ?_
    refine W_cs (.a 1 rfl <| .k [4] rfl) ?_
    refine W_ret ?_
    exact ⟨_, _, ResL.of rfl, Pur.pure, rfl⟩
set_option maxRecDepth 10000 in
set_option maxHeartbeats 1000000 in
theorem scontains_can (l : List Int) (v : Int) (hl : l.length ≤ 1000) : Can Tryz.prog 95 [intsV l, num v] (· = flag (decide (v ∈ l))) := by
  obtain ⟨q, hq⟩ : ∃ q, decide (v ∈ l) = q := ⟨_, rfl⟩
  have hm := (ixI_mem v l 0).trans hq
  rw [hq]
  refine can_of Tryz.func95 rfl Tryz.ntmps95 rfl ?_
  refine W_cs (.a 1 rfl <| .k [0, 1] rfl) ?_
  refine W_cs (.a 2 rfl <| .c rfl (sindex_can l v hl) rfl <| .v (y_q rfl (hm)) rfl <| .a 1 rfl <| .k [4] rfl) ?_
  refine W_ret ?_
  exact ⟨_, _, ResL.of rfl, Pur.pure, rfl⟩
structure Pkt where
  id : Int
  src : Int
  dst : Int
  flow : Int
  stack : List Seg
  hops : Int
def pktP (p : Pkt) : List PV := [num p.id, num p.src, num p.dst, num p.flow, segsV p.stack, num p.hops]
def pktV (p : Pkt) : PV := .agg (pktP p)
instance (p : Pkt) : IsPureL (pktP p) := by unfold pktP; infer_instance
instance (p : Pkt) : IsPure (pktV p) := by unfold pktV; infer_instance
structure Out where
  arcs : List Int
  pkt : Pkt
  why : Int
def outV (r : Out) : PV := .tuple [intsV r.arcs, pktV r.pkt, num r.why]
def dropO (p : Pkt) (r : Int) : Out := ⟨[], p, r⟩
def leaveO (p : Pkt) (s : List Seg) (arcs : List Int) : Out := ⟨arcs, ⟨p.id, p.src, p.dst, p.flow, s, p.hops + 1⟩, 0⟩
def enterO (p : Pkt) (s : List Seg) (e : Ent) : Out :=
  if e.rep then (if 32 < (e.push ++ s.drop 1).length then dropO p 5 else leaveO p (e.push ++ s.drop 1) e.arcs) else leaveO p s e.arcs
set_option maxRecDepth 10000 in
set_option maxHeartbeats 1000000 in
theorem with_can (p : Pkt) (s : List Seg) (hl : s.length ≤ 1000) : Can Tryz.prog 93 [pktV p, segsV s] (· = pktV ⟨p.id, p.src, p.dst, p.flow, s, p.hops⟩) := by
  refine can_of Tryz.func93 rfl Tryz.ntmps93 rfl ?_
  refine W_rs ?_
  refine WR_l (l_box rfl rfl rfl) rfl <| WR_a 1 rfl <| WR_k [1, 2, 4] rfl ?_
  refine W_rs ?_
  refine WR_a 1 rfl <| WR_c rfl (sclone_can s hl) rfl <| WR_a 2 rfl <| WR_k [2, 4] rfl ?_
  refine W_rs ?_
  refine WR_a 2 rfl <| WR_k [4] rfl ?_
  refine W_ret ?_
  exact ⟨_, _, ResL.of rfl, Pur.pure (p := pktV ⟨p.id, p.src, p.dst, p.flow, s, p.hops⟩), rfl⟩
set_option maxRecDepth 10000 in
set_option maxHeartbeats 1000000 in
theorem drop_can (p : Pkt) (r : Int) (hl : p.stack.length ≤ 1000) : Can Tryz.prog 92 [pktV p, num r] (· = outV (dropO p r)) := by
  refine can_of Tryz.func92 rfl Tryz.ntmps92 rfl ?_
  refine W_rs ?_
  refine WR_a 4 rfl <| WR_k [1, 2, 5] rfl ?_
  refine W_rs ?_
  refine WR_a 2 rfl <| WR_v (y_ld rfl ((rfl : (pktP p)[4]? = some (segsV p.stack)))) rfl <| WR_c rfl (with_can p p.stack hl) rfl <| WR_a 4 rfl <| WR_k [4, 5, 6] rfl ?_
  refine W_ret ?_
  exact ⟨_, _, ResL.of rfl, Pur.tupleL (PurL.cons Pur.nils <| PurL.cons (Pur.pure (p := pktV p)) <| PurL.cons Pur.pure PurL.nil), rfl⟩
set_option maxRecDepth 10000 in
set_option maxHeartbeats 1000000 in
theorem leave_can (p : Pkt) (s : List Seg) (arcs : List Int) (hl : s.length ≤ 1000) (ha : arcs.length ≤ 1000) (hh : 0 ≤ p.hops ∧ p.hops ≤ 1000) : Can Tryz.prog 96 [pktV p, segsV s, intsV arcs] (· = outV (leaveO p s arcs)) := by
  refine can_of Tryz.func96 rfl Tryz.ntmps96 rfl ?_
  refine W_rs ?_
  refine WR_l (l_box rfl rfl rfl) rfl <| WR_a 3 rfl <| WR_k [1, 2, 3, 7] rfl ?_
  refine W_rs ?_
  refine WR_a 2 rfl <| WR_c rfl (with_can p s hl) rfl <| WR_a 1 rfl <| WR_k [2, 3, 7] rfl ?_
  refine W_rs ?_
  refine WR_a 2 rfl <| WR_v (y_ar rfl (hn := (show In64 (p.hops + 1) by unfold In64; omega))) rfl <| WR_a 2 rfl <| WR_k [2, 3, 7] rfl ?_
  refine W_dfs 4 20 mixed (
    .val [2] rfl (y_a rfl) rfl rfl <|
    .val [16] rfl (y_c rfl (iclone_can arcs ha)) rfl rfl <|
    .val [3] rfl (y_a rfl) rfl rfl <|
    .val [17] rfl (y_a rfl) rfl rfl <|
    .nil) (by kernel_rfl) rfl rfl (keepT_sub (ks := [6, 7, 18]) rfl) ?_
  refine WR_a 2 rfl <| WR_k [6, 7, 8] rfl ?_
  refine W_ret ?_
  exact ⟨_, _, ResL.of rfl, Pur.tupleL (PurL.cons (Pur.pure (p := intsV arcs)) <| PurL.cons (Pur.pure (p := pktV ⟨p.id, p.src, p.dst, p.flow, s, p.hops + 1⟩)) <| PurL.cons Pur.pure PurL.nil), rfl⟩
end PW
end Go.Proofs.YtbpgndbjbaoolaaGreat

/- Package forward: Step. -/
namespace Go.Proofs.YtbpgndbjbaoolaaGreat
set_option linter.unusedVariables false
set_option linter.unusedSimpArgs false
namespace PW
open Go.RowKit Reg Mem Net Rng

theorem leave_len {T : Topo} {n : Int} {L : List Int} (hl : T.links.length ≤ 256) (h : leaveB T n L = true) : L.length ≤ 512 := by
  have h := of_decide_eq_true h
  have key : ∀ i : Nat, i < L.length → (i : Int) ≤ L.getD i 0 := by
    intro i
    induction i with
    | zero => intro hi; have := (arcB_iff.1 (h 0 hi).1).1; omega
    | succ i ih =>
      intro hi
      have h1 := ih (by omega)
      have h2 := (h (i + 1) hi).2.2 (by omega)
      rw [Nat.add_sub_cancel] at h2
      omega
  rcases Nat.eq_zero_or_pos L.length with h0 | h0
  · omega
  · have h1 := key (L.length - 1) (by omega)
    have h2 := arcB_iff.1 (h (L.length - 1) (by omega)).1
    omega
set_option maxRecDepth 10000 in
set_option maxHeartbeats 1000000 in
theorem enter_can (p : Pkt) (s : List Seg) (e : Ent) (hs : s.length ≤ 40) (hp : e.push.length ≤ 40) (ha : e.arcs.length ≤ 1000) (hps : p.stack.length ≤ 1000) (hh : 0 ≤ p.hops ∧ p.hops ≤ 1000) : Can Tryz.prog 97 [pktV p, segsV s, entV e] (· = outV (enterO p s e)) := by
  obtain ⟨c, hc⟩ : ∃ q, e.rep = q := ⟨_, rfl⟩
  have hE : enterO p s e = if c then (if 32 < (e.push ++ s.drop 1).length then dropO p 5 else leaveO p (e.push ++ s.drop 1) e.arcs) else leaveO p s e.arcs := by unfold enterO; rw [hc]
  rw [hE]
  refine can_of Tryz.func97 rfl Tryz.ntmps97 rfl ?_
  refine W_rs ?_
  refine WR_a 5 rfl <| WR_k [1, 3, 5, 7] rfl ?_
  refine W_seq ?_
  refine W_cs (.a 1 rfl <| .v (y_ld rfl ((show (entP e)[1]? = some (flag c) by rw [← hc]; rfl))) rfl <| .k [1, 3, 5, 7, 11] rfl) ?_
  refine W_cond rfl (fun h1 => ?_) (fun h1 => ?_)
  · subst h1
    simp only [if_true]
    refine W_cs (.a 2 rfl <| .k [3, 5, 7, 9] rfl) ?_
    refine W_seq ?_
    refine W_cs (.a 3 rfl <| .k [3, 5, 7, 9, 15] rfl) ?_
    refine W_cond rfl (fun h2 => ?_) (fun h2 => ?_)
    · obtain ⟨a, l, rfl⟩ : ∃ a l, s = a :: l := by
        cases s with
        | nil => exact absurd (tt h2) (by simp)
        | cons a l => exact ⟨a, l, rfl⟩
      simp only [List.drop_succ_cons, List.drop_zero]
      obtain ⟨s', hs', hsl⟩ : ∃ s', l = s' ∧ s'.length ≤ 40 := ⟨l, rfl, by simp at hs; omega⟩
      refine W_chain (.a 1 rfl <| .v (y_segTail rfl (fok.el.get rfl) rfl rfl) rfl <| .a 1 rfl <| .k [3, 5, 7, 9] rfl) ?_
      rw [hs']
      refine W_cs (.a 4 rfl <| .c rfl (sconcat_can e.push s' (by omega)) rfl <| .a 1 rfl <| .k [1, 3, 5, 7] rfl) ?_
      refine W_cs (.a 3 rfl <| .k [1, 3, 5, 7, 25] rfl) ?_
      refine W_cond rfl (fun h3 => ?_) (fun h3 => ?_)
      · have h3 := tt h3
        rw [if_pos (by omega)]
        refine W_rs ?_
        refine WR_a 1 rfl <| WR_c rfl (drop_can p 5 hps) rfl <| WR_a 6 rfl <| WR_k [6, 7, 8] rfl ?_
        refine W_ret ?_
        exact ⟨_, _, ResL.of rfl, Pur.tupleL (PurL.cons (Pur.pure (p := intsV [])) <| PurL.cons (Pur.pure (p := pktV p)) <| PurL.cons Pur.pure PurL.nil), rfl⟩
      · have h3 := ff h3
        rw [if_neg (by omega)]
        refine W_skip ?_
        refine W_rs ?_
        refine WR_a 4 rfl <| WR_c rfl (leave_can p _ e.arcs (by first | (simp only [List.length_append]; omega) | omega) ha hh) rfl <| WR_a 6 rfl <| WR_k [6, 7, 8] rfl ?_
        refine W_ret ?_
        exact ⟨_, _, ResL.of rfl, Pur.tupleL (PurL.cons (Pur.pure (p := intsV e.arcs)) <| PurL.cons (Pur.pure (p := pktV ⟨p.id, p.src, p.dst, p.flow, _, p.hops + 1⟩)) <| PurL.cons Pur.pure PurL.nil), rfl⟩
    · obtain rfl : s = [] := by
        cases s with
        | nil => rfl
        | cons a l => exact absurd (ff h2) (by simp)
      simp only [List.drop_nil]
      obtain ⟨s', hs', hsl⟩ : ∃ s', ([] : List Seg) = s' ∧ s'.length ≤ 40 := ⟨[], rfl, by simp⟩
      refine W_skip ?_
      rw [hs']
      refine W_cs (.a 4 rfl <| .c rfl (sconcat_can e.push s' (by omega)) rfl <| .a 1 rfl <| .k [1, 3, 5, 7] rfl) ?_
      refine W_cs (.a 3 rfl <| .k [1, 3, 5, 7, 25] rfl) ?_
      refine W_cond rfl (fun h3 => ?_) (fun h3 => ?_)
      · have h3 := tt h3
        rw [if_pos (by omega)]
        refine W_rs ?_
        refine WR_a 1 rfl <| WR_c rfl (drop_can p 5 hps) rfl <| WR_a 6 rfl <| WR_k [6, 7, 8] rfl ?_
        refine W_ret ?_
        exact ⟨_, _, ResL.of rfl, Pur.tupleL (PurL.cons (Pur.pure (p := intsV [])) <| PurL.cons (Pur.pure (p := pktV p)) <| PurL.cons Pur.pure PurL.nil), rfl⟩
      · have h3 := ff h3
        rw [if_neg (by omega)]
        refine W_skip ?_
        refine W_rs ?_
        refine WR_a 4 rfl <| WR_c rfl (leave_can p _ e.arcs (by first | (simp only [List.length_append]; omega) | omega) ha hh) rfl <| WR_a 6 rfl <| WR_k [6, 7, 8] rfl ?_
        refine W_ret ?_
        exact ⟨_, _, ResL.of rfl, Pur.tupleL (PurL.cons (Pur.pure (p := intsV e.arcs)) <| PurL.cons (Pur.pure (p := pktV ⟨p.id, p.src, p.dst, p.flow, _, p.hops + 1⟩)) <| PurL.cons Pur.pure PurL.nil), rfl⟩
  · subst h1
    simp only [Bool.false_eq_true, if_false]
    refine W_skip ?_
    refine W_rs ?_
    refine WR_a 4 rfl <| WR_c rfl (leave_can p _ e.arcs (by first | (simp only [List.length_append]; omega) | omega) ha hh) rfl <| WR_a 6 rfl <| WR_k [6, 7, 8] rfl ?_
    refine W_ret ?_
    exact ⟨_, _, ResL.of rfl, Pur.tupleL (PurL.cons (Pur.pure (p := intsV e.arcs)) <| PurL.cons (Pur.pure (p := pktV ⟨p.id, p.src, p.dst, p.flow, _, p.hops + 1⟩)) <| PurL.cons Pur.pure PurL.nil), rfl⟩
def entAt (x : Tab) (v : Int) : Ent := x.ents.getD v.toNat entD
def skipS (h : Seg) : List Seg → List Seg
  | [] => []
  | a :: l => if a = h then skipS h l else a :: l
def goO (T : Topo) (x : Tab) (p : Pkt) (s : List Seg) (v : Int) (K : Out) : Out := if (nodeB T v && decide (0 < ((entAt x v).arcs.length : Int))) = true then enterO p s (entAt x v) else K
/-- What one round of Step answers; K is what the next one would. -/
def roundO (T : Topo) (x : Tab) (p : Pkt) (s : List Seg) (K : Out) : Out :=
  if (decide ((s.length : Int) = 0) && decide (p.dst = x.node)) = true then ⟨[], ⟨p.id, p.src, p.dst, p.flow, [], p.hops⟩, -1⟩
  else if (decide (255 ≤ p.hops) || decide (p.hops < 0)) = true then dropO p 4
  else match s with
    | [] => goO T x p [] p.dst (dropO p 1)
    | a :: l => if a.kind = 1 then goO T x p (a :: l) a.num K
      else if a.kind = 2 then (if (!(arcB T a.num) || decide (tailN T a.num.toNat ≠ x.node)) = true then dropO p 2 else if a.num ∈ x.down then K else leaveO p l [a.num])
      else dropO p 1
def stepO (T : Topo) (x : Tab) (p : Pkt) : Out :=
  if ((!tabOK T x) || !(nodeB T p.dst)) = true then dropO p 1
  else if 32 < (p.stack.length : Int) then dropO p 5
  else roundO T x p (skipS ⟨1, x.node⟩ p.stack) (roundO T x p [] (dropO p 1))
theorem ent_small {T : Topo} {x : Tab} (h : tabOK T x = true) {v : Int} (hv : nodeB T v = true) : ∃ k : Nat, v = (k : Int) ∧ x.ents[k]? = some (entAt x v) ∧ (entAt x v).push.length ≤ 40 ∧ (entAt x v).arcs.length ≤ 1000 := by
  unfold tabOK at h
  simp only [Bool.and_eq_true, decide_eq_true_eq] at h
  obtain ⟨⟨⟨⟨h1, h2⟩, h3⟩, h4⟩, h5⟩ := h
  have hll := links_le h1
  obtain ⟨v0, v1⟩ := nodeB_iff.1 hv
  obtain ⟨k, rfl⟩ := Int.eq_ofNat_of_zero_le v0
  have hk : k < x.ents.length := by omega
  have hg : x.ents[k]? = some (entAt x (k : Int)) := by
    unfold entAt
    rw [Int.toNat_natCast, List.getD_eq_getElem?_getD, List.getElem?_eq_getElem hk]
    rfl
  have ho := (of_decide_eq_true h5) k hk
  rw [ents_getD _ _ _ hg] at ho
  unfold entOK at ho
  simp only [Bool.and_eq_true] at ho
  refine ⟨k, rfl, hg, ?_, ?_⟩
  · have := ho.2
    split at this
    · simp only [Bool.and_eq_true, decide_eq_true_eq] at this; omega
    · simp only [decide_eq_true_eq] at this; omega
  · have := leave_len hll ho.1.1; omega
theorem down_small {T : Topo} {x : Tab} (h : tabOK T x = true) : x.down.length ≤ 1000 := by
  unfold tabOK at h
  simp only [Bool.and_eq_true] at h
  have := leave_len (links_le h.1.1.1.1) h.1.2
  omega
set_option maxRecDepth 10000 in
set_option maxHeartbeats 2000000 in
theorem step_can (T : Topo) (x : Tab) (p : Pkt) (hps : p.stack.length ≤ 1000) : Can Tryz.prog 47 [topoV T, tabV x, pktV p] (· = outV (stepO T x p)) := by
  obtain ⟨c1, hc1⟩ : ∃ q, tabOK T x = q := ⟨_, rfl⟩
  obtain ⟨c2, hc2⟩ : ∃ q, nodeB T p.dst = q := ⟨_, rfl⟩
  obtain ⟨n, hn⟩ : ∃ n, x.node = n := ⟨_, rfl⟩
  unfold stepO
  rw [hc1, hc2]
  refine can_of Tryz.func47 rfl Tryz.ntmps47 rfl ?_
  refine W_rs ?_
  refine WR_a 6 rfl <| WR_k [3, 4, 5, 7] rfl ?_
  refine W_scope ?_
  refine W_seq ?_
  refine W_csK 22 (.raw (.bool ((!c1) || !c2))) [3, 4, 5, 7] rfl ?_ ?_
  · refine .a 2 rfl <| .c rfl (hc1 ▸ tvalid_can T x) rfl <| .a 2 rfl <| ?_
    cases c1
    · exact .a 6 rfl <| .k [22, 3, 4, 5, 7] rfl
    · exact .a 3 rfl <| .c rfl (hc2 ▸ node_can T p.dst) rfl <| .a 2 rfl <| .k [22, 3, 4, 5, 7] rfl
  refine W_cond rfl (fun h1 => ?_) (fun h1 => ?_)
  · rw [if_pos h1]
    refine W_rs ?_
    refine WR_a 1 rfl <| WR_c rfl (drop_can p 1 hps) rfl <| WR_a 6 rfl <| WR_k [6, 7, 8] rfl ?_
    refine W_ret ?_
    exact ⟨_, _, ResL.of rfl, Pur.tupleL (PurL.cons (Pur.pure (p := intsV [])) <| PurL.cons (Pur.pure (p := pktV p)) <| PurL.cons Pur.pure PurL.nil), rfl⟩
  · rw [if_neg (by rw [h1]; simp)]
    obtain ⟨rfl, rfl⟩ : c1 = true ∧ c2 = true := by revert h1; cases c1 <;> cases c2 <;> simp
    refine W_skip ?_
    refine W_seq ?_
    refine W_cs (.a 1 rfl <| .v (y_ld rfl ((rfl : (pktP p)[4]? = some (segsV p.stack)))) rfl <| .a 2 rfl <| .k [3, 4, 5, 7, 31] rfl) ?_
    refine W_cond rfl (fun h2 => ?_) (fun h2 => ?_)
    · rw [if_pos (tt h2)]
      refine W_rs ?_
      refine WR_a 1 rfl <| WR_c rfl (drop_can p 5 hps) rfl <| WR_a 6 rfl <| WR_k [6, 7, 8] rfl ?_
      refine W_ret ?_
      exact ⟨_, _, ResL.of rfl, Pur.tupleL (PurL.cons (Pur.pure (p := intsV [])) <| PurL.cons (Pur.pure (p := pktV p)) <| PurL.cons Pur.pure PurL.nil), rfl⟩
    · rw [if_neg (ff h2)]
      have h32 : p.stack.length ≤ 32 := by have := ff h2; omega
      refine W_skip ?_
      refine W_cs (.a 1 rfl <| .v (y_ld rfl ((rfl : (pktP p)[4]? = some (segsV p.stack)))) rfl <| .a 1 rfl <| .k [3, 4, 5, 7, 9] rfl) ?_
      refine W_rs ?_
      refine WR_a 1 rfl <| WR_v (y_ld rfl ((show (tabP x)[0]? = some (num n) by rw [← hn]; rfl))) rfl <| WR_a 3 rfl <| WR_k [3, 4, 5, 7, 9, 10] rfl ?_
      refine W_seq ?_
      refine W_block ?_
      refine W_k [3, 4, 5, 7, 9, 10] rfl ?_
      refine W_loop (fun r st => ∃ s : List Seg, s.length ≤ 32 ∧ r = s.length ∧ skipS ⟨1, n⟩ p.stack = skipS ⟨1, n⟩ s ∧ st = ⟨[(3, .pin (topoP T) 0), (4, .pin (tabP x) 0), (5, .pin (pktP p) 0), (7, .ptr 0 0), (9, segsV s), (10, .ptr 1 0)], [some (.cells 74 [num 0, num 0, num 0, num 0, .raw (.slice none 0 0), num 0]), some (.cells 53 [num 1, num n])]⟩) p.stack.length ⟨p.stack, h32, rfl, rfl, rfl⟩ ?_
      rintro r st ⟨s, hs, rfl, hsk, rfl⟩
      obtain ⟨e1, he1⟩ : ∃ q, decide (0 < (s.length : Int)) = q := ⟨_, rfl⟩
      obtain ⟨a, ha⟩ : ∃ a, s.getD 0 ⟨0, 0⟩ = a := ⟨_, rfl⟩
      obtain ⟨e2, he2⟩ : ∃ q, decide (a = (⟨1, n⟩ : Seg)) = q := ⟨_, rfl⟩
      refine W_seq ?_
      refine W_drsK mixed (by kernel_rfl) 51 (.raw (.bool (e1 && e2))) [3, 4, 5, 7, 9, 10] rfl ?_ ?_
      · refine .a 2 rfl <| .v [43] (y_q rfl (he1)) rfl rfl <| .a 1 rfl <| ?_
        cases e1
        · exact .a 6 rfl <| .k [51, 3, 4, 5, 7, 9, 10] rfl
        · exact .a 1 rfl <| .v [46] (y_ix (0) rfl (by omega) (by have := tt he1; omega)) rfl rfl <| .v [47] (y_la rfl (segs_drop s 0 a (by rw [← ha]; have := tt he1; rw [List.getD_eq_getElem?_getD, List.getElem?_eq_getElem (by omega)]; rfl)) rfl) rfl rfl <| .a 1 rfl <| .v [48, 49] (y_segEql rfl rfl (b := ⟨1, n⟩) rfl he2) rfl rfl <| .a 1 rfl <| .k [51, 3, 4, 5, 7, 9, 10] rfl
      refine W_cond rfl (fun h3 => ?_) (fun h3 => ?_)
      · obtain ⟨rfl, rfl⟩ := Bool.and_eq_true_iff.1 h3
        obtain ⟨l, rfl⟩ : ∃ l, s = (⟨1, n⟩ : Seg) :: l := by
          have h4 := tt he2
          cases s with
          | nil => exact absurd (tt he1) (by simp)
          | cons b l => exact ⟨l, by rw [← h4, ← ha]; rfl⟩
        simp only [skipS, if_true] at hsk
        refine W_skip ?_
        refine W_block ?_
        refine W_chain (.a 1 rfl <| .v (y_segTail rfl (fok.el.get rfl) rfl rfl) rfl <| .a 1 rfl <| .k [3, 4, 5, 7, 9, 10] rfl) ?_
        exact ⟨l.length, by simp, l, by simp at hs; omega, rfl, hsk, rfl⟩
      · have hsk : skipS ⟨1, n⟩ p.stack = s := by
          rw [hsk]
          cases s with
          | nil => rfl
          | cons b l =>
            have e1t : e1 = true := by rw [← he1]; simp
            rw [e1t, Bool.true_and] at h3
            rw [h3] at he2
            have h5 := ff he2
            simp only [skipS]
            rw [if_neg (by rw [← ha] at h5; exact h5)]
        rw [hn, hsk]
        clear he1 ha he2 h3
        refine W_exit ?_
        refine W_seq ?_
        refine W_label ?_
        refine W_block ?_
        refine W_k [3, 4, 5, 7, 9] rfl ?_
        refine W_loop (fun r st => ∃ (s' : List Seg) (z : PV), PLe z (segsV s') ∧ s'.length ≤ 32 ∧ r = s'.length ∧ roundO T x p s (roundO T x p [] (dropO p 1)) = roundO T x p s' (roundO T x p [] (dropO p 1)) ∧ st = ⟨[(3, .pin (topoP T) 0), (4, .pin (tabP x) 0), (5, .pin (pktP p) 0), (7, .ptr 0 0), (9, z)], [some (.cells 74 [num 0, num 0, num 0, num 0, .raw (.slice none 0 0), num 0]), some (.cells 53 [num 1, num n])]⟩) s.length ⟨s, _, PLe.refl _, hs, rfl, rfl, rfl⟩ ?_
        clear hsk hs
        rintro r st ⟨s', z, hz, hs, rfl, hR, rfl⟩
        refine W_sub (t' := [(3, .pin (topoP T) 0), (4, .pin (tabP x) 0), (5, .pin (pktP p) 0), (7, .ptr 0 0), (9, segsV s')]) ?_ ?_
        · exact Sub.cons rfl <| Sub.cons rfl <| Sub.cons rfl <| Sub.cons rfl <| Sub.consLe rfl hz <| Sub.nil _
        clear hz
        rw [hR]
        clear hR
        obtain ⟨K0, hK0⟩ : ∃ K, roundO T x p [] (dropO p 1) = K := ⟨_, rfl⟩
        rw [hK0]
        obtain ⟨R, hS⟩ : ∃ R, roundO T x p s' K0 = R := ⟨_, rfl⟩
        rw [hS]
        have hRR := hS
        unfold roundO at hRR
        obtain ⟨c5, hc5⟩ : ∃ q, decide ((s'.length : Int) = 0) = q := ⟨_, rfl⟩
        obtain ⟨c6, hc6⟩ : ∃ q, decide (p.dst = n) = q := ⟨_, rfl⟩
        obtain ⟨c7, hc7⟩ : ∃ q, decide (255 ≤ p.hops) = q := ⟨_, rfl⟩
        obtain ⟨c8, hc8⟩ : ∃ q, decide (p.hops < 0) = q := ⟨_, rfl⟩
        rw [hc5, hn, hc6, hc7, hc8] at hRR
        refine W_block ?_
        refine W_seq ?_
        refine W_csK 63 (.raw (.bool (c5 && c6))) [3, 4, 5, 7, 9] rfl ?_ ?_
        · refine .a 2 rfl <| .v (y_q rfl (hc5)) rfl <| .a 1 rfl <| ?_
          cases c5
          · exact .a 6 rfl <| .k [63, 3, 4, 5, 7, 9] rfl
          · exact .a 1 rfl <| .v (y_ld rfl ((rfl : (pktP p)[2]? = some (num p.dst)))) rfl <| .a 1 rfl <| .v (y_ld rfl ((show (tabP x)[0]? = some (num n) by rw [← hn]; rfl))) rfl <| .v (y_q rfl (hc6)) rfl <| .a 1 rfl <| .k [63, 3, 4, 5, 7, 9] rfl
        refine W_cond rfl (fun h1 => ?_) (fun h1 => ?_)
        · rw [if_pos h1] at hRR
          subst hRR
          refine W_rs ?_
          refine WR_a 1 rfl <| WR_v (y_cP rfl (PurL.cons Pur.pure <| PurL.cons Pur.nils PurL.nil) (with_can p [] (by simp))) rfl <| WR_a 3 rfl <| WR_k [6, 7, 8] rfl ?_
          refine W_ret ?_
          exact ⟨_, _, ResL.of rfl, Pur.tupleL (PurL.cons Pur.nils <| PurL.cons (Pur.pure (p := pktV ⟨p.id, p.src, p.dst, p.flow, [], p.hops⟩)) <| PurL.cons Pur.pure PurL.nil), rfl⟩
        · rw [if_neg (by rw [h1]; simp)] at hRR
          refine W_skip ?_
          refine W_seq ?_
          refine W_csK 73 (.raw (.bool (c7 || c8))) [3, 4, 5, 7, 9] rfl ?_ ?_
          · refine .a 1 rfl <| .v (y_ld rfl ((rfl : (pktP p)[5]? = some (num p.hops)))) rfl <| .v (y_q rfl (hc7)) rfl <| .a 1 rfl <| ?_
            cases c7
            · exact .a 1 rfl <| .v (y_ld rfl ((rfl : (pktP p)[5]? = some (num p.hops)))) rfl <| .v (y_q rfl (hc8)) rfl <| .a 1 rfl <| .k [73, 3, 4, 5, 7, 9] rfl
            · exact .a 4 rfl <| .k [73, 3, 4, 5, 7, 9] rfl
          refine W_cond rfl (fun h2 => ?_) (fun h2 => ?_)
          · rw [if_pos h2] at hRR
            subst hRR
            refine W_rs ?_
            refine WR_a 1 rfl <| WR_c rfl (drop_can p 4 hps) rfl <| WR_a 6 rfl <| WR_k [6, 7, 8] rfl ?_
            refine W_ret ?_
            exact ⟨_, _, ResL.of rfl, Pur.tupleL (PurL.cons (Pur.pure (p := intsV [])) <| PurL.cons (Pur.pure (p := pktV p)) <| PurL.cons Pur.pure PurL.nil), rfl⟩
          · rw [if_neg (by rw [h2]; simp)] at hRR
            have hh : 0 ≤ p.hops ∧ p.hops ≤ 1000 := by
              obtain ⟨h3, h4⟩ := Bool.or_eq_false_iff.1 h2
              rw [← hc7] at h3
              rw [← hc8] at h4
              have := ff h3
              have := ff h4
              omega
            clear hc5 hc6 hc7 hc8 h1 h2
            refine W_skip ?_
            obtain ⟨v, hv⟩ : ∃ v, p.dst = v := ⟨_, rfl⟩
            refine W_cs (.a 1 rfl <| .v (y_ld rfl ((show (pktP p)[2]? = some (num v) by rw [← hv]; rfl))) rfl <| .a 1 rfl <| .k [3, 4, 5, 7, 9, 11] rfl) ?_
            refine W_seq ?_
            refine W_cs (.a 3 rfl <| .k [3, 4, 5, 7, 9, 11, 83] rfl) ?_
            refine W_cond rfl (fun h3 => ?_) (fun h3 => ?_)
            · have hne : 0 < s'.length := by have := tt h3; omega
              obtain ⟨a, l, hs'⟩ : ∃ a l, s' = a :: l := by
                cases s' with
                | nil => exact absurd hne (by simp)
                | cons a l => exact ⟨a, l, rfl⟩
              have h0 : s'[0]? = some a := by rw [hs']; rfl
              rw [hs'] at hRR
              dsimp only at hRR
              rw [← hs'] at hRR
              clear hv
              obtain ⟨v, hv⟩ : ∃ v, a.num = v := ⟨_, rfl⟩
              rw [hv] at hRR
              refine W_cs (.a 1 rfl <| .v (y_ix (0) rfl (by omega) (by omega)) rfl <| .a 1 rfl <| .v (y_ld rfl (((segs_n s' 0 a h0).trans (by rw [hv])))) rfl <| .a 1 rfl <| .k [3, 4, 5, 7, 9, 11] rfl) ?_
              refine W_cs (.a 1 rfl <| .v (y_ix (0) rfl (by omega) (by omega)) rfl <| .a 1 rfl <| .v (y_ld rfl ((segs_k s' 0 a h0))) rfl <| .k [3, 4, 5, 7, 9, 11, 91] rfl) ?_
              refine W_block ?_
              refine W_cs (.a 2 rfl <| .k [3, 4, 5, 7, 9, 11, 91, 97] rfl) ?_
              refine W_cond rfl (fun h4 => ?_) (fun h4 => ?_)
              · rw [if_pos (tt h4)] at hRR
                obtain ⟨K1, hK1, hK1n, hK1p⟩ : ∃ K1, K1 = K0 ∧ (s'.length = 0 → K1 = dropO p 1) ∧ (0 < s'.length → K1 = K0) := ⟨_, rfl, fun h => absurd h (by omega), fun h => rfl⟩
                rw [← hK1] at hRR
                clear hK1 h3 h4 hs' hv h0
                refine W_skip ?_
                refine W_seq ?_
                obtain ⟨c11, hc11⟩ : ∃ q, nodeB T v = q := ⟨_, rfl⟩
                have hnc := node_can T v
                rw [hc11] at hnc
                unfold goO at hRR
                have hes : c11 = true → x.ents[v.toNat]? = some (entAt x v) ∧ (entAt x v).push.length ≤ 40 ∧ (entAt x v).arcs.length ≤ 1000 ∧ v < (x.ents.length : Int) ∧ 0 ≤ v := fun h => by
                  obtain ⟨k, rfl, g1, g2, g3⟩ := ent_small hc1 (hc11.trans h)
                  have := (List.getElem?_eq_some_iff.1 g1).1
                  exact ⟨g1, g2, g3, by omega, by omega⟩
                obtain ⟨e, he⟩ : ∃ e, entAt x v = e := ⟨_, rfl⟩
                obtain ⟨c12, hc12⟩ : ∃ q, decide (0 < (e.arcs.length : Int)) = q := ⟨_, rfl⟩
                rw [he] at hes hRR
                rw [hc11, hc12] at hRR
                refine W_seqM (Q1 := fun st => st = ⟨[(143, flag (c11 && c12)), (3, .pin (topoP T) 0), (4, .pin (tabP x) 0), (5, .pin (pktP p) 0), (7, .ptr 0 0), (9, segsV s'), (11, num v)], [some (.cells 74 [num 0, num 0, num 0, num 0, .raw (.slice none 0 0), num 0]), some (.cells 53 [num 1, num n])]⟩) ?_ ?_
                · cases c11
                  · refine W_chain (.a 2 rfl <| .c rfl (hnc) rfl <| .a 10 rfl <| .k [143, 3, 4, 5, 7, 9, 11] rfl) ?_
                    rfl
                  · refine W_chain (.a 2 rfl <| .c rfl (hnc) rfl <| .a 2 rfl <| .v (y_ld rfl ((rfl : (tabP x)[1]? = some (entsV x.ents)))) rfl <| .a 1 rfl <| .v (y_ix ((v.toNat * 3)) rfl (hes rfl).2.2.2.2 (hes rfl).2.2.2.1) rfl <| .a 1 rfl <| .v (y_ld rfl ((ents_get x.ents v.toNat 0 e (hes rfl).1 (by omega)))) rfl <| .a 1 rfl <| .v (y_q rfl (hc12)) rfl <| .a 1 rfl <| .k [143, 3, 4, 5, 7, 9, 11] rfl) ?_
                    rfl
                rintro _ rfl
                refine W_cond rfl (fun h8 => ?_) (fun h8 => ?_)
                · rw [if_pos h8] at hRR
                  obtain ⟨g1, g2, g3, g4, g5⟩ := hes (Bool.and_eq_true_iff.1 h8).1
                  subst hRR
                  refine W_dfs 12 20 mixed (
                    .val [5] rfl (y_a rfl) rfl rfl <|
                    .val [9] rfl (y_a rfl) rfl rfl <|
                    .val [4] rfl (y_a rfl) rfl rfl <|
                    .val [146] rfl (y_ld rfl ((rfl : (tabP x)[1]? = some (entsV x.ents)))) rfl rfl <|
                    .val [11] rfl (y_a rfl) rfl rfl <|
                    .val [147, 148] rfl (y_ix ((v.toNat * 3)) rfl g5 g4) rfl rfl <|
                    .val [149] rfl (y_la rfl ((ents_drop x.ents v.toNat e g1)) rfl) rfl rfl <|
                    .val [144, 145, 150] rfl (y_c rfl (enter_can p s' e (by omega) g2 g3 hps hh)) rfl rfl <|
                    .val [151] rfl (y_a rfl) rfl rfl <|
                    .val [151] rfl (y_a rfl) rfl rfl <|
                    .val [151] rfl (y_a rfl) rfl rfl <|
                    .val [152] rfl (y_a rfl) rfl rfl <|
                    .nil) (by kernel_rfl) rfl rfl (keepT_sub (ks := [6, 7, 153, 154]) rfl) ?_
                  refine WR_a 2 rfl <| WR_k [6, 7, 8] rfl ?_
                  refine W_ret ?_
                  exact ⟨_, _, ResL.of rfl, Pur.tupleL (PurL.cons (Pur.pure (p := intsV (enterO p s' e).arcs)) <| PurL.cons (Pur.pure (p := pktV (enterO p s' e).pkt)) <| PurL.cons Pur.pure PurL.nil), rfl⟩
                · rw [if_neg (by rw [h8]; simp)] at hRR
                  refine W_skip ?_
                  refine W_seq ?_
                  refine W_cs (.a 3 rfl <| .k [3, 4, 5, 7, 157] rfl) ?_
                  refine W_cond rfl (fun h9 => ?_) (fun h9 => ?_)
                  · rw [hK1n (by have := tt h9; omega)] at hRR
                    subst hRR
                    refine W_rs ?_
                    refine WR_a 1 rfl <| WR_c rfl (drop_can p 1 hps) rfl <| WR_a 6 rfl <| WR_k [6, 7, 8] rfl ?_
                    refine W_ret ?_
                    exact ⟨_, _, ResL.of rfl, Pur.tupleL (PurL.cons (Pur.pure (p := intsV [])) <| PurL.cons (Pur.pure (p := pktV p)) <| PurL.cons Pur.pure PurL.nil), rfl⟩
                  · have hne : 0 < s'.length := by have := ff h9; omega
                    rw [hK1p hne] at hRR
                    refine W_skip ?_
                    refine W_chain (.a 1 rfl <| .k [3, 4, 5, 7, 9] rfl) ?_
                    exact ⟨0, hne, [], _, PLe.nils, by simp, rfl, hRR.symm.trans (hK0.symm.trans rfl), rfl⟩
              · rw [if_neg (ff h4)] at hRR
                refine W_cs (.a 2 rfl <| .k [3, 4, 5, 7, 9, 11, 99] rfl) ?_
                refine W_cond rfl (fun h5 => ?_) (fun h5 => ?_)
                · rw [if_pos (tt h5)] at hRR
                  obtain ⟨c9, hc9⟩ : ∃ q, arcB T v = q := ⟨_, rfl⟩
                  obtain ⟨c10, hc10⟩ : ∃ q, decide (tailN T v.toNat ≠ n) = q := ⟨_, rfl⟩
                  have hac := arc_can T (by have h := hc1; unfold tabOK at h; simp only [Bool.and_eq_true] at h; have := links_le h.1.1.1.1; omega) v
                  rw [hc9] at hac
                  rw [hc9, hc10] at hRR
                  refine W_seq ?_
                  refine W_drsK mixed (by kernel_rfl) 112 (.raw (.bool ((!c9) || c10))) [3, 4, 5, 7, 9, 11] rfl ?_ ?_
                  · refine .a 2 rfl <| .v [101, 102] (y_c rfl (hac)) rfl rfl <| .a 2 rfl <| ?_
                    cases c9
                    · exact .a 7 rfl <| .k [112, 3, 4, 5, 7, 9, 11] rfl
                    · exact .a 2 rfl <| .v [106, 107] (y_c rfl (tailI_can T v hc9)) rfl rfl <| .a 1 rfl <| .v [109] (y_ld rfl ((show (tabP x)[0]? = some (num n) by rw [← hn]; rfl))) rfl rfl <| .v [108, 110] (y_q rfl (hc10)) rfl rfl <| .a 1 rfl <| .k [112, 3, 4, 5, 7, 9, 11] rfl
                  refine W_cond rfl (fun h6 => ?_) (fun h6 => ?_)
                  · rw [if_pos h6] at hRR
                    subst hRR
                    refine W_rs ?_
                    refine WR_a 1 rfl <| WR_c rfl (drop_can p 2 hps) rfl <| WR_a 6 rfl <| WR_k [6, 7, 8] rfl ?_
                    refine W_ret ?_
                    exact ⟨_, _, ResL.of rfl, Pur.tupleL (PurL.cons (Pur.pure (p := intsV [])) <| PurL.cons (Pur.pure (p := pktV p)) <| PurL.cons Pur.pure PurL.nil), rfl⟩
                  · rw [if_neg (by rw [h6]; simp)] at hRR
                    refine W_skip ?_
                    refine W_seq ?_
                    refine W_cs (.a 1 rfl <| .v (y_ld rfl ((rfl : (tabP x)[2]? = some (intsV x.down)))) rfl <| .a 1 rfl <| .c rfl (scontains_can x.down v (down_small hc1)) rfl <| .k [3, 4, 5, 7, 9, 11, 121] rfl) ?_
                    refine W_cond rfl (fun h7 => ?_) (fun h7 => ?_)
                    · rw [if_pos (tt h7)] at hRR
                      refine W_cs (.a 1 rfl <| .k [3, 4, 5, 7, 9] rfl) ?_
                      refine W_exit ?_
                      exact ⟨0, hne, [], _, PLe.nils, by simp, rfl, hRR.symm.trans (hK0.symm.trans rfl), rfl⟩
                    · rw [if_neg (ff h7)] at hRR
                      subst hRR
                      subst hs'
                      refine W_skip ?_
                      refine W_dfs 10 20 mixed (
                        .val [5] rfl (y_a rfl) rfl rfl <|
                        .val [9] rfl (y_a rfl) rfl rfl <|
                        .val [123] rfl (y_segTail rfl (fok.el.get rfl) rfl rfl) rfl rfl <|
                        .val [11] rfl (y_a rfl) rfl rfl <|
                        .val [125] rfl (y_a rfl) rfl rfl <|
                        .val [122, 124, 126] rfl (y_c rfl (leave_can p l [v] (by simp at hs; omega) (by simp) hh)) rfl rfl <|
                        .val [127] rfl (y_a rfl) rfl rfl <|
                        .val [127] rfl (y_a rfl) rfl rfl <|
                        .val [127] rfl (y_a rfl) rfl rfl <|
                        .val [128] rfl (y_a rfl) rfl rfl <|
                        .nil) (by kernel_rfl) rfl rfl (keepT_sub (ks := [6, 7, 129, 130]) rfl) ?_
                      refine WR_a 2 rfl <| WR_k [6, 7, 8] rfl ?_
                      refine W_ret ?_
                      exact ⟨_, _, ResL.of rfl, Pur.tupleL (PurL.cons (Pur.pure (p := intsV [v])) <| PurL.cons (Pur.pure (p := pktV (leaveO p l [v]).pkt)) <| PurL.cons Pur.pure PurL.nil), rfl⟩
                · rw [if_neg (ff h5)] at hRR
                  subst hRR
                  refine W_rs ?_
                  refine WR_a 1 rfl <| WR_c rfl (drop_can p 1 hps) rfl <| WR_a 6 rfl <| WR_k [6, 7, 8] rfl ?_
                  refine W_ret ?_
                  exact ⟨_, _, ResL.of rfl, Pur.tupleL (PurL.cons (Pur.pure (p := intsV [])) <| PurL.cons (Pur.pure (p := pktV p)) <| PurL.cons Pur.pure PurL.nil), rfl⟩
            · have hs' : s' = [] := by
                cases s' with
                | nil => rfl
                | cons a l => exact absurd (ff h3) (by simp)
              rw [hs'] at hRR
              dsimp only at hRR
              rw [← hs', hv] at hRR
              obtain ⟨K1, hK1, hK1n, hK1p⟩ : ∃ K1, K1 = dropO p 1 ∧ (s'.length = 0 → K1 = dropO p 1) ∧ (0 < s'.length → K1 = K0) := ⟨_, rfl, fun _ => rfl, fun h => absurd h (by rw [hs']; simp)⟩
              rw [← hK1] at hRR
              clear hK1 h3 hs' hv
              refine W_skip ?_
              refine W_seq ?_
              obtain ⟨c11, hc11⟩ : ∃ q, nodeB T v = q := ⟨_, rfl⟩
              have hnc := node_can T v
              rw [hc11] at hnc
              unfold goO at hRR
              have hes : c11 = true → x.ents[v.toNat]? = some (entAt x v) ∧ (entAt x v).push.length ≤ 40 ∧ (entAt x v).arcs.length ≤ 1000 ∧ v < (x.ents.length : Int) ∧ 0 ≤ v := fun h => by
                obtain ⟨k, rfl, g1, g2, g3⟩ := ent_small hc1 (hc11.trans h)
                have := (List.getElem?_eq_some_iff.1 g1).1
                exact ⟨g1, g2, g3, by omega, by omega⟩
              obtain ⟨e, he⟩ : ∃ e, entAt x v = e := ⟨_, rfl⟩
              obtain ⟨c12, hc12⟩ : ∃ q, decide (0 < (e.arcs.length : Int)) = q := ⟨_, rfl⟩
              rw [he] at hes hRR
              rw [hc11, hc12] at hRR
              refine W_seqM (Q1 := fun st => st = ⟨[(143, flag (c11 && c12)), (3, .pin (topoP T) 0), (4, .pin (tabP x) 0), (5, .pin (pktP p) 0), (7, .ptr 0 0), (9, segsV s'), (11, num v)], [some (.cells 74 [num 0, num 0, num 0, num 0, .raw (.slice none 0 0), num 0]), some (.cells 53 [num 1, num n])]⟩) ?_ ?_
              · cases c11
                · refine W_chain (.a 2 rfl <| .c rfl (hnc) rfl <| .a 10 rfl <| .k [143, 3, 4, 5, 7, 9, 11] rfl) ?_
                  rfl
                · refine W_chain (.a 2 rfl <| .c rfl (hnc) rfl <| .a 2 rfl <| .v (y_ld rfl ((rfl : (tabP x)[1]? = some (entsV x.ents)))) rfl <| .a 1 rfl <| .v (y_ix ((v.toNat * 3)) rfl (hes rfl).2.2.2.2 (hes rfl).2.2.2.1) rfl <| .a 1 rfl <| .v (y_ld rfl ((ents_get x.ents v.toNat 0 e (hes rfl).1 (by omega)))) rfl <| .a 1 rfl <| .v (y_q rfl (hc12)) rfl <| .a 1 rfl <| .k [143, 3, 4, 5, 7, 9, 11] rfl) ?_
                  rfl
              rintro _ rfl
              refine W_cond rfl (fun h8 => ?_) (fun h8 => ?_)
              · rw [if_pos h8] at hRR
                obtain ⟨g1, g2, g3, g4, g5⟩ := hes (Bool.and_eq_true_iff.1 h8).1
                subst hRR
                refine W_dfs 12 20 mixed (
                  .val [5] rfl (y_a rfl) rfl rfl <|
                  .val [9] rfl (y_a rfl) rfl rfl <|
                  .val [4] rfl (y_a rfl) rfl rfl <|
                  .val [146] rfl (y_ld rfl ((rfl : (tabP x)[1]? = some (entsV x.ents)))) rfl rfl <|
                  .val [11] rfl (y_a rfl) rfl rfl <|
                  .val [147, 148] rfl (y_ix ((v.toNat * 3)) rfl g5 g4) rfl rfl <|
                  .val [149] rfl (y_la rfl ((ents_drop x.ents v.toNat e g1)) rfl) rfl rfl <|
                  .val [144, 145, 150] rfl (y_c rfl (enter_can p s' e (by omega) g2 g3 hps hh)) rfl rfl <|
                  .val [151] rfl (y_a rfl) rfl rfl <|
                  .val [151] rfl (y_a rfl) rfl rfl <|
                  .val [151] rfl (y_a rfl) rfl rfl <|
                  .val [152] rfl (y_a rfl) rfl rfl <|
                  .nil) (by kernel_rfl) rfl rfl (keepT_sub (ks := [6, 7, 153, 154]) rfl) ?_
                refine WR_a 2 rfl <| WR_k [6, 7, 8] rfl ?_
                refine W_ret ?_
                exact ⟨_, _, ResL.of rfl, Pur.tupleL (PurL.cons (Pur.pure (p := intsV (enterO p s' e).arcs)) <| PurL.cons (Pur.pure (p := pktV (enterO p s' e).pkt)) <| PurL.cons Pur.pure PurL.nil), rfl⟩
              · rw [if_neg (by rw [h8]; simp)] at hRR
                refine W_skip ?_
                refine W_seq ?_
                refine W_cs (.a 3 rfl <| .k [3, 4, 5, 7, 157] rfl) ?_
                refine W_cond rfl (fun h9 => ?_) (fun h9 => ?_)
                · rw [hK1n (by have := tt h9; omega)] at hRR
                  subst hRR
                  refine W_rs ?_
                  refine WR_a 1 rfl <| WR_c rfl (drop_can p 1 hps) rfl <| WR_a 6 rfl <| WR_k [6, 7, 8] rfl ?_
                  refine W_ret ?_
                  exact ⟨_, _, ResL.of rfl, Pur.tupleL (PurL.cons (Pur.pure (p := intsV [])) <| PurL.cons (Pur.pure (p := pktV p)) <| PurL.cons Pur.pure PurL.nil), rfl⟩
                · have hne : 0 < s'.length := by have := ff h9; omega
                  rw [hK1p hne] at hRR
                  refine W_skip ?_
                  refine W_chain (.a 1 rfl <| .k [3, 4, 5, 7, 9] rfl) ?_
                  exact ⟨0, hne, [], _, PLe.nils, by simp, rfl, hRR.symm.trans (hK0.symm.trans rfl), rfl⟩
end PW
end Go.Proofs.YtbpgndbjbaoolaaGreat

/- The law RepairStep, walked. -/
namespace Go.Proofs.YtbpgndbjbaoolaaGreat
set_option linter.unusedVariables false
set_option linter.unusedSimpArgs false
namespace PW
open Go.RowKit Reg Mem Net Rng

/-- What a step may answer where no arc that is down is used. -/
structure OkO (T : Topo) (M : List Bool) (n d : Int) (o : Out) : Prop where
  arcs : ∀ a ∈ o.arcs, arcB T a = true ∧ tailN T a.toNat = n ∧ downN M a.toNat = false
  why : 0 < o.arcs.length ↔ o.why = 0
  dst : o.pkt.dst = d
  len : o.arcs.length ≤ 1000
section
variable {T : Topo} {M : List Bool} {n d : Int}
theorem ok_drop {p : Pkt} (hd : p.dst = d) {r : Int} (hr : r ≠ 0) : OkO T M n d (dropO p r) :=
  ⟨fun a ha => absurd ha (by simp [dropO]), ⟨fun h => absurd h (by simp [dropO]), fun h => absurd h hr⟩, hd, by simp [dropO]⟩
theorem ok_leave {p : Pkt} (hd : p.dst = d) {s : List Seg} {l : List Int} (hp : 0 < l.length) (hl : l.length ≤ 1000) (h : ∀ a ∈ l, arcB T a = true ∧ tailN T a.toNat = n ∧ downN M a.toNat = false) : OkO T M n d (leaveO p s l) :=
  ⟨h, ⟨fun _ => rfl, fun _ => hp⟩, hd, hl⟩
theorem ok_enter {p : Pkt} (hd : p.dst = d) {s : List Seg} {e : Ent} (hp : 0 < e.arcs.length) (hl : e.arcs.length ≤ 1000) (h : ∀ a ∈ e.arcs, arcB T a = true ∧ tailN T a.toNat = n ∧ downN M a.toNat = false) : OkO T M n d (enterO p s e) := by
  unfold enterO
  split
  · split
    · exact ok_drop hd (by decide)
    · exact ok_leave hd hp hl h
  · exact ok_leave hd hp hl h
theorem ok_go {x : Tab} {p : Pkt} (hd : p.dst = d) {s : List Seg} {v : Int} {K : Out} (hx : ∀ v, nodeB T v = true → (∀ a ∈ (entAt x v).arcs, arcB T a = true ∧ tailN T a.toNat = n ∧ downN M a.toNat = false) ∧ (entAt x v).arcs.length ≤ 1000) (hK : OkO T M n d K) : OkO T M n d (goO T x p s v K) := by
  unfold goO
  split
  · rename_i h
    obtain ⟨h1, h2⟩ := Bool.and_eq_true_iff.1 h
    have := of_decide_eq_true h2
    exact ok_enter hd (by omega) (hx v h1).2 (hx v h1).1
  · exact hK
theorem ok_round {x : Tab} {p : Pkt} (hn : x.node = n) (hd : p.dst = d) {s : List Seg} {K : Out} (hx : ∀ v, nodeB T v = true → (∀ a ∈ (entAt x v).arcs, arcB T a = true ∧ tailN T a.toNat = n ∧ downN M a.toNat = false) ∧ (entAt x v).arcs.length ≤ 1000)
    (hw : ∀ a, arcB T a = true → tailN T a.toNat = n → downN M a.toNat = true → a ∈ x.down) (hK : OkO T M n d K) : OkO T M n d (roundO T x p s K) := by
  unfold roundO
  split
  · exact ⟨fun a ha => absurd ha (by simp), ⟨fun h => absurd h (by simp), fun h => absurd h (by simp)⟩, hd, by simp⟩
  · split
    · exact ok_drop hd (by decide)
    · cases s with
      | nil => exact ok_go hd hx (ok_drop hd (by decide))
      | cons a l =>
        dsimp only
        split
        · exact ok_go hd hx hK
        · split
          · split
            · exact ok_drop hd (by decide)
            · rename_i h
              split
              · exact hK
              · rename_i hni
                have h1 : arcB T a.num = true := by
                  cases hb : arcB T a.num with
                  | true => rfl
                  | false => rw [hb] at h; exact absurd rfl h
                have h2 : tailN T a.num.toNat = n := by
                  rw [h1, hn] at h
                  simpa using h
                refine ok_leave hd (by simp) (by simp) fun b hb => ?_
                rw [List.mem_singleton] at hb
                subst hb
                refine ⟨h1, h2, ?_⟩
                cases hdn : downN M a.num.toNat with
                | false => rfl
                | true => exact absurd (hw _ h1 h2 hdn) hni
          · exact ok_drop hd (by decide)
theorem ok_step {x : Tab} {p : Pkt} (hn : x.node = n) (hd : p.dst = d) (hx : ∀ v, nodeB T v = true → (∀ a ∈ (entAt x v).arcs, arcB T a = true ∧ tailN T a.toNat = n ∧ downN M a.toNat = false) ∧ (entAt x v).arcs.length ≤ 1000)
    (hw : ∀ a, arcB T a = true → tailN T a.toNat = n → downN M a.toNat = true → a ∈ x.down) : OkO T M n d (stepO T x p) := by
  unfold stepO
  split
  · exact ok_drop hd (by decide)
  · split
    · exact ok_drop hd (by decide)
    · exact ok_round hn hd hx hw (ok_round hn hd hx hw (ok_drop hd (by decide)))
end
theorem repT_step {T : Topo} {M : List Bool} {n : Nat} (hv : validB T = true) (h12 : T.nodes ≤ 12) (hn : (n : Int) < T.nodes) {p : Pkt} : OkO T M n p.dst (stepO T (repT T M n) p) := by
  refine ok_step rfl rfl (fun v hvn => ⟨fun a ha => ?_, ?_⟩) (fun a h1 h2 h3 => ?_)
  · obtain ⟨v0, v1⟩ := nodeB_iff.1 hvn
    obtain ⟨d, rfl⟩ := Int.eq_ofNat_of_zero_le v0
    have he : entAt (repT T M n) (d : Int) = repX T (ownM T M n) n d := by
      unfold entAt
      rw [Int.toNat_natCast, List.getD_eq_getElem?_getD]
      show (repL T (ownM T M n) n T.nodes.toNat)[d]?.getD entD = _
      rw [repL_get (by omega)]
      rfl
    rw [he] at ha
    exact rep_arcs hv hn v1 a ha
  · obtain ⟨k, _, _, _, h⟩ := ent_small (rep_valid (M := M) hv h12 hn) hvn
    exact h
  · exact List.mem_filter.2 ⟨outL_iff.2 ⟨h1, h2⟩, h3⟩
set_option maxRecDepth 10000 in
set_option maxHeartbeats 1000000 in
theorem lawRStep_can (c : Q29) (l : List Seg) : Can Tryz.prog 13 [q29V c, segsV l] (· = flag true) := by
  obtain ⟨w1, hw1⟩ : ∃ q, q = true := ⟨_, rfl⟩
  have haw : Can Tryz.prog 33 [] (· = flag w1) := hw1 ▸ awake29_can
  obtain ⟨w2, hw2⟩ : ∃ q, tooBig c.T = q := ⟨_, rfl⟩
  obtain ⟨w3, hw3⟩ : ∃ q, decide (40 < (l.length : Int)) = q := ⟨_, rfl⟩
  refine can_of Tryz.func13 rfl Tryz.ntmps13 rfl ?_
  refine W_cs (.a 2 rfl <| .k [1, 2] rfl) ?_
  refine W_seq ?_
  refine W_csK 25 (.raw (.bool (((!w1) || w2) || w3))) [1, 2] rfl ?_ ?_
  · refine .c rfl (haw) rfl <| .a 2 rfl <| ?_
    cases w1
    · exact .a 9 rfl <| .k [25, 1, 2] rfl
    · refine .a 2 rfl <| .c rfl (hw2 ▸ large29_can c.T) rfl <| .a 2 rfl <| ?_
      cases w2
      · exact .a 2 rfl <| .v (y_q rfl (hw3)) rfl <| .a 1 rfl <| .k [25, 1, 2] rfl
      · exact .a 4 rfl <| .k [25, 1, 2] rfl
  refine W_cond rfl (fun hc => ?_) (fun hc => ?_)
  · skip
    refine W_cs (.c rfl (awake29_can) rfl <| .a 1 rfl <| .k [4] rfl) ?_
    refine W_ret ?_
    exact ⟨_, _, ResL.of rfl, Pur.pure, rfl⟩
  · have hall : w2 = false ∧ w3 = false := by cases w2 <;> cases w3 <;> simp at hc ⊢
    obtain ⟨rfl, rfl⟩ := hall
    obtain ⟨s1, s2⟩ := not_big hw2
    have hl40 := ff hw3
    have hA := prtab_can c.T c.k c.x c.n s1
    have he1 : (if maskE c.T c.k c.x = 0 then (if nodeB c.T c.n = true then (0 : Int) else 2) else 1) = trnE c.T c.k c.x c.n := rfl
    rw [he1] at hA
    unfold tabE at hA
    obtain ⟨e, he⟩ : ∃ e, trnE c.T c.k c.x c.n = e := ⟨_, rfl⟩
    rw [he] at hA
    obtain ⟨tA, htA⟩ : ∃ x, (if e = 0 then repT c.T (maskL c.T c.k c.x) c.n.toNat else ⟨0, [], []⟩) = x := ⟨_, rfl⟩
    rw [htA] at hA
    clear hw1 hw3 haw hc
    refine W_skip ?_
    refine W_rs ?_
    refine WR_a 6 rfl <| WR_c rfl (hA) rfl <| WR_a 6 rfl <| WR_k [1, 2, 5, 6] rfl ?_
    refine W_seq ?_
    refine W_cs (.a 2 rfl <| .k [1, 2, 5, 38] rfl) ?_
    refine W_cond rfl (fun h1 => ?_) (fun h1 => ?_)
    · skip
      refine W_cs (.a 1 rfl <| .k [4] rfl) ?_
      refine W_ret ?_
      exact ⟨_, _, ResL.of rfl, Pur.pure, rfl⟩
    · have he0 : e = 0 := Classical.byContradiction (ff h1)
      subst he0
      rw [if_pos rfl] at htA
      obtain ⟨hm, hn⟩ := trnE_zero he
      obtain ⟨hv, hcp⟩ := Bool.and_eq_true_iff.1 hm
      rw [nodeB_iff] at hn
      obtain ⟨m, hm'⟩ := Int.eq_ofNat_of_zero_le hn.1
      rw [hm', Int.toNat_natCast] at htA
      have hmN : (m : Int) < c.T.nodes := by omega
      have hmk := rmask_can c.T c.k c.x
      have hm0 : maskE c.T c.k c.x = 0 := by unfold maskE; rw [if_pos hm]
      unfold boolsE at hmk
      rw [hm0, if_pos rfl] at hmk
      have hMl := maskL_len c.T c.k c.x
      obtain ⟨M, hM⟩ : ∃ M, maskL c.T c.k c.x = M := ⟨_, rfl⟩
      rw [hM] at hmk hMl htA
      have hok := repT_step (T := c.T) (M := M) (n := m) hv s1 hmN (p := ⟨0, c.n, c.d, 0, l, 0⟩)
      rw [htA] at hok
      have hst := step_can c.T tA ⟨0, c.n, c.d, 0, l, 0⟩ (show l.length ≤ 1000 by omega)
      obtain ⟨o, ho⟩ : ∃ o, stepO c.T tA ⟨0, c.n, c.d, 0, l, 0⟩ = o := ⟨_, rfl⟩
      rw [ho] at hok hst
      obtain ⟨arcs, pk, why⟩ := o
      obtain ⟨k1, k2, k3, k4⟩ := hok
      dsimp only at k1 k2 k3 k4
      clear h1 hA hm hn ho htA he hM
      refine W_skip ?_
      refine W_cs (.a 4 rfl <| .c rfl (hmk) rfl <| .a 5 rfl <| .k [1, 2, 5, 7] rfl) ?_
      refine W_rs ?_
      refine WR_a 9 rfl <| WR_c rfl (hst) rfl <| WR_a 8 rfl <| WR_k [2, 7, 9, 10, 11] rfl ?_
      refine W_seq ?_
      refine W_cs (.a 3 rfl <| .k [2, 7, 9, 10, 11, 61, 62, 63] rfl) ?_
      refine W_block ?_
      refine W_k [2, 7, 9, 10, 11, 61, 62, 63] rfl ?_
      refine W_loop (fun r s => ∃ i, i ≤ arcs.length ∧ r = arcs.length - i ∧ s = ⟨[(2, .pin (q29P c) 0), (7, boolsV M), (9, intsV arcs), (10, .ptr 1 0), (11, num why), (61, intsV arcs), (62, num arcs.length), (63, num i)], [some (.cells 35 (tabP tA)), some (.cells 74 (pktP pk))]⟩) arcs.length ⟨0, by omega, by omega, rfl⟩ ?_
      rintro r s ⟨i, hi, rfl, rfl⟩
      refine W_cs (.a 1 rfl <| .k [2, 7, 9, 10, 11, 61, 62, 63, 64] rfl) ?_
      refine W_seq ?_
      refine W_cond rfl (fun h2 => ?_) (fun h2 => ?_)
      · have hli : i < arcs.length := by have := tt h2; omega
        obtain ⟨b1, b2, b3⟩ := k1 _ (getD_mem (d := 0) hli)
        obtain ⟨k, hk⟩ := Int.eq_ofNat_of_zero_le (arcB_iff.1 b1).1
        rw [hk] at b1 b2
        rw [hk, Int.toNat_natCast] at b3
        have b4 := arcB_iff.1 b1
        refine W_skip ?_
        refine W_seq ?_
        refine W_block ?_
        refine W_cs (.v (y_ix (i) rfl) rfl <| .v (y_ld rfl ((ints_get _ i hli).trans (by rw [hk]))) rfl <| .a 1 rfl <| .k [2, 7, 9, 10, 11, 13, 61, 62, 63] rfl) ?_
        refine W_drsK mixed (by kernel_rfl) 79 (.raw (.bool (false))) [2, 7, 9, 10, 11, 61, 62, 63] rfl ?_ ?_
        · exact .a 2 rfl <| .v [67, 68] (y_c rfl (rup_yes (.inr (by omega)) b3)) rfl rfl <| .a 5 rfl <| .v [73, 74] (y_c rfl ((b2.trans hm'.symm) ▸ rtailI_can c.T hv (k : Int) b1)) rfl rfl <| .a 2 rfl <| .v [75, 77] (y_q rfl (show decide (c.n ≠ c.n) = false by simp)) rfl rfl <| .a 1 rfl <| .k [79, 2, 7, 9, 10, 11, 61, 62, 63] rfl
        refine W_cond rfl (fun h3 => ?_) (fun h3 => ?_)
        · exact absurd h3 (by decide)
        · clear h3
          refine W_skip ?_
          refine W_chain (.v (y_ar rfl) rfl <| .a 1 rfl <| .k [2, 7, 9, 10, 11, 61, 62, 63] rfl) ?_
          exact ⟨arcs.length - (i + 1), by omega, i + 1, by omega, rfl, rfl⟩
      · clear h2
        refine W_exit ?_
        obtain ⟨g1, hg1⟩ : ∃ q, decide (0 < (arcs.length : Int)) = q := ⟨_, rfl⟩
        obtain ⟨g2, hg2⟩ : ∃ q, decide (why = 0) = q := ⟨_, rfl⟩
        have hg : (g1 == g2) = true := by
          rw [beq_iff_eq, ← hg1, ← hg2]
          exact decide_eq_decide.2 (Iff.trans (by omega) k2)
        refine W_csK 4 (.raw (.bool (true))) [] rfl ?_ ?_
        · exact .a 2 rfl <| .v (y_q rfl (hg1)) rfl <| .a 1 rfl <| .v (y_q rfl (hg2)) rfl <| .v (y_q rfl hg) rfl <| .a 2 rfl <| .v (y_ld rfl ((show (pktP pk)[2]? = some (num c.d) by rw [← k3]; rfl))) rfl <| .a 2 rfl <| .v (y_q rfl (show decide (c.d = c.d) = true by simp)) rfl <| .a 2 rfl <| .k [4] rfl
        refine W_ret ?_
        exact ⟨_, _, ResL.of rfl, Pur.pure, rfl⟩
end PW
end Go.Proofs.YtbpgndbjbaoolaaGreat

namespace Go.Proofs.YtbpgndbjbaoolaaGreat.repairStep
set_option linter.unusedVariables false
set_option linter.unusedSimpArgs false
open Go.ChangeShapes Go.WideShapes Go.ChangeAt Go.RowKit
open Reg Mem PW

set_option maxRecDepth 10000 in
theorem rd_list {H : Type} {enc : TypeId × Value → H} {W : World} {base : Nat} {v : Value} {d : DataW H} {p : List MemPlace} (hv : Value.okWide Tryz.prog W .any base 45 v) (h : DataW.Trod enc Tryz.prog W 0 (fun _ => true) true 45 v d p) : ∃ l, Rep EN W v (segsV l) := by
  obtain ⟨a, len, cap, rfl⟩ := okWide_slice Tryz.underlying45 hv
  obtain ⟨fuel, hf⟩ := h
  exact rd_segs hf
set_option maxRecDepth 100000 in
theorem lifted (os : Os) (started : os.Started) (H : Type) (enc : TypeId × Value → H) :
    ReturnsInHanded {} Tryz.checked os 13 .any (Rows.repairStepSpec.pre6 enc Tryz.prog Tryz.f13 Rows.repairStepRow.domain false) (Rows.repairStepSpec.post enc Tryz.prog Tryz.f13 false true false false) := by
  refine returnsInHanded_of_change (C := Tryz.checked) own started (by kernel_rfl) Tryz.func13
    (ChangeSpec.witness6 (enc := enc) (C := Tryz.checked) false ⟨#[], #[.agg #[.int .i64 0, .slice none 0 0, .slice none 0 0, .int .i64 0, .int .i64 0, .int .i64 0, .int .i64 0], .slice none 0 0], []⟩ 8 (by kernel_rfl) (by kernel_rfl) (by kernel_rfl) (by kernel_rfl)) ?_
  intro W base args ds gs before hval0 hW hcnd _
  have hval : ∀ (j : Nat) t v, Tryz.f13.params[j]? = some t → args[j]? = some v → Value.okWide Tryz.prog W .any base t v := hval0
  have hW' := hW
  obtain ⟨p, q, hA0, hV, rfl, hfz, hnd⟩ := hW
  have hA : DataW.TrodAll enc Tryz.prog W 0 (fun _ => true) true Tryz.f13.params.toList args.toList ds p := hA0
  rw [Tryz.params13] at hA hval
  obtain ⟨v0, vs0, d0, ds0, p0, q0, hargs, rfl, rfl, h0, r0⟩ := trodAll_cons hA
  obtain ⟨v1, vs1, d1, ds1, p1, q1, rfl, rfl, rfl, h1, r1⟩ := trodAll_cons r0
  obtain ⟨rfl, rfl, rfl⟩ := trodAll_nil r1
  obtain rfl : args = #[v0, v1] := by cases args; simp_all
  obtain ⟨rfl, rfl⟩ := trodVars_none hV
  have lt0 := lt_of h0
  obtain ⟨c, R0⟩ := rd_q29 (hval 0 58 v0 rfl rfl) h0
  have lt1 := lt_of h1
  obtain ⟨l, R1⟩ := rd_list (hval 1 45 v1 rfl rfl) h1
  clear hA0 hval0
  refine ((lawRStep_can c l) (fun _ => False) W #[v0, v1] (fun _ h => h.elim) (noGlob _ W) (RepL.cons R0 (RepL.cons R1 (RepL.nil _ _)))).mono fun e W' ⟨x, he, bel, r, hr, hx⟩ => ?_
  subst hr
  cases hx
  subst he
  exact ⟨_, rfl, _, _, _, [], _, [], hW', trodAll_mk1 (shut_bool Tryz.underlying4 _), (trodAll_cons_mk (Below.trod laidOut (by kernel_rfl) (of_decide_eq_true (by kernel_rfl)) h0 bel lt0) (trodAll_cons_mk (Below.trod laidOut (by kernel_rfl) (of_decide_eq_true (by kernel_rfl)) h1 bel lt1) trodAll_mk0)), rfl, bel.frame _, fun h => by cases h⟩

theorem over : Rows.repairStepRow.holds Tryz.pinned (OpenSpec.ofChange Rows.repairStepSpec) :=
  OpenClaim.holds_of_wide 13 Tryz.f13 rfl rfl rfl rfl rfl rfl rfl ⟨rfl, rfl, rfl, rfl, rfl⟩ rfl rfl rfl rfl rfl (by kernel_rfl) Tryz.func13 (by kernel_rfl)
    (of_decide_eq_true (by kernel_rfl)) (by unfold Func.isWrapper; first | (rw [if_pos (by decide +kernel)]; kernel_rfl) | (rw [if_neg (by decide +kernel)]; exact ⟨rfl, rfl⟩))
    (fun os started H enc _ => lifted os started H enc)

theorem proved : Rows.RepairStepSaid := over
end Go.Proofs.YtbpgndbjbaoolaaGreat.repairStep
