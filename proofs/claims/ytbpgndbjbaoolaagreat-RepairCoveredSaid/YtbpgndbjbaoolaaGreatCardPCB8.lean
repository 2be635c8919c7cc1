/- Texts of the proof, part 8. -/
import Derived.MapKept
import Derived.Scope
import Derived.Lib.SliceRun
import Derived.ChangeKeysEq
import Derived.Test.YtbpgndbjbaoolaaGreatCardPCB7
/- The first shortest path: package spf's Path, the reference's. -/
namespace Go.Proofs.YtbpgndbjbaoolaaGreat
set_option linter.unusedVariables false
set_option linter.unusedSimpArgs false
namespace PW
open Go.RowKit Reg Mem Net

theorem rows_out (T : Topo) (m : Nat) (hm : m < T.nodes.toNat) : (rowsL (tailN T) T.nodes.toNat (2 * T.links.length)).getD m [] = outL T m := by
  rw [rowsL_get _ _ _ _ hm]
  unfold outL outTo
  exact congrArg (List.map Int.ofNat) (List.filter_congr fun a _ => Bool.eq_iff_iff.2 (by simp))
theorem rows_getP (rs : List (List Int)) (i : Nat) (h : i < rs.length) : (rs.map intsV)[i]? = some (intsV (rs.getD i [])) := by simp [h]
theorem chk_two (T : Topo) (D : List Bool) (s d : Int) : chkE T D [s, d] = nodeE T D s d := by
  unfold nodeE chkE
  by_cases h : (validB T && fitsB T D) = true
  · rw [if_pos h]
    by_cases hs : nodeB T s = true <;> by_cases hd : nodeB T d = true <;> simp [h, hs, hd]
  · rw [if_neg h]
    have : (validB T && fitsB T D) = false := by simpa using h
    simp [this]
noncomputable def spE (T : Topo) (D : List Bool) (s d : Int) : Int := if nodeE T D s d = 0 then (if dN T D d.toNat s.toNat < 0 then 11 else 0) else nodeE T D s d
/-- The first arc that passes. -/
theorem next_first {T : Topo} {D : List Bool} {m d j : Nat} (hne : m ≠ d) (h0 : 0 ≤ dN T D d m) (hj : j < (outL T m).length) (hno : ∀ i, i < j → passB T D (distL T D d false) (dN T D d m) d ((outL T m).getD i 0).toNat = false) (hy : passB T D (distL T D d false) (dN T D d m) d ((outL T m).getD j 0).toNat = true) : ∃ l, nextL T D m d = (outL T m).getD j 0 :: l := by
  unfold nextL
  rw [if_neg (by rintro (h | h); exact hne h; exact absurd h (by show ¬ dN T D d m < 0; omega))]
  have h1 : ((outL T m).take j).filter (fun a => passB T D (distL T D d false) (dN T D d m) d a.toNat) = [] := by
    rw [List.filter_eq_nil_iff]
    intro a ha
    obtain ⟨i, hi, rfl⟩ := List.getElem_of_mem ha
    have hij : i < j := by rw [List.length_take] at hi; omega
    have := hno i hij
    rw [List.getD_eq_getElem?_getD, List.getElem?_eq_getElem (by omega), Option.getD_some] at this
    rw [List.getElem_take, this]
    simp
  have hs : outL T m = (outL T m).take j ++ (outL T m).getD j 0 :: (outL T m).drop (j + 1) := by rw [← drop_cons _ _ hj, List.take_append_drop]
  have h2 : (outL T m).filter (fun a : Int => passB T D (distL T D d false) (dN T D d m) d a.toNat) = (outL T m).getD j 0 :: ((outL T m).drop (j + 1)).filter (fun a : Int => passB T D (distL T D d false) (dN T D d m) d a.toNat) := by
    refine (congrArg (List.filter fun a : Int => passB T D (distL T D d false) (dN T D d m) d a.toNat) hs).trans ?_
    rw [List.filter_append, h1, List.nil_append, List.filter_cons, if_pos hy]
  exact ⟨_, h2⟩
theorem first_step {T : Topo} {D : List Bool} {m d f : Nat} {a : Int} {l : List Int} (h : nextL T D m d = a :: l) : firstP T D d (f + 1) m = a :: firstP T D d f (headN T a.toNat).toNat := by simp only [firstP, h]
theorem next_has {T : Topo} {D : List Bool} (hv : validB T = true) {m d : Nat} (hm : (m : Int) < T.nodes) (hd : (d : Int) < T.nodes) (hne : m ≠ d) (h0 : 0 ≤ dN T D d m) (hno : ∀ i, i < (outL T m).length → passB T D (distL T D d false) (dN T D d m) d ((outL T m).getD i 0).toNat = false) : False := by
  obtain ⟨k, hk⟩ := next_ex (D := D) hv hm hd hne h0
  have := next_of hk ((sound_of hv).cost k hk.arc).1
  unfold nextL at this
  rw [if_neg (by rintro (h | h); exact hne h; exact absurd h (by show ¬ dN T D d m < 0; omega))] at this
  obtain ⟨h1, h2⟩ := List.mem_filter.1 this
  obtain ⟨i, hi, he⟩ := List.getElem_of_mem h1
  have h3 := hno i hi
  rw [List.getD_eq_getElem?_getD, List.getElem?_eq_getElem hi, Option.getD_some, he] at h3
  have h2' : passB T D (distL T D d false) (dN T D d m) d (k : Int).toNat = true := h2
  rw [h3] at h2'
  cases h2'
set_option maxRecDepth 10000 in
set_option maxHeartbeats 2000000 in
theorem spath_can (T : Topo) (D : List Bool) (s d : Int) : Can Tryz.prog 146 [topoV T, boolsV D, num s, num d] (· = intsE (spE T D s d) (spathL T D s.toNat d.toNat)) := by
  have hch := check_can T D [s, d] (by simp)
  rw [chk_two] at hch
  refine can_of Tryz.func146 rfl Tryz.ntmps146 rfl ?_
  refine W_cs (.a 3 rfl <| .k [1, 2, 3, 4] rfl) ?_
  refine W_seq ?_
  refine W_cs (.a 5 rfl <| .c rfl (hch) rfl <| .a 1 rfl <| .k [1, 2, 3, 4, 10] rfl) ?_
  refine W_cs (.a 2 rfl <| .k [1, 2, 3, 4, 10, 26] rfl) ?_
  refine W_cond rfl (fun hc => ?_) (fun hc => ?_)
  · have he : nodeE T D s d ≠ 0 := tt hc
    refine W_cs (.a 3 rfl <| .k [8, 9] rfl) ?_
    refine W_ret ?_
    exact ⟨_, _, ResL.of rfl, Pur.tupleL (PurL.cons Pur.nils (PurL.cons Pur.pure PurL.nil)), by unfold intsE spE; rw [if_neg he, if_neg he]; rfl⟩
  · have he : nodeE T D s d = 0 := Classical.byContradiction (ff hc)
    obtain ⟨hv, hf, hns, hnd⟩ := nodeE_zero he
    obtain ⟨hs0, hs1⟩ := nodeB_iff.1 hns
    obtain ⟨hd0, hd1⟩ := nodeB_iff.1 hnd
    obtain ⟨s, rfl⟩ := Int.eq_ofNat_of_zero_le hs0
    obtain ⟨d, rfl⟩ := Int.eq_ofNat_of_zero_le hd0
    have hdi : Can Tryz.prog 163 [topoV T, boolsV D, num d] (· = .tuple [intsV (distL T D d false), num 0]) := by
      have h := dist_can T D (d : Int)
      rw [show chkE T D [(d : Int)] = 0 by unfold nodeE at he; split at he; assumption; assumption] at h
      exact h
    have hS := sound_of hv
    have hN := hS.nodes
    have hll := links_le hv
    obtain ⟨hb1, hb2⟩ := distL_bound (D := D) hv (dir := false) hd1
    refine W_skip ?_
    refine W_cs (.a 3 rfl <| .c rfl (hdi) rfl <| .a 5 rfl <| .k [1, 2, 3, 4, 11] rfl) ?_
    refine W_seq ?_
    refine W_cs (.a 2 rfl <| .v (y_ix (s) rfl) rfl <| .v (y_ld rfl (ints_get _ s (by omega))) rfl <| .a 1 rfl <| .k [1, 2, 3, 4, 11, 39] rfl) ?_
    refine W_cond rfl (fun hc => ?_) (fun hc => ?_)
    · have h0 : dN T D d s < 0 := tt hc
      refine W_cs (.a 2 rfl <| .k [8, 9] rfl) ?_
      refine W_ret ?_
      exact ⟨_, _, ResL.of rfl, Pur.tupleL (PurL.cons Pur.nils (PurL.cons Pur.pure PurL.nil)), by unfold intsE spE; simp only [Int.toNat_natCast]; rw [if_pos he, if_pos h0]; rfl⟩
    · have h0 : 0 ≤ dN T D d s := by have := ff hc; show 0 ≤ (distL T D d false).getD s 0; omega
      have hE : spE T D (s : Int) (d : Int) = 0 := by unfold spE; simp only [Int.toNat_natCast]; rw [if_pos he, if_neg (by omega)]
      rw [hE]
      refine W_skip ?_
      refine W_cs (.a 1 rfl <| .c rfl (leaving_can T hv) rfl <| .a 1 rfl <| .k [1, 2, 3, 4, 11, 13] rfl) ?_
      refine W_cs (.a 1 rfl <| .k [1, 2, 3, 4, 11, 13, 14] rfl) ?_
      refine W_adopt 14 3 1 rfl ?_
      refine W_seq ?_
      refine W_cs (.a 2 rfl <| .k [1, 3, 4, 11, 13, 14, 15] rfl) ?_
      refine W_block ?_
      refine W_k [1, 3, 4, 11, 13, 14, 15] rfl ?_
      refine W_loop (fun r st => ∃ (p : List Int) (m f : Nat), (m : Int) < T.nodes ∧ 0 ≤ dN T D d m ∧ dN T D d m ≤ f ∧ r = (dN T D d m).toNat ∧ (p.length : Int) + dN T D d m ≤ dN T D d s ∧ spathL T D s d = p ++ firstP T D d f m ∧ st = ⟨[(1, boolsV D), (3, num d), (4, .pin (topoP T) 0), (11, intsV (distL T D d false)), (13, rowsV (rowsL (tailN T) T.nodes.toNat (2 * T.links.length))), (14, .own 0), (15, num m)], [some (.row 3 1 p.length (intsP p))]⟩) (dN T D d s).toNat ⟨[], s, (dN T D d s).toNat, hs1, h0, by omega, rfl, by simp, rfl, rfl⟩ ?_
      rintro r st ⟨p, m, f, hm, hm0, hmf, rfl, hpl, hp, rfl⟩
      refine W_seq ?_
      refine W_cs (.a 3 rfl <| .k [1, 3, 4, 11, 13, 14, 15, 45] rfl) ?_
      refine W_cond rfl (fun hy => ?_) (fun hy => ?_)
      · have hne : m ≠ d := by have := tt hy; omega
        have hml : m < (distL T D d false).length := by omega
        have hrow := rows_out T m (by omega)
        have hbnd := (dN_ge (D := D) hv hd1 hs1).2
        have hol : (outL T m).length ≤ 512 := Nat.le_trans (outTo_len T m _) (by omega)
        refine W_skip ?_
        refine W_block ?_
        refine W_cs (.a 2 rfl <| .v (y_ix (m) rfl (by omega) (by rw [rowsL_len]; omega)) rfl <| .v (y_ld rfl ((rows_getP _ m (by rw [rowsL_len]; omega)).trans (by rw [hrow]))) rfl <| .a 2 rfl <| .k [1, 3, 4, 11, 13, 14, 15, 49, 50, 51] rfl) ?_
        refine W_block ?_
        refine W_k [1, 3, 4, 11, 13, 14, 15, 49, 50, 51] rfl ?_
        refine W_loop (fun r st => ∃ j : Nat, j ≤ (outL T m).length ∧ r = (outL T m).length - j ∧ (∀ i, i < j → passB T D (distL T D d false) (dN T D d m) d ((outL T m).getD i 0).toNat = false) ∧ st = ⟨[(1, boolsV D), (3, num d), (4, .pin (topoP T) 0), (11, intsV (distL T D d false)), (13, rowsV (rowsL (tailN T) T.nodes.toNat (2 * T.links.length))), (14, .own 0), (15, num m), (49, intsV (outL T m)), (50, num (outL T m).length), (51, num j)], [some (.row 3 1 p.length (intsP p))]⟩) (outL T m).length ⟨0, by omega, by omega, fun i hi => by omega, rfl⟩ ?_
        rintro r st ⟨j, hj, rfl, hno, rfl⟩
        refine W_cs (.a 1 rfl <| .k [1, 3, 4, 11, 13, 14, 15, 49, 50, 51, 52] rfl) ?_
        refine W_seq ?_
        refine W_cond rfl (fun hz => ?_) (fun hz => ?_)
        · have hlt : j < (outL T m).length := by have := tt hz; omega
          obtain ⟨ha0, ha1⟩ := outL_mem (getD_mem (d := 0) hlt)
          obtain ⟨a, ha⟩ := Int.eq_ofNat_of_zero_le ha0
          have ham : a < 2 * T.links.length := by omega
          obtain ⟨y, hyh, hyN⟩ := head_nat hv ham
          have hyl : y < (distL T D d false).length := by omega
          have hh := head_can T a ham (by omega)
          rw [hyh] at hh
          have hD : D.length = 0 ∨ a < D.length := by simp only [fitsB, decide_eq_true_eq] at hf; omega
          obtain ⟨p1, hp1⟩ : ∃ q, downN D a = q := ⟨_, rfl⟩
          obtain ⟨p2, hp2⟩ : ∃ q, decide ((distL T D d false).getD y 0 < 0) = q := ⟨_, rfl⟩
          obtain ⟨p3, hp3⟩ : ∃ q, decide ((y : Int) ≠ (d : Int)) = q := ⟨_, rfl⟩
          obtain ⟨p4, hp4⟩ : ∃ q, overN T y = q := ⟨_, rfl⟩
          have hpass : ∀ b, passB T D (distL T D d false) (dN T D d m) d ((outL T m).getD j 0).toNat = b ↔ (!((p1 || p2) || (p3 && p4)) && decide ((distL T D d false).getD y 0 + costN T a = dN T D d m)) = b := fun b => by
            unfold passB
            rw [ha, Int.toNat_natCast, hyh, Int.toNat_natCast, hp1, hp2, hp3, hp4]
          refine W_skip ?_
          refine W_seq ?_
          refine W_block ?_
          refine W_cs (.v (y_ix (j) rfl) rfl <| .v (y_ld rfl ((ints_get _ j hlt).trans (by rw [ha]))) rfl <| .a 1 rfl <| .k [1, 3, 4, 11, 13, 14, 15, 17, 49, 50, 51] rfl) ?_
          refine W_cs (.a 2 rfl <| .c rfl (hh) rfl <| .a 1 rfl <| .k [1, 3, 4, 11, 13, 14, 15, 17, 18, 49, 50, 51] rfl) ?_
          refine W_seq ?_
          refine W_csK 77 (.raw (.bool ((p1 || p2) || (p3 && p4)))) [1, 3, 4, 11, 13, 14, 15, 17, 18, 49, 50, 51] rfl ?_ ?_
          · refine .a 2 rfl <| .c rfl (hp1 ▸ down_can D a hD) rfl <| .a 1 rfl <| ?_
            cases p1
            · refine .a 2 rfl <| .v (y_ix (y) rfl) rfl <| .v (y_ld rfl (ints_get _ y hyl)) rfl <| .v (y_q rfl (hp2)) rfl <| .a 2 rfl <| ?_
              cases p2
              · refine .a 2 rfl <| .v (y_q rfl (hp3)) rfl <| .a 1 rfl <| ?_
                cases p3
                · exact .a 5 rfl <| .k [77, 1, 3, 4, 11, 13, 14, 15, 17, 18, 49, 50, 51] rfl
                · exact .a 2 rfl <| .c rfl (hp4 ▸ over_can T y (over_ln hv hyN)) rfl <| .a 2 rfl <| .k [77, 1, 3, 4, 11, 13, 14, 15, 17, 18, 49, 50, 51] rfl
              · exact .a 9 rfl <| .k [77, 1, 3, 4, 11, 13, 14, 15, 17, 18, 49, 50, 51] rfl
            · exact .a 16 rfl <| .k [77, 1, 3, 4, 11, 13, 14, 15, 17, 18, 49, 50, 51] rfl
          refine W_cond rfl (fun hk => ?_) (fun hk => ?_)
          · have hnp := (hpass false).2 (by rw [hk]; rfl)
            refine W_exit ?_
            refine W_chain (.v (y_ar rfl) rfl <| .a 1 rfl <| .k [1, 3, 4, 11, 13, 14, 15, 49, 50, 51] rfl) ?_
            refine ⟨(outL T m).length - (j + 1), by omega, j + 1, by omega, rfl, fun i hi => ?_, rfl⟩
            by_cases h : i = j
            · rw [h]; exact hnp
            · exact hno i (by omega)
          · skip
            refine W_skip ?_
            have hy4 := hb2 _ (getD_mem (d := 0) hyl)
            have hc4 := hS.cost a ham
            refine W_drs mixed (by kernel_rfl) (.a 2 rfl <| .v [78, 79] (y_ix (y) rfl) rfl rfl <| .v [80] (y_ld rfl (ints_get _ y hyl)) rfl rfl <| .a 2 rfl <| .v [82, 83] (y_c rfl (cost_can T a ham)) rfl rfl <| .v [81, 84] (y_ar rfl (hn := by unfold In64; omega)) rfl rfl <| .a 2 rfl <| .v [86, 87] (y_ix (m) rfl) rfl rfl <| .v [88] (y_ld rfl (ints_get _ m hml)) rfl rfl <| .a 1 rfl <| .k [1, 3, 4, 11, 13, 14, 15, 17, 18, 49, 50, 51, 90] rfl) ?_
            refine W_cond rfl (fun hq => ?_) (fun hq => ?_)
            · have hyes := (hpass true).2 (by rw [hk]; exact decide_eq_true (tt hq))
              obtain ⟨l, hl⟩ := next_first hne hm0 hlt hno hyes
              obtain ⟨b, hb, hbn⟩ := next_mem (T := T) (D := D) (n := m) (d := d) (a := (outL T m).getD j 0) (by rw [hl]; simp)
              have hba : b = a := by omega
              subst hba
              have hdy := hbn.dN hyh
              refine W_rs ?_
              refine WR_a 3 rfl <| WR_l (l_append rfl (fok.rk.get rfl) rfl rfl rfl rfl (by unfold maxLen; omega)) rfl <| WR_a 1 rfl ?_
              refine WR_ren [1] (.c 1 <| .c 3 <| .c 4 <| .c 11 <| .c 13 <| .c 14 <| .c 18 <| .nil) (.kept rfl (.rowP rfl (intsP_snoc _ _)) <| .nil) rfl rfl (WR_nil ?_)
              refine W_cs (.a 2 rfl <| .k [1, 3, 4, 11, 13, 14, 15] rfl) ?_
              refine W_exit ?_
              cases f with
              | zero => omega
              | succ f =>
                refine ⟨(dN T D d y).toNat, by omega, p ++ [(b : Int)], y, f, hyN, hdy.1, by omega, rfl, by simp; omega, ?_, by simp⟩
                rw [hp, first_step hl, ha, Int.toNat_natCast, hyh, Int.toNat_natCast, List.append_assoc]
                rfl
            · have hnp := (hpass false).2 (by rw [hk, Bool.and_eq_false_iff]; exact .inr (decide_eq_false (ff hq)))
              refine W_skip ?_
              refine W_chain (.v (y_ar rfl) rfl <| .a 1 rfl <| .k [1, 3, 4, 11, 13, 14, 15, 49, 50, 51] rfl) ?_
              refine ⟨(outL T m).length - (j + 1), by omega, j + 1, by omega, rfl, fun i hi => ?_, rfl⟩
              by_cases h : i = j
              · rw [h]; exact hnp
              · exact hno i (by omega)
        · exact absurd (next_has hv hm hd1 hne hm0 (fun i hi => hno i (by have := ff hz; omega))) (fun h => h)
      · have hmd : m = d := by have := ff hy; omega
        subst hmd
        have hfin : firstP T D m f m = [] := by cases f with | zero => rfl | succ f => simp only [firstP, next_self]
        rw [hfin, List.append_nil] at hp
        refine W_exit ?_
        refine W_cs (.a 3 rfl <| .k [8, 9] rfl) ?_
        refine W_ret ?_
        exact ⟨_, _, ResL.of rfl, Pur.tupleL (PurL.cons (Pur.ownL rfl PurL.pure) (PurL.cons Pur.pure PurL.nil)), by unfold intsE; rw [if_pos rfl]; simp only [Int.toNat_natCast]; rw [hp]; rfl⟩
theorem next_sorted (T : Topo) (D : List Bool) (m d : Nat) : (nextL T D m d).Pairwise (· < ·) := by
  unfold nextL
  split
  · exact List.Pairwise.nil
  · exact (outL_sorted T m).filter _
end PW
end Go.Proofs.YtbpgndbjbaoolaaGreat

/- The library's sort of at most twelve numbers by a function, at package dag's order. -/
namespace Go.Proofs.YtbpgndbjbaoolaaGreat
set_option linter.unusedVariables false
set_option linter.unusedSimpArgs false
namespace PW
open Go.RowKit Reg Mem Net

section
variable {P : Program} {σ : Sto} {t : Tms} {o : Oper}
/-- A conversion of whole numbers. -/
theorem y_conv {src dst : TypeId} {x : Operand} {k k' : IntKind} {a c : Int} {ty : TypeDesc} (ho : o.op = .convert src dst x) (hs : P.underlying src = some ty) (hd : P.underlying dst = some (.int k')) (hx : evalO t x = some (.raw (.int k a))) (hc : k'.wrap a = c) : Yield P σ t o (.raw (.int k' c)) := by
  intro F base E ρ w hρ _ hT
  have h1 := evalO_rep hρ hT hx
  generalize hz : ρ x = z at h1
  cases h1
  have h2 : (convert src dst (.int k a)).run P w = .ok (.int k' c) w := by
    simp [convert, Sem.run_bind, run_underlying hs, run_underlying hd, Conv.intToInt, hc]
  simp only [execOp, ho, hz, Sem.run_bind, h2]
  exact upon_val (.raw _)
theorem y_strIx {ty : TypeId} {x ix : Operand} {s : ByteArray} {k : IntKind} {i : Nat} {c : UInt8} (ho : o.op = .index ty x ix) (hu : P.underlying ty = some .string) (hx : evalO t x = some (.raw (.string s))) (hix : evalO t ix = some (.raw (.int k i))) (h3 : s[i]? = some c) : Yield P σ t o (.raw (.int .u8 c.toNat)) := by
  intro F base E ρ w hρ _ hT
  have h1 := evalO_rep hρ hT hx
  have h1' := evalO_rep hρ hT hix
  generalize hz : ρ x = z at h1
  generalize hz' : ρ ix = z' at h1'
  cases h1
  cases h1'
  have h2 : (Instr.index ty (.string s) (.int k i)).run P w = .ok (.int .u8 c.toNat) w := by
    have h4 : (asIntOf (.int k (i : Int))).run P w = .ok (k, (i : Int)) w := rfl
    simp [Instr.index, Sem.run_bind, run_underlying hu, h3, h4]
  simp only [execOp, ho, hz, hz', Sem.run_bind, h2]
  exact upon_val (.raw _)
theorem W_condC {N L : Nat} {x y : Code} {st : St} {Q : Exit → St → Prop} {b : Bool} (h : W P N L (if b then x else y) st Q) : W P N L (.cond (.const (.bool b)) x y) st Q := fun F base E₀ w₀ E a w hcm hs =>
  wp_cond_split (show a.eval (.const (.bool b)) = .bool b from rfl) (fun hb => by subst hb; exact h F base E₀ w₀ E a w hcm hs) (fun hb => by subst hb; exact h F base E₀ w₀ E a w hcm hs)
end
theorem u8_in (c : UInt8) : In64 (c.toNat : Int) := by have := c.toNat_lt; unfold In64; omega
theorem u8_in0 (c : UInt8) : In64 (0 + (c.toNat : Int)) := by have := c.toNat_lt; unfold In64; omega
theorem u8_wrap (n : Nat) (h : n ≤ 255) : IntKind.u8.wrap (n : Int) = (n : Int) := by rw [IntKind.wrap_u8]; omega
def cmpI (a b : Int) : Int := if a < b then -1 else if b < a then 1 else 0
set_option maxRecDepth 10000 in
set_option maxHeartbeats 1000000 in
theorem isnan_can (a : Int) : Can Tryz.prog 181 [num a] (· = flag false) := by
  refine can_of Tryz.func181 rfl Tryz.ntmps181 rfl ?_
  refine W_cs (.a 1 rfl <| .k [0] rfl) ?_
  refine W_cs (.a 4 rfl <| .k [2] rfl) ?_
  refine W_ret ?_
  exact ⟨_, _, ResL.of rfl, Pur.pure, by simp; rfl⟩
set_option maxRecDepth 10000 in
set_option maxHeartbeats 1000000 in
theorem cmp_can (a b : Int) : Can Tryz.prog 178 [num a, num b] (· = num (cmpI a b)) := by
  refine can_of Tryz.func178 rfl Tryz.ntmps178 rfl ?_
  refine W_cs (.a 1 rfl <| .k [0, 1] rfl) ?_
  refine W_cs (.a 1 rfl <| .c rfl (isnan_can a) rfl <| .a 1 rfl <| .k [0, 1, 5] rfl) ?_
  refine W_cs (.a 1 rfl <| .c rfl (isnan_can b) rfl <| .a 1 rfl <| .k [0, 1, 5, 6] rfl) ?_
  refine W_seq ?_
  refine W_cs (.a 1 rfl <| .k [0, 1, 6, 11] rfl) ?_
  refine W_cond rfl (fun hc => ?_) (fun hc => ?_)
  · cases hc
  · refine W_skip ?_
    refine W_seq ?_
    refine W_cs (.a 1 rfl <| .k [0, 1, 13] rfl) ?_
    refine W_cond rfl (fun hc => ?_) (fun hc => ?_)
    · cases hc
    · refine W_skip ?_
      refine W_seq ?_
      refine W_cs (.a 3 rfl <| .k [0, 1, 16] rfl) ?_
      refine W_cond rfl (fun hc => ?_) (fun hc => ?_)
      · have h1 : a < b := tt hc
        refine W_cs (.a 1 rfl <| .k [4] rfl) ?_
        refine W_ret ?_
        exact ⟨_, _, ResL.of rfl, Pur.pure, by unfold cmpI; rw [if_pos h1]; rfl⟩
      · have h1 : ¬ a < b := ff hc
        refine W_skip ?_
        refine W_seq ?_
        refine W_cs (.a 3 rfl <| .k [19] rfl) ?_
        refine W_cond rfl (fun hy => ?_) (fun hy => ?_)
        · have h2 : b < a := tt hy
          refine W_cs (.a 1 rfl <| .k [4] rfl) ?_
          refine W_ret ?_
          exact ⟨_, _, ResL.of rfl, Pur.pure, by unfold cmpI; rw [if_neg h1, if_pos h2]; rfl⟩
        · have h2 : ¬ b < a := ff hy
          refine W_skip ?_
          refine W_cs (.a 1 rfl <| .k [4] rfl) ?_
          refine W_ret ?_
          exact ⟨_, _, ResL.of rfl, Pur.pure, by unfold cmpI; rw [if_neg h1, if_neg h2]; rfl⟩
set_option maxRecDepth 10000 in
set_option maxHeartbeats 1000000 in
theorem or_can (a b : Int) : Can Tryz.prog 177 [.slice 2 [num a, num b]] (· = num (if a = 0 then b else a)) := by
  refine can_of Tryz.func177 rfl Tryz.ntmps177 rfl ?_
  refine W_cs (.a 1 rfl <| .k [0] rfl) ?_
  refine W_cs (.a 1 rfl <| .k [0, 3] rfl) ?_
  refine W_seq ?_
  refine W_cs (.a 3 rfl <| .k [3, 6, 7, 8] rfl) ?_
  refine W_block ?_
  refine W_k [3, 6, 7, 8] rfl ?_
  refine W_loop (fun r st => ∃ j : Nat, j ≤ 2 ∧ r = 2 - j ∧ (0 < j → a = 0) ∧ (1 < j → b = 0) ∧ st = ⟨[(3, num 0), (6, .slice 2 [num a, num b]), (7, num 2), (8, num j)], []⟩) 2 ⟨0, by omega, by omega, by omega, by omega, rfl⟩ ?_
  rintro r st ⟨j, hj, rfl, ha, hb, rfl⟩
  refine W_cs (.a 1 rfl <| .k [3, 6, 7, 8, 9] rfl) ?_
  refine W_seq ?_
  refine W_cond rfl (fun hc => ?_) (fun hc => ?_)
  · have hlt : j < 2 := by have := tt hc; omega
    obtain ⟨v, hv, hv2⟩ : ∃ v, [num a, num b][j]? = some (num v) ∧ v = (if j = 0 then a else b) := by
      match j, hlt with
      | 0, _ => exact ⟨a, rfl, rfl⟩
      | 1, _ => exact ⟨b, rfl, rfl⟩
    refine W_skip ?_
    refine W_seq ?_
    refine W_block ?_
    refine W_cs (.v (y_ix (j) rfl) rfl <| .v (y_ld rfl (hv)) rfl <| .a 1 rfl <| .k [3, 5, 6, 7, 8] rfl) ?_
    refine W_cs (.a 3 rfl <| .k [3, 5, 6, 7, 8, 14] rfl) ?_
    refine W_cond rfl (fun hy => ?_) (fun hy => ?_)
    · have h1 : v ≠ 0 := tt hy
      refine W_cs (.a 2 rfl <| .k [2] rfl) ?_
      refine W_ret ?_
      refine ⟨_, _, ResL.of rfl, Pur.pure, congrArg num ?_⟩
      by_cases h0 : j = 0
      · rw [if_pos h0] at hv2; rw [if_neg (by omega)]; exact hv2
      · rw [if_neg h0] at hv2; rw [if_pos (ha (by omega))]; exact hv2
    · have h1 : v = 0 := Classical.byContradiction (ff hy)
      refine W_skip ?_
      refine W_chain (.v (y_ar rfl) rfl <| .a 1 rfl <| .k [3, 6, 7, 8] rfl) ?_
      refine ⟨2 - (j + 1), by omega, j + 1, by omega, rfl, fun _ => ?_, fun h => ?_, rfl⟩
      · by_cases h0 : j = 0
        · rw [if_pos h0] at hv2; omega
        · exact ha (by omega)
      · rw [if_neg (by omega)] at hv2; omega
  · have hj2 : j = 2 := by have := ff hc; omega
    refine W_exit ?_
    refine W_cs (.a 2 rfl <| .k [2] rfl) ?_
    refine W_ret ?_
    refine ⟨_, _, ResL.of rfl, Pur.pure, congrArg num ?_⟩
    rw [if_pos (ha (by omega))]; exact (hb (by omega)).symm
/-- The order of package dag: by decreasing distance, then by the node. -/
def cmpD (L : List Int) (a b : Nat) : Int := if cmpI (L.getD b 0) (L.getD a 0) = 0 then cmpI a b else cmpI (L.getD b 0) (L.getD a 0)
set_option maxRecDepth 10000 in
set_option maxHeartbeats 1000000 in
theorem cmpD_can (L : List Int) (a b : Nat) (ha : a < L.length) (hb : b < L.length) : Can Tryz.prog 176 [num a, num b, .pin [intsV L] 0] (· = num (cmpD L a b)) := by
  refine can_of Tryz.func176 rfl Tryz.ntmps176 rfl ?_
  refine W_cs (.a 1 rfl <| .k [0, 1, 2] rfl) ?_
  refine W_drs mixed (by kernel_rfl) (.a 2 rfl <| .v [6, 7] (y_ix (b) rfl) rfl rfl <| .v [8] (y_ld rfl (ints_get L b hb)) rfl rfl <| .a 2 rfl <| .v [10, 11] (y_ix (a) rfl) rfl rfl <| .v [12] (y_ld rfl (ints_get L a ha)) rfl rfl <| .v [9, 13] (y_c rfl (cmp_can _ _)) rfl rfl <| .a 2 rfl <| .v [15, 16] (y_c rfl (cmp_can _ _)) rfl rfl <| .a 1 rfl <| .v [18] (y_c rfl (or_can _ _)) rfl rfl <| .a 1 rfl <| .k [5] rfl) ?_
  refine W_ret ?_
  exact ⟨_, _, ResL.of rfl, Pur.pure, rfl⟩
/-- How many bits a small number has. -/
def lenT (n : Nat) : UInt8 := if n = 0 then 0 else if n = 1 then 1 else if n < 4 then 2 else if n < 8 then 3 else 4
set_option maxRecDepth 10000 in
set_option maxHeartbeats 1000000 in
theorem len64_can (n : Nat) (hn : n ≤ 12) : Can Tryz.prog 191 [.raw (.int .u64 n)] (· = num (lenT n).toNat) := by
  refine can_of Tryz.func191 rfl Tryz.ntmps191 rfl ?_
  refine W_cs (.a 1 rfl <| .k [0, 2] rfl) ?_
  refine W_seq ?_
  refine W_cs (.a 1 rfl <| .v (y_geq rfl rfl rfl rfl) rfl <| .k [0, 2, 4] rfl) ?_
  refine W_cond rfl (fun hc => ?_) (fun hc => ?_)
  · exact absurd (tt hc) (by omega)
  · refine W_skip ?_
    refine W_seq ?_
    refine W_cs (.a 1 rfl <| .v (y_geq rfl rfl rfl rfl) rfl <| .k [0, 2, 8] rfl) ?_
    refine W_cond rfl (fun hc => ?_) (fun hc => ?_)
    · exact absurd (tt hc) (by omega)
    · refine W_skip ?_
      refine W_seq ?_
      refine W_cs (.a 1 rfl <| .v (y_geq rfl rfl rfl rfl) rfl <| .k [0, 2, 14] rfl) ?_
      refine W_cond rfl (fun hc => ?_) (fun hc => ?_)
      · exact absurd (tt hc) (by omega)
      · refine W_skip ?_
        refine W_cs (.a 2 rfl <| .v (y_conv rfl Tryz.underlying172 Tryz.underlying5 rfl (u8_wrap n (by omega))) rfl <| .v (y_strIx (c := lenT n) rfl Tryz.underlying9 rfl rfl (by rcases (show n = 0 ∨ n = 1 ∨ n = 2 ∨ n = 3 ∨ n = 4 ∨ n = 5 ∨ n = 6 ∨ n = 7 ∨ n = 8 ∨ n = 9 ∨ n = 10 ∨ n = 11 ∨ n = 12 by omega) with h | h | h | h | h | h | h | h | h | h | h | h | h <;> subst h <;> rfl)) rfl <| .v (y_conv rfl Tryz.underlying5 Tryz.underlying3 rfl (wrap_in (u8_in _))) rfl <| .v (y_ar rfl (hn := u8_in0 _)) rfl <| .a 1 rfl <| .k [2] rfl) ?_
        refine W_ret ?_
        exact ⟨_, _, ResL.of rfl, Pur.pure, by rw [Int.zero_add]; rfl⟩
set_option maxRecDepth 10000 in
set_option maxHeartbeats 1000000 in
theorem len_can (n : Nat) (hn : n ≤ 12) : Can Tryz.prog 180 [.raw (.int .u64 n)] (· = num (lenT n).toNat) := by
  refine can_of Tryz.func180 rfl Tryz.ntmps180 rfl ?_
  refine W_cs (.a 1 rfl <| .k [0] rfl) ?_
  refine W_seq (W_condC (b := false) ?_)
  refine W_skip ?_
  refine W_cs (.a 1 rfl <| .c rfl (len64_can n hn) rfl <| .a 1 rfl <| .k [2] rfl) ?_
  exact W_ret ⟨_, _, .cons (.tmp rfl) .nil, Pur.pure, rfl⟩
/-- x may stand before y. -/
def bef (L : List Int) (x y : Int) : Prop := L.getD y.toNat 0 < L.getD x.toNat 0 ∨ (L.getD y.toNat 0 = L.getD x.toNat 0 ∧ x ≤ y)
theorem bef_trans {L : List Int} {x y z : Int} (h : bef L x y) (k : bef L y z) : bef L x z := by unfold bef at *; omega
theorem cmpD_bef (L : List Int) (a b : Nat) : cmpD L a b < 0 ↔ ¬ bef L b a := by
  unfold cmpD cmpI bef
  simp only [Int.toNat_natCast]
  split <;> split <;> (try split) <;> omega
theorem bef_of (L : List Int) {x y : Int} (h : ¬ bef L x y) : bef L y x := by unfold bef at *; omega
/-- In the midst of an insertion: all are in order, but for the one at j. -/
def Ins (L ys : List Int) (i j : Nat) : Prop := ∀ p q, p < q → q ≤ i → q ≠ j → bef L (ys.getD p 0) (ys.getD q 0)
def Sor (L ys : List Int) (i : Nat) : Prop := ∀ p q, p < q → q < i → bef L (ys.getD p 0) (ys.getD q 0)
theorem Sor.ins {L ys : List Int} {i : Nat} (h : Sor L ys i) : Ins L ys i i := fun p q h1 h2 h3 => h p q h1 (by omega)
theorem Ins.done0 {L ys : List Int} {i : Nat} (h : Ins L ys i 0) : Sor L ys (i + 1) := fun p q h1 h2 => h p q h1 (by omega) (by omega)
theorem Ins.done {L ys : List Int} {i j : Nat} (h : Ins L ys i j) (hb : bef L (ys.getD (j - 1) 0) (ys.getD j 0)) : Sor L ys (i + 1) := fun p q h1 h2 => by
  by_cases hq : q = j
  · subst hq
    by_cases hp : p = q - 1
    · rw [hp]; exact hb
    · exact bef_trans (h p (q - 1) (by omega) (by omega) (by omega)) hb
  · exact h p q h1 (by omega) hq
theorem Ins.swap {L ys : List Int} {i j : Nat} (h : Ins L ys i j) (h0 : 0 < j) (hj : j ≤ i) (hi : i < ys.length) (hb : ¬ bef L (ys.getD (j - 1) 0) (ys.getD j 0)) : Ins L (Heap.swapL ys j (j - 1)) i (j - 1) := fun p q h1 h2 h3 => by
  rw [Heap.swapL_get ys j (j - 1) p (by omega) (by omega), Heap.swapL_get ys j (j - 1) q (by omega) (by omega), if_neg h3]
  by_cases hq : q = j
  · rw [if_pos hq]
    by_cases hp : p = j - 1
    · rw [if_pos hp]; exact bef_of L hb
    · rw [if_neg hp, if_neg (by omega)]; exact h p (j - 1) (by omega) (by omega) (by omega)
  · rw [if_neg hq]
    by_cases hp : p = j - 1
    · rw [if_pos hp]; exact h j q (by omega) h2 hq
    · rw [if_neg hp]
      by_cases hp2 : p = j
      · rw [if_pos hp2]; exact h (j - 1) q (by omega) h2 hq
      · rw [if_neg hp2]; exact h p q h1 h2 hq
theorem swap_perm (ys : List Int) (p q : Nat) (hp : p < ys.length) (hq : q < ys.length) : (Heap.swapL ys p q).Perm ys := by
  have := @List.set_set_perm _ ys p q hp hq
  unfold Heap.swapL
  rw [List.getD_eq_getElem?_getD, List.getD_eq_getElem?_getD, List.getElem?_eq_getElem hp, List.getElem?_eq_getElem hq]
  exact this
theorem Sor.pair {L ys : List Int} (h : Sor L ys ys.length) : ys.Pairwise (bef L) := by
  rw [List.pairwise_iff_getElem]
  intro i j hi hj hij
  have := h i j hij hj
  rw [List.getD_eq_getElem?_getD, List.getD_eq_getElem?_getD, List.getElem?_eq_getElem hi, List.getElem?_eq_getElem hj] at this
  exact this
def irow (ys : List Int) : Option Blk := some (.row 3 1 ys.length (intsP ys))
abbrev cmpF (L : List Int) : PV := .func 176 [.pin [intsV L] 0]
set_option maxRecDepth 10000 in
set_option maxHeartbeats 1000000 in
theorem isort_can (L xs : List Int) (c : Option Blk) (hx : ∀ x ∈ xs, 0 ≤ x ∧ x < L.length) (hn : xs.length ≤ 12) : CanS Tryz.prog 182 [.own 1, num 0, num xs.length, cmpF L] [c, irow xs] (fun _ σ' => ∃ ys, ys.Perm xs ∧ ys.Pairwise (bef L) ∧ σ' = [c, irow ys]) := by
  refine canS_of Tryz.func182 rfl Tryz.ntmps182 rfl ?_
  refine W_cs (.a 1 rfl <| .v (y_ar rfl) rfl <| .a 1 rfl <| .k [0, 1, 2, 3, 8] rfl) ?_
  refine W_block ?_
  refine W_k [0, 1, 2, 3, 8] rfl ?_
  refine W_loop (fun r st => ∃ (ys : List Int) (i : Nat), ys.Perm xs ∧ 0 < i ∧ Sor L ys i ∧ r = 13 - i ∧ st = ⟨[(0, .own 1), (1, num 0), (2, num xs.length), (3, cmpF L), (8, num i)], [c, irow ys]⟩) 12 ⟨xs, 1, .refl _, by omega, fun p q h1 h2 => by omega, rfl, rfl⟩ ?_
  rintro r st ⟨ys, i, hp, hi0, hs, rfl, rfl⟩
  have hyl := hp.length_eq
  refine W_seq ?_
  refine W_cs (.a 3 rfl <| .k [0, 1, 2, 3, 8, 14] rfl) ?_
  refine W_cond rfl (fun hc => ?_) (fun hc => ?_)
  · have hlt : i < xs.length := by have := tt hc; omega
    refine W_skip ?_
    refine W_seq ?_
    refine W_block ?_
    refine W_cs (.a 2 rfl <| .k [0, 1, 2, 3, 8, 9] rfl) ?_
    refine W_block ?_
    refine W_k [0, 1, 2, 3, 8, 9] rfl ?_
    refine W_loop (fun r st => ∃ (ys : List Int) (j : Nat), ys.Perm xs ∧ j ≤ i ∧ Ins L ys i j ∧ r = j ∧ st = ⟨[(0, .own 1), (1, num 0), (2, num xs.length), (3, cmpF L), (8, num i), (9, num j)], [c, irow ys]⟩) i ⟨ys, i, hp, by omega, hs.ins, rfl, rfl⟩ ?_
    clear hp hs hyl
    rintro r st ⟨zs, j, hp, hji, hs, rfl, rfl⟩
    have hyl := hp.length_eq
    refine W_seq ?_
    obtain ⟨q1, hq1⟩ : ∃ q, decide ((0 : Int) < (r : Int)) = q := ⟨_, rfl⟩
    have hel : ∀ k, k < zs.length → ∃ a : Nat, zs.getD k 0 = (a : Int) ∧ a < L.length := fun k hk => by
      have h1 := hx _ (hp.mem_iff.1 (getD_mem (d := 0) hk))
      exact ⟨(zs.getD k 0).toNat, by omega, by omega⟩
    obtain ⟨a, ha, haL⟩ := hel r (by omega)
    obtain ⟨b, hb, hbL⟩ := hel (r - 1) (by omega)
    obtain ⟨q2, hq2⟩ : ∃ q, decide (cmpD L a b < 0) = q := ⟨_, rfl⟩
    refine W_drsK mixed (by kernel_rfl) 34 (.raw (.bool (q1 && q2))) [0, 1, 2, 3, 8, 9] rfl ?_ ?_
    · refine .a 2 rfl <| .v [18, 19] (y_q rfl (hq1)) rfl rfl <| .a 1 rfl <| ?_
      cases q1
      · exact .a 13 rfl <| .k [34, 0, 1, 2, 3, 8, 9] rfl
      · exact .a 3 rfl <| .v [23, 24] (y_ix (r) rfl) rfl rfl <| .v [25] (y_ld rfl ((ints_get zs r (by omega)).trans (by rw [ha]))) rfl rfl <| .a 2 rfl <| .v [28] (y_ar rfl) rfl rfl <| .v [27, 29] (y_ix ((r - 1)) rfl (by have := tt hq1; omega) (by omega)) rfl rfl <| .v [30] (y_ld rfl ((ints_get zs (r - 1) (by omega)).trans (by rw [hb]))) rfl rfl <| .v [22, 26, 31] (y_c rfl (cmpD_can L a b haL hbL)) rfl rfl <| .v [32] (y_q rfl (hq2)) rfl rfl <| .a 1 rfl <| .k [34, 0, 1, 2, 3, 8, 9] rfl
    refine W_cond rfl (fun hy => ?_) (fun hy => ?_)
    · obtain ⟨c1, c2⟩ := Bool.and_eq_true_iff.1 hy
      rw [c1] at hq1
      rw [c2] at hq2
      have hr0 : 0 < r := by have := tt hq1; omega
      have hnb := (cmpD_bef L a b).1 (tt hq2)
      rw [← ha, ← hb] at hnb
      refine W_skip ?_
      refine W_seq ?_
      refine W_block ?_
      refine W_drawFlt 15 8 mixed (
        .val [0] rfl (y_a rfl) rfl rfl <|
        .val [9] rfl (y_a rfl) rfl rfl <|
        .late [0] rfl (r_move rfl rfl) inferInstance rfl rfl <|
        .late [9] rfl (r_move rfl rfl) inferInstance rfl rfl <|
        .late [40] rfl (r_sub rfl rfl rfl rfl (by unfold In64; omega)) inferInstance rfl rfl <|
        .val [0] rfl (y_a rfl) rfl rfl <|
        .val [9] rfl (y_a rfl) rfl rfl <|
        .val [43] rfl (y_ar rfl) rfl rfl <|
        .val [42, 44] rfl (y_ix ((r - 1)) rfl) rfl rfl <|
        .val [45] rfl (y_ld rfl ((ints_get zs (r - 1) (by omega)).trans (by rw [hb]))) rfl rfl <|
        .val [0] rfl (y_a rfl) rfl rfl <|
        .val [9] rfl (y_a rfl) rfl rfl <|
        .val [47, 48] rfl (y_ix (r) rfl) rfl rfl <|
        .val [49] rfl (y_ld rfl ((ints_get zs r (by omega)).trans (by rw [ha]))) rfl rfl <|
        .val [37, 38] rfl (y_ix (r) rfl) rfl rfl <|
        .nil) (by kernel_rfl) rfl rfl (keepT_sub (ks := [0, 1, 2, 3, 8, 9, 39, 41, 46, 50, 51]) rfl) ?_
      refine WR_loud0 ((by first | exact l_storeInts rfl (fok.tk.get rfl) rfl rfl rfl (by first | omega | (simp; omega)) | exact l_storeBools rfl (fok.tk.get rfl) rfl rfl rfl (by first | omega | (simp; omega)))) rfl rfl <| WR_v (y_ix ((r - 1)) rfl) rfl <| WR_loud0 ((by first | exact l_storeInts rfl (fok.tk.get rfl) rfl rfl rfl (by first | omega | (simp; omega)) | exact l_storeBools rfl (fok.tk.get rfl) rfl rfl rfl (by first | omega | (simp; omega)))) rfl rfl <| WR_k [0, 1, 2, 3, 8, 9] rfl ?_
      refine W_chain (.a 1 rfl <| .v (y_ar rfl) rfl <| .a 1 rfl <| .k [0, 1, 2, 3, 8, 9] rfl) ?_
      refine ⟨r - 1, by omega, Heap.swapL zs r (r - 1), r - 1, (swap_perm zs r (r - 1) (by omega) (by omega)).trans hp, by omega, hs.swap hr0 hji (by omega) hnb, rfl, ?_⟩
      unfold irow Heap.swapL
      rw [ha, hb, show ((r - 1 : Nat) : Int) = (r : Int) - 1 by omega]
      simp only [List.length_set]
      rfl
    · have hso : Sor L zs (i + 1) := by
        by_cases h0 : r = 0
        · subst h0; exact hs.done0
        · refine hs.done ?_
          rw [ha, hb]
          refine Classical.byContradiction fun hn => ?_
          have := (cmpD_bef L a b).2 hn
          have e1 : q1 = true := by rw [← hq1]; exact decide_eq_true (by omega)
          have e2 : q2 = true := by rw [← hq2]; exact decide_eq_true this
          rw [e1, e2] at hy
          cases hy
      refine W_exit ?_
      refine W_chain (.a 1 rfl <| .v (y_ar rfl) rfl <| .a 1 rfl <| .k [0, 1, 2, 3, 8] rfl) ?_
      exact ⟨13 - (i + 1), by omega, zs, i + 1, hp, by omega, hso, rfl, rfl⟩
  · have hge : ys.length ≤ i := by have := ff hc; omega
    refine W_exit ?_
    exact ⟨_, ResL.of rfl, ys, hp, Sor.pair (fun p q h1 h2 => hs p q h1 (by omega)), rfl⟩
set_option maxRecDepth 10000 in
set_option maxHeartbeats 1000000 in
theorem pdq_can (L xs : List Int) (c : Option Blk) (k : Int) (hx : ∀ x ∈ xs, 0 ≤ x ∧ x < L.length) (hn : xs.length ≤ 12) : CanS Tryz.prog 179 [.own 1, num 0, num xs.length, num k, cmpF L] [c, irow xs] (fun _ σ' => ∃ ys, ys.Perm xs ∧ ys.Pairwise (bef L) ∧ σ' = [c, irow ys]) := by
  refine canS_of Tryz.func179 rfl Tryz.ntmps179 rfl ?_
  refine W_cs (.a 1 rfl <| .k [0, 1, 2, 3, 4, 10] rfl) ?_
  refine W_cs (.a 1 rfl <| .k [0, 1, 2, 3, 4, 10, 11] rfl) ?_
  refine W_block ?_
  refine W_loop (fun r st => st = ⟨[(0, .own 1), (1, num 0), (2, num xs.length), (3, num k), (4, cmpF L), (10, flag true), (11, flag true)], [c, irow xs]⟩) 0 rfl ?_
  rintro r st rfl
  refine W_block ?_
  refine W_cs (.a 2 rfl <| .v (y_ar rfl) rfl <| .a 1 rfl <| .k [0, 1, 2, 3, 4, 10, 11, 12] rfl) ?_
  refine W_seq ?_
  refine W_cs (.a 2 rfl <| .k [0, 1, 2, 3, 4, 10, 11, 12, 25] rfl) ?_
  refine W_cond (b := decide ((xs.length : Int) - 0 ≤ 12)) rfl (fun _ => ?_) (fun hc => absurd (ff hc) (by omega))
  refine W_rs ?_
  refine WR_a 4 rfl <| WR_cS rfl rfl (CanS.mono (isort_can L xs c hx hn) (fun _ σ' h => ?_))
  obtain ⟨ys, h1, h2, rfl⟩ := h
  refine WR_k [] rfl ?_
  exact W_ret ⟨_, .nil, ys, h1, h2, rfl⟩
set_option maxRecDepth 10000 in
set_option maxHeartbeats 1000000 in
theorem sortf_can (L xs : List Int) (c : Option Blk) (hx : ∀ x ∈ xs, 0 ≤ x ∧ x < L.length) (hn : xs.length ≤ 12) : CanS Tryz.prog 175 [.own 1, cmpF L] [c, irow xs] (fun _ σ' => ∃ ys, ys.Perm xs ∧ ys.Pairwise (bef L) ∧ σ' = [c, irow ys]) := by
  have hw : IntKind.u64.wrap (xs.length : Int) = (xs.length : Int) := by rw [IntKind.wrap_u64]; omega
  refine canS_of Tryz.func175 rfl Tryz.ntmps175 rfl ?_
  refine W_cs (.a 3 rfl <| .k [0, 1, 4] rfl) ?_
  refine W_region ?_
  refine WR_a 3 rfl <| WR_v (y_conv rfl Tryz.underlying3 Tryz.underlying183 rfl hw) rfl <| WR_c rfl (len_can xs.length hn) rfl <| WR_a 1 rfl <| WR_cS rfl rfl (CanS.mono (pdq_can L xs c _ hx hn) (fun _ σ' h => ?_))
  obtain ⟨ys, h1, h2, rfl⟩ := h
  refine WR_k [] rfl ?_
  exact ⟨_, ResL.of rfl, ys, h1, h2, rfl⟩
/-- The nodes that can be reached. -/
def hasL (L : List Int) (i : Nat) : List Int := ((List.range i).filter fun k => decide (0 ≤ L.getD k 0)).map Int.ofNat
theorem hasL_step (L : List Int) (i : Nat) : hasL L (i + 1) = hasL L i ++ (if 0 ≤ L.getD i 0 then [(i : Int)] else []) := by
  unfold hasL
  rw [List.range_succ, List.filter_append, List.map_append]
  congr 1
  by_cases h : 0 ≤ L.getD i 0
  · rw [if_pos h, List.filter_cons, if_pos (by simpa using h)]; rfl
  · rw [if_neg h, List.filter_cons, if_neg (by simpa using h)]; rfl
theorem hasL_len (L : List Int) (i : Nat) : (hasL L i).length ≤ i := by
  unfold hasL
  rw [List.length_map]
  exact Nat.le_trans (List.length_filter_le _ _) (by simp)
theorem hasL_mem {L : List Int} {i : Nat} {x : Int} : x ∈ hasL L i ↔ ∃ k : Nat, x = (k : Int) ∧ k < i ∧ 0 ≤ L.getD k 0 := by
  unfold hasL
  simp only [List.mem_map, List.mem_filter, List.mem_range, decide_eq_true_eq]
  constructor
  · rintro ⟨k, ⟨h1, h2⟩, rfl⟩; exact ⟨k, rfl, h1, h2⟩
  · rintro ⟨k, rfl, h1, h2⟩; exact ⟨k, ⟨h1, h2⟩, rfl⟩
theorem hasL_nodup (L : List Int) (i : Nat) : (hasL L i).Nodup := by
  unfold hasL
  have h1 : (List.range i).Pairwise (· ≠ ·) := List.nodup_range
  refine List.Pairwise.map Int.ofNat (fun a b h e => h (by cases e; rfl)) (h1.filter _)
set_option maxRecDepth 10000 in
set_option maxHeartbeats 1000000 in
theorem sorted_can (L cs : List Int) (hn : L.length ≤ 12) : CanS Tryz.prog 173 [intsV L] [irow cs] (fun r σ' => ∃ ys, ys.Perm (hasL L L.length) ∧ ys.Pairwise (bef L) ∧ r = .own 1 ∧ σ' = [irow cs, irow ys]) := by
  refine canS_of Tryz.func173 rfl Tryz.ntmps173 rfl ?_
  refine W_cs (.a 2 rfl <| .k [1] rfl) ?_
  refine W_cs (.a 1 rfl <| .k [1, 3] rfl) ?_
  refine W_adopt 3 3 1 rfl ?_
  refine W_seq ?_
  refine W_cs (.a 3 rfl <| .k [1, 3, 6, 7, 8] rfl) ?_
  refine W_block ?_
  refine W_k [1, 3, 6, 7, 8] rfl ?_
  refine W_loop (fun r st => ∃ i, i ≤ L.length ∧ r = L.length - i ∧ st = ⟨[(1, .pin [intsV L] 0), (3, .own 1), (6, intsV L), (7, num L.length), (8, num i)], [irow cs, irow (hasL L i)]⟩) L.length ⟨0, by omega, by omega, rfl⟩ ?_
  rintro r st ⟨i, hi, rfl, rfl⟩
  have hhl := hasL_len L i
  refine W_cs (.a 1 rfl <| .k [1, 3, 6, 7, 8, 9] rfl) ?_
  refine W_seq ?_
  refine W_cond rfl (fun hc => ?_) (fun hc => ?_)
  · have hlt : i < L.length := by have := tt hc; omega
    have hst := hasL_step L i
    refine W_skip ?_
    refine W_seq ?_
    refine W_block ?_
    refine W_cs (.a 1 rfl <| .v (y_ix (i) rfl) rfl <| .v (y_ld rfl (ints_get L i hlt)) rfl <| .a 2 rfl <| .k [1, 3, 4, 5, 6, 7, 8] rfl) ?_
    refine W_cs (.a 2 rfl <| .k [1, 3, 4, 6, 7, 8, 14] rfl) ?_
    refine W_cond rfl (fun hy => ?_) (fun hy => ?_)
    · have h0 : 0 ≤ L.getD i 0 := tt hy
      rw [if_pos h0] at hst
      refine W_region ?_
      refine WR_a 3 rfl <| WR_l (l_append rfl (fok.rk.get rfl) rfl rfl rfl rfl (by unfold maxLen; omega)) rfl <| WR_a 1 rfl ?_
      refine WR_ren [0, 2] (.c 1 <| .c 3 <| .c 6 <| .c 7 <| .c 8 <| .nil) (.kept rfl (.row RenL.pure) <| .kept rfl (.rowP rfl (intsP_snoc _ _)) <| .nil) rfl rfl (WR_nil ?_)
      refine W_chain (.v (y_ar rfl) rfl <| .a 1 rfl <| .k [1, 3, 6, 7, 8] rfl) ?_
      refine ⟨L.length - (i + 1), by omega, i + 1, by omega, rfl, ?_⟩
      rw [hst]
      first
        | rfl
        | (simp only [irow, List.length_append, List.length_singleton]; rfl)
    · have h0 : ¬ 0 ≤ L.getD i 0 := ff hy
      rw [if_neg h0, List.append_nil] at hst
      refine W_skip ?_
      refine W_chain (.v (y_ar rfl) rfl <| .a 1 rfl <| .k [1, 3, 6, 7, 8] rfl) ?_
      refine ⟨L.length - (i + 1), by omega, i + 1, by omega, rfl, ?_⟩
      rw [hst]
      first
        | rfl
        | (simp only [irow, List.length_append, List.length_singleton]; rfl)
  · have hie : i = L.length := by have := ff hc; omega
    subst hie
    refine W_exit ?_
    refine W_rs ?_
    refine WR_a 2 rfl <| WR_cS rfl rfl (CanS.mono (sortf_can L (hasL L L.length) (irow cs) (fun x hx => by obtain ⟨k, rfl, h1, _⟩ := hasL_mem.1 hx; omega) (by omega)) (fun _ σ' h => ?_))
    obtain ⟨ys, h1, h2, rfl⟩ := h
    refine WR_k [3] rfl ?_
    refine W_cs (.a 2 rfl <| .k [2] rfl) ?_
    refine W_ret ?_
    exact ⟨_, ResL.of rfl, ys, h1, h2, rfl, rfl⟩
set_option maxRecDepth 10000 in
set_option maxHeartbeats 1000000 in
theorem reverse_can (xs : List Int) (c : Option Blk) (hn : xs.length ≤ 12) : CanS Tryz.prog 174 [.own 1] [c, irow xs] (fun _ σ' => σ' = [c, irow xs.reverse]) := by
  refine canS_of Tryz.func174 rfl Tryz.ntmps174 rfl ?_
  refine W_cs (.a 2 rfl <| .v (y_ar rfl) rfl <| .a 2 rfl <| .k [0, 2, 3] rfl) ?_
  refine W_block ?_
  refine W_k [0, 2, 3] rfl ?_
  refine W_loop (fun r st => ∃ (ys : List Int) (i : Nat), ys.length = xs.length ∧ 2 * i ≤ xs.length + 1 ∧ (∀ k, k < xs.length → ys.getD k 0 = if k < i ∨ xs.length - i ≤ k then xs.getD (xs.length - 1 - k) 0 else xs.getD k 0) ∧ r = xs.length + 1 - i ∧ st = ⟨[(0, .own 1), (2, num i), (3, num ((xs.length : Int) - 1 - i))], [c, irow ys]⟩) (xs.length + 1) ⟨xs, 0, rfl, by omega, fun k hk => by rw [if_neg (by omega)], by omega, by simp⟩ ?_
  rintro r st ⟨ys, i, hl, hi, hk, rfl, rfl⟩
  refine W_seq ?_
  refine W_cs (.a 3 rfl <| .k [0, 2, 3, 9] rfl) ?_
  refine W_cond rfl (fun hc => ?_) (fun hc => ?_)
  · have hlt : 2 * i + 1 < xs.length := by have := tt hc; omega
    obtain ⟨a, ha⟩ : ∃ a, ys.getD i 0 = a := ⟨_, rfl⟩
    obtain ⟨b, hb⟩ : ∃ b, ys.getD (xs.length - 1 - i) 0 = b := ⟨_, rfl⟩
    refine W_skip ?_
    refine W_seq ?_
    refine W_block ?_
    refine W_drawFlt 13 8 mixed (
      .val [0] rfl (y_a rfl) rfl rfl <|
      .val [2] rfl (y_a rfl) rfl rfl <|
      .late [0] rfl (r_move rfl rfl) inferInstance rfl rfl <|
      .late [3] rfl (r_move rfl rfl) inferInstance rfl rfl <|
      .val [0] rfl (y_a rfl) rfl rfl <|
      .val [3] rfl (y_a rfl) rfl rfl <|
      .val [18, 19] rfl (y_ix ((xs.length - 1 - i)) rfl) rfl rfl <|
      .val [20] rfl (y_ld rfl ((ints_get ys (xs.length - 1 - i) (by omega)).trans (by rw [hb]))) rfl rfl <|
      .val [0] rfl (y_a rfl) rfl rfl <|
      .val [2] rfl (y_a rfl) rfl rfl <|
      .val [22, 23] rfl (y_ix (i) rfl) rfl rfl <|
      .val [24] rfl (y_ld rfl ((ints_get ys i (by omega)).trans (by rw [ha]))) rfl rfl <|
      .val [14, 15] rfl (y_ix (i) rfl) rfl rfl <|
      .nil) (by kernel_rfl) rfl rfl (keepT_sub (ks := [0, 2, 3, 16, 17, 21, 25, 26]) rfl) ?_
    refine WR_loud0 ((by first | exact l_storeInts rfl (fok.tk.get rfl) rfl rfl rfl (by first | omega | (simp; omega)) | exact l_storeBools rfl (fok.tk.get rfl) rfl rfl rfl (by first | omega | (simp; omega)))) rfl rfl <| WR_v (y_ix ((xs.length - 1 - i)) rfl) rfl <| WR_loud0 ((by first | exact l_storeInts rfl (fok.tk.get rfl) rfl rfl rfl (by first | omega | (simp; omega)) | exact l_storeBools rfl (fok.tk.get rfl) rfl rfl rfl (by first | omega | (simp; omega)))) rfl rfl <| WR_k [0, 2, 3] rfl ?_
    refine W_chain (.a 1 rfl <| .v (y_ar rfl) rfl <| .a 1 rfl <| .v (y_ar rfl) rfl <| .a 2 rfl <| .k [0, 2, 3] rfl) ?_
    refine ⟨xs.length + 1 - (i + 1), by omega, Heap.swapL ys i (xs.length - 1 - i), i + 1, by rw [Heap.swapL_len]; exact hl, by omega, fun k hkl => ?_, rfl, ?_⟩
    · rw [Heap.swapL_get ys i (xs.length - 1 - i) k (by omega) (by omega)]
      by_cases h1 : k = xs.length - 1 - i
      · rw [if_pos h1, if_pos (by omega), hk i (by omega), if_neg (by omega), h1, show xs.length - 1 - (xs.length - 1 - i) = i by omega]
      · rw [if_neg h1]
        by_cases h2 : k = i
        · rw [if_pos h2, if_pos (by omega), hk _ (by omega), if_neg (by omega), h2]
        · rw [if_neg h2, hk k hkl]
          by_cases h3 : k < i ∨ xs.length - i ≤ k
          · rw [if_pos h3, if_pos (by omega)]
          · rw [if_neg h3, if_neg (by omega)]
    · unfold irow Heap.swapL
      rw [ha, hb, show (xs.length : Int) - 1 - ((i + 1 : Nat) : Int) = (xs.length : Int) - 1 - i - 1 by omega]
      simp only [List.length_set]
      rfl
  · have hge : ¬ 2 * i + 1 < xs.length := by have := ff hc; omega
    refine W_exit ?_
    refine ⟨_, ResL.of rfl, ?_⟩
    have : ys = xs.reverse := by
      refine List.ext_getElem (by simp [hl]) fun k h1 h2 => ?_
      have h3 := hk k (by omega)
      rw [List.getElem_reverse]
      have e1 : ys.getD k 0 = ys[k] := by simp [h1]
      have e2 : xs.getD (xs.length - 1 - k) 0 = xs[xs.length - 1 - k] := by rw [List.getD_eq_getElem?_getD, List.getElem?_eq_getElem (by omega)]; rfl
      by_cases h4 : k < i ∨ xs.length - i ≤ k
      · rw [if_pos h4, e1, e2] at h3; exact h3
      · rw [if_neg h4, e1] at h3
        rw [h3, ← e2, show xs.length - 1 - k = k by omega]
    rw [this]
end PW
end Go.Proofs.YtbpgndbjbaoolaaGreat

/- Pure walks: maps of the call's own. No program in sight. -/
namespace Go.Proofs.YtbpgndbjbaoolaaGreat
set_option linter.unusedVariables false
set_option linter.unusedSimpArgs false
namespace PW
open Go.RowKit Reg Mem

/-- Keys: by what the machine compares them. -/
structure MapKey (P : Program) (kt : TypeId) {κ : Type} [DecidableEq κ] (enc : κ → Value) : Prop where
  chk : ∀ e a w, (Instr.checkKey e 10000 kt (enc a)).run P w = .ok () w
  eql : ∀ a b w, (Op.equal kt (enc a) (enc b)).run P w = .ok (decide (a = b)) w
  now : ∃ d, P.underlying kt = some d ∧ ((∀ a b, Instr.sameNow d (enc a) (enc b) = some (decide (a = b))) ∨ ∀ a b, Instr.sameNow d (enc a) (enc b) = none)
  bits : ∀ a, Instr.sameBits 10000 (enc a) (enc a) = true
section
variable {P : Program} {kt : TypeId} {κ : Type} [DecidableEq κ] {enc : κ → Value}
/-- Where a key stands. -/
def findI (k : κ) : List κ → Nat → Option Nat
  | [], _ => none
  | a :: l, i => if k = a then some i else findI k l (i + 1)
theorem findI_ge {k : κ} : ∀ {l : List κ} {i j : Nat}, findI k l i = some j → i ≤ j ∧ l[j - i]? = some k
  | [], i, j, h => by cases h
  | a :: l, i, j, h => by
    simp only [findI] at h
    split at h
    · rename_i he; cases h; subst he; simp
    · obtain ⟨h1, h2⟩ := findI_ge h
      refine ⟨by omega, ?_⟩
      rw [show j - i = (j - (i + 1)) + 1 by omega]
      simpa using h2
theorem now_find {d : TypeDesc} (hn : ∀ a b, Instr.sameNow d (enc a) (enc b) = some (decide (a = b))) (k : κ) : ∀ (ks : List κ) (es : List MapEntry) (i : Nat), es.map (·.key) = ks.map enc →
    Instr.findNow d (enc k) es i = some ((findI k ks i).bind fun j => (es[j - i]?).map fun e => (j, e.val))
  | [], [], i, _ => rfl
  | [], _ :: _, i, h => by simp at h
  | _ :: _, [], i, h => by simp at h
  | a :: ks, e :: es, i, h => by
    simp only [List.map_cons, List.cons.injEq] at h
    simp only [Instr.findNow, h.1, hn, findI]
    by_cases hk : k = a
    · rw [decide_eq_true hk, if_pos hk]; simp
    · rw [decide_eq_false hk, if_neg hk]
      simp only [now_find hn k ks es (i + 1) h.2]
      congr 1
      cases hf : findI k ks (i + 1) with
      | none => rfl
      | some j =>
        obtain ⟨h1, _⟩ := findI_ge hf
        simp only [Option.bind_some]
        rw [show j - i = (j - (i + 1)) + 1 by omega]
        simp
theorem ask_find (hk : MapKey P kt enc) (k : κ) (w : World) : ∀ (ks : List κ) (es : List MapEntry) (i : Nat), es.map (·.key) = ks.map enc →
    (Instr.findAsking kt (enc k) es i).run P w = .ok ((findI k ks i).bind fun j => (es[j - i]?).map fun e => (j, e.val)) w
  | [], [], i, _ => rfl
  | [], _ :: _, i, h => by simp at h
  | _ :: _, [], i, h => by simp at h
  | a :: ks, e :: es, i, h => by
    simp only [List.map_cons, List.cons.injEq] at h
    simp only [Instr.findAsking, Sem.run_bind, h.1, hk.eql, Result.andThen_ok, findI]
    by_cases hka : k = a
    · rw [if_pos (by simpa using hka), if_pos hka]; simp
    · rw [if_neg (by simpa using hka), if_neg hka, ask_find hk k w ks es (i + 1) h.2]
      congr 1
      cases hf : findI k ks (i + 1) with
      | none => rfl
      | some j =>
        obtain ⟨h1, _⟩ := findI_ge hf
        simp only [Option.bind_some]
        rw [show j - i = (j - (i + 1)) + 1 by omega]
        simp
theorem run_find (hk : MapKey P kt enc) (k : κ) (w : World) (ks : List κ) (es : List MapEntry) (h : es.map (·.key) = ks.map enc) : (Instr.findKey kt (enc k) es).run P w = .ok ((findI k ks 0).bind fun j => (es[j]?).map fun e => (j, e.val)) w := by
  obtain ⟨d, hd, hn | hn⟩ := hk.now
  · have := now_find hn k ks es 0 h
    simp only [Instr.findKey, Sem.run_bind, run_underlying hd, Result.andThen_ok, this]
    simp
  · have ha := ask_find hk k w ks es 0 h
    simp only [Instr.findKey, Sem.run_bind, run_underlying hd, Result.andThen_ok]
    cases es with
    | nil =>
      have : ks = [] := by cases ks with | nil => rfl | cons => simp at h
      subst this
      rfl
    | cons e es =>
      cases ks with
      | nil => simp at h
      | cons a ks =>
        simp only [List.map_cons, List.cons.injEq] at h
        have h0 : Instr.findNow d (enc k) (e :: es) 0 = none := by simp only [Instr.findNow, h.1, hn]
        rw [h0]
        simpa using ha
/-- A map's content: keys and plain values. -/
def encM (enc : κ → Value) (l : List (κ × PV)) : List (Value × PV) := l.map fun x => (enc x.1, x.2)
def lookM (k : κ) : List (κ × PV) → Option PV
  | [] => none
  | (a, p) :: l => if k = a then some p else lookM k l
def setM (k : κ) (p : PV) : List (κ × PV) → List (κ × PV)
  | [] => [(k, p)]
  | (a, q) :: l => if k = a then (a, p) :: l else (a, q) :: setM k p l
theorem lookM_find {k : κ} {l : List (κ × PV)} : lookM k l = (findI k (l.map (·.1)) 0).bind fun j => (l[j]?).map (·.2) := by
  suffices h : ∀ (i : Nat), lookM k l = (findI k (l.map (·.1)) i).bind fun j => (l[j - i]?).map (·.2) by simpa using h 0
  induction l with
  | nil => intro i; rfl
  | cons x l ih =>
    intro i
    obtain ⟨a, p⟩ := x
    simp only [lookM, List.map_cons, findI]
    split
    · simp
    · rw [ih (i + 1)]
      cases hf : findI k (l.map (·.1)) (i + 1) with
      | none => rfl
      | some j =>
        obtain ⟨h1, _⟩ := findI_ge hf
        simp only [Option.bind_some]
        rw [show j - i = (j - (i + 1)) + 1 by omega]
        simp
theorem setM_find {k : κ} {p : PV} {l : List (κ × PV)} : setM k p l = match findI k (l.map (·.1)) 0 with | some j => l.set j (k, p) | none => l ++ [(k, p)] := by
  suffices h : ∀ (i : Nat), setM k p l = match findI k (l.map (·.1)) i with | some j => l.set (j - i) (k, p) | none => l ++ [(k, p)] by simpa using h 0
  induction l with
  | nil => intro i; rfl
  | cons x l ih =>
    intro i
    obtain ⟨a, q⟩ := x
    simp only [setM, List.map_cons, findI]
    split
    · rename_i he; subst he; simp
    · rw [ih (i + 1)]
      cases hf : findI k (l.map (·.1)) (i + 1) with
      | none => rfl
      | some j =>
        obtain ⟨h1, _⟩ := findI_ge hf
        simp only
        rw [show j - i = (j - (i + 1)) + 1 by omega]
        simp
theorem mem_setM {k : κ} {p : PV} {l : List (κ × PV)} {x : κ × PV} (h : x ∈ setM k p l) : x = (k, p) ∨ x ∈ l := by
  induction l with
  | nil => simpa [setM] using h
  | cons y l ih =>
    obtain ⟨a, q⟩ := y
    simp only [setM] at h
    split at h
    · rename_i he
      subst he
      cases h with
      | head => exact .inl rfl
      | tail _ h => exact .inr (List.mem_cons_of_mem _ h)
    · cases h with
      | head => exact .inr (List.mem_cons_self ..)
      | tail _ h =>
        rcases ih h with h | h
        · exact .inl h
        · exact .inr (List.mem_cons_of_mem _ h)
theorem lookM_mem {k : κ} {p : PV} {l : List (κ × PV)} (h : lookM k l = some p) : (k, p) ∈ l := by
  induction l with
  | nil => cases h
  | cons y l ih =>
    obtain ⟨a, q⟩ := y
    simp only [lookM] at h
    split at h
    · rename_i he; subst he; cases h; exact List.mem_cons_self ..
    · exact List.mem_cons_of_mem _ (ih h)
/-- What stands for a key. -/
def KeyIs (p : PV) (v : Value) : Prop := ∀ E w u, Rep E w u p → u = v
theorem keyRaw (v : Value) : KeyIs (.raw v) v := fun _ _ _ h => by cases h; rfl
theorem keyAgg2 (a b : Value) : KeyIs (.agg [.raw a, .raw b]) (.agg #[a, b]) := fun E w u h => by
  cases h with
  | agg cs _ hl hr =>
    obtain ⟨l⟩ := cs
    match l, hl, hr with
    | [x, y], _, hr =>
      have h0 := hr 0 x _ rfl rfl
      have h1 := hr 1 y _ rfl rfl
      cases h0; cases h1; rfl
    | [], hl, _ => simp at hl
    | [_], hl, _ => simp at hl
    | _ :: _ :: _ :: _, hl, _ => simp at hl
def mapK (P : Program) (mt : TypeId) : Option (TypeId × TypeId) := match P.underlying mt with | some (.map k e) => some (k, e) | _ => none
theorem mapK_spec {mt kt et : TypeId} (h : mapK P mt = some (kt, et)) : P.underlying mt = some (.map kt et) := by
  unfold mapK at h
  split at h
  · rename_i hu; cases h; exact hu
  · cases h
def zvK (P : Program) (t : TypeId) : Option Value := match P.info? t with | some i => i.zero | none => none
theorem run_zero {et : TypeId} {z : Value} (h : zvK P et = some z) (w : World) : (zeroValue et).run P w = .ok z w := by
  unfold zvK at h
  split at h
  · rename_i i hi; simp [zeroValue, typeInfo, hi, h]
  · cases h
variable {σ : Sto} {t : Tms} {o : Oper}
theorem look_core (hK : MapKey P kt enc) {F : Nat → Prop} {base : Nat} {E : Env} {w : World} {i mt et : Nat} {l : List (κ × PV)} {v z : Value} (hS : Sat F base σ E w) (hm : mapK P mt = some (kt, et)) (hz : zvK P et = some z) (hv : Rep E w v (.own i)) (hi : σ[i]? = some (some (.mp (encM enc l)))) (k : κ) (ok : Bool) :
    ∃ u, (Instr.lookup mt v (enc k) ok).run P w = .ok (if ok then .tuple #[u, .bool (lookM k l).isSome] else u) w ∧ Rep E w u ((lookM k l).getD (.raw z)) := by
  cases hv with
  | own _ hiL _ hat _ =>
    obtain ⟨r, es, ck, hr, hb, hheap, hkey, hval⟩ := hS.blk i _ hi
    rw [hat] at hr
    subst hr
    have hkey' : es.toList.map (·.key) = (l.map (·.1)).map enc := by rw [hkey]; simp [encM]
    have hf := run_find hK k w (l.map (·.1)) es.toList hkey'
    have hvl : (encM enc l).map (·.2) = l.map (·.2) := by simp [encM]
    rw [hvl] at hval
    have hlk := lookM_find (k := k) (l := l)
    cases hfi : findI k (l.map (·.1)) 0 with
    | none =>
      rw [hfi] at hf hlk
      simp only [Option.bind_none] at hf hlk
      refine ⟨z, ?_, by rw [hlk]; exact .raw z⟩
      simp only [Instr.lookup, Sem.run_bind, run_underlying (mapK_spec hm), Result.andThen_ok, MapKept.run_getObj_map hheap, Sem.run_pure, hK.chk, hf, run_zero hz, hlk]
      rfl
    | some j =>
      obtain ⟨_, hj⟩ := findI_ge hfi
      simp only [Nat.sub_zero] at hj
      have hjl : j < l.length := by have := (List.getElem?_eq_some_iff.1 hj).1; simpa using this
      have hje : j < es.toList.length := by have := congrArg List.length hkey'; simp at this; rw [Array.length_toList]; omega
      rw [hfi] at hf hlk
      simp only [Option.bind_some, List.getElem?_eq_getElem hje, List.getElem?_eq_getElem hjl, Option.map_some] at hf hlk
      refine ⟨es.toList[j].val, ?_, ?_⟩
      · simp only [Instr.lookup, Sem.run_bind, run_underlying (mapK_spec hm), Result.andThen_ok, MapKept.run_getObj_map hheap, Sem.run_pure, hK.chk, hf, hlk]
        rfl
      · rw [hlk]
        exact hval.2 j _ _ (by rw [List.getElem?_map, List.getElem?_eq_getElem hje]; rfl) (by simp [hjl])
theorem y_look (hK : MapKey P kt enc) {i mt et : Nat} {x ix : Operand} {l : List (κ × PV)} {z : Value} {k : κ} {pk r : PV} (ho : o.op = .lookup mt x ix false) (hm : mapK P mt = some (kt, et)) (hz : zvK P et = some z) (hx : evalO t x = some (.own i)) (hi : σ[i]? = some (some (.mp (encM enc l)))) (hp : evalO t ix = some pk) (hk : KeyIs pk (enc k)) (hr : (lookM k l).getD (.raw z) = r) : Yield P σ t o r := by
  intro F base E ρ w hρ hS hT
  have h1 := evalO_rep hρ hT hx
  have h2 := hk _ _ _ (evalO_rep hρ hT hp)
  obtain ⟨u, hu, hR⟩ := look_core hK hS hm hz h1 hi k false
  simp only [execOp, ho, h2, Sem.run_bind, hu, Result.andThen_ok, Sem.run_pure, Bool.false_eq_true, if_false]
  exact upon_val (by rw [← hr]; exact hR)
theorem y_look2 (hK : MapKey P kt enc) {i mt et : Nat} {x ix : Operand} {l : List (κ × PV)} {z : Value} {k : κ} {pk r : PV} {q : Bool} (ho : o.op = .lookup mt x ix true) (hm : mapK P mt = some (kt, et)) (hz : zvK P et = some z) (hx : evalO t x = some (.own i)) (hi : σ[i]? = some (some (.mp (encM enc l)))) (hp : evalO t ix = some pk) (hk : KeyIs pk (enc k)) (hr : (lookM k l).getD (.raw z) = r) (hq : (lookM k l).isSome = q) : Yield P σ t o (.tuple [r, .raw (.bool q)]) := by
  intro F base E ρ w hρ hS hT
  have h1 := evalO_rep hρ hT hx
  have h2 := hk _ _ _ (evalO_rep hρ hT hp)
  obtain ⟨u, hu, hR⟩ := look_core hK hS hm hz h1 hi k true
  simp only [execOp, ho, h2, Sem.run_bind, hu, Result.andThen_ok, Sem.run_pure, if_true]
  refine upon_val (.tuple #[u, .bool (lookM k l).isSome] _ rfl fun i x p k1 k2 => ?_)
  match i, k1, k2 with
  | 0, k1, k2 => cases k1; cases k2; rw [← hr]; exact hR
  | 1, k1, k2 => cases k1; cases k2; rw [hq]; exact .raw _
  | _ + 2, _, k2 => simp at k2
theorem set_getElem? {α : Type} (a : Array α) (i j : Nat) (v : α) : (a.setIfInBounds i v)[j]? = if i = j ∧ i < a.size then some v else a[j]? := by
  rw [Array.getElem?_setIfInBounds]
  by_cases h : i = j
  · subst h
    by_cases h2 : i < a.size
    · simp [h2]
    · simp [h2]
  · simp [h]
/-- A key gets a value. -/
theorem l_mapSet (hK : MapKey P kt enc) {i mt et : Nat} {x ix y : Operand} {l : List (κ × PV)} {k : κ} {pk p : PV} (ho : o.op = .mapUpdate mt x ix y) (hm : mapK P mt = some (kt, et)) (hx : evalO t x = some (.own i)) (hi : σ[i]? = some (some (.mp (encM enc l)))) (hp : evalO t ix = some pk) (hk : KeyIs pk (enc k)) (hy : evalO t y = some p) :
    Loud P σ t o (.raw undef) (σ.set i (some (.mp (encM enc (setM k p l))))) := by
  intro F base E ρ w hρ hS hT
  have h1 := evalO_rep hρ hT hx
  have h2 := hk _ _ _ (evalO_rep hρ hT hp)
  have h3 := evalO_rep hρ hT hy
  generalize hz : ρ x = v at h1
  cases h1 with
  | own _ hiL _ hat _ =>
    obtain ⟨r, es, ck, hr, hb, hheap, hkey, hval⟩ := hS.blk i _ hi
    have hbk : blockOf (E.at_ i) = some r := by rw [hr]; rfl
    have hsz : r < w.heap.size := (Array.getElem?_eq_some_iff.1 hheap).1
    rw [hat] at hr
    subst hr
    have hkey' : es.toList.map (·.key) = (l.map (·.1)).map enc := by rw [hkey]; simp [encM]
    have hf := run_find hK k w (l.map (·.1)) es.toList hkey'
    have hvl : (encM enc l).map (·.2) = l.map (·.2) := by simp [encM]
    rw [hvl] at hval
    have fin : ∀ (es' : Array MapEntry) (ck' : Nat), (Instr.mapUpdate mt (.map (some r)) (enc k) (ρ y)).run P w = .ok () { w with heap := w.heap.setIfInBounds r (.map es' ck') } →
        es'.toList.map (·.key) = (setM k p l).map (fun a => enc a.1) → RepL E w (es'.toList.map (·.val)) ((setM k p l).map (·.2)) →
        ∃ v w' E', ((execOp ρ o).run P w = .ok (.value v) w' ∨ (v = undef ∧ (execOp ρ o).run P w = .ok .skip w')) ∧ Sat F base (σ.set i (some (.mp (encM enc (setM k p l))))) E' w' ∧ Goes E w E' w' ∧ Below base w w' ∧ Rep E' w' v (.raw undef) := fun es' ck' hrun hk' hv' => by
      have oth : ∀ j, j < w.heap.size → j ≠ r → ({ w with heap := w.heap.setIfInBounds r (.map es' ck') } : World).heap[j]? = w.heap[j]? := fun j _ hj => by
        show (w.heap.setIfInBounds r (.map es' ck'))[j]? = _
        rw [set_getElem?, if_neg (by rintro ⟨rfl, _⟩; exact hj rfl)]
      have hs' : w.heap.size ≤ ({ w with heap := w.heap.setIfInBounds r (.map es' ck') } : World).heap.size := by simp
      have hrM : E.M r := (hS.mm r).2 (.inr ⟨i, _, hi, hbk⟩)
      have g : Goes E w E { w with heap := w.heap.setIfInBounds r (.map es' ck') } := ⟨Nat.le_refl _, fun _ _ => rfl, fun _ _ h => h, hs', fun j hj hM => oth j hj (fun e => hM (by rw [e]; exact hrM))⟩
      have hn := hS.turn (bi' := .mp (encM enc (setM k p l))) hi hbk hs' oth ⟨r, es', ck', hat, hb, by
          show (w.heap.setIfInBounds r (.map es' ck'))[r]? = _
          rw [set_getElem?, if_pos ⟨rfl, hsz⟩], by rw [hk']; simp [encM], by
          have : (encM enc (setM k p l)).map (·.2) = (setM k p l).map (·.2) := by simp [encM]
          rw [this]; exact hv'.goes g⟩
      refine ⟨undef, _, E, .inr ⟨rfl, ?_⟩, hn.1, hn.2, ⟨rfl, rfl, rfl, hs', fun j hj => oth j (Nat.lt_of_lt_of_le hj hS.bl) (by omega)⟩, .raw _⟩
      simp only [execOp, ho, hz, h2, Sem.run_bind, hrun, Result.andThen_ok, Sem.run_pure]
    have hsm := setM_find (k := k) (p := p) (l := l)
    cases hfi : findI k (l.map (·.1)) 0 with
    | none =>
      rw [hfi] at hf hsm
      simp only [Option.bind_none] at hf hsm
      refine fin (es.push { key := enc k, val := ρ y, born := ck }) (ck + 1) ?_ ?_ ?_
      · simp only [Instr.mapUpdate, Sem.run_bind, run_underlying (mapK_spec hm), Result.andThen_ok, MapKept.run_getObj_map hheap, hK.chk, hf, MapKept.run_setObj_map _ hheap]
      · rw [hsm]; simp [hkey', List.map_map, Function.comp_def]
      · rw [hsm]
        simp only [Array.toList_push, List.map_append, List.map_cons, List.map_nil]
        exact hval.append (RepL.cons h3 (RepL.nil _ _))
    | some j =>
      obtain ⟨_, hj⟩ := findI_ge hfi
      simp only [Nat.sub_zero] at hj
      have hjl : j < l.length := by have := (List.getElem?_eq_some_iff.1 hj).1; simpa using this
      have hje : j < es.toList.length := by have := congrArg List.length hkey'; simp at this; rw [Array.length_toList]; omega
      have hje' : j < es.size := by simpa using hje
      have hlj : l[j].1 = k := by have := List.getElem?_eq_some_iff.1 hj; obtain ⟨h, e⟩ := this; simpa using e
      have hkj : es[j].key = enc k := by
        have := congrArg (·[j]?) hkey'
        simp only [List.getElem?_map, List.getElem?_eq_getElem hje, List.getElem?_eq_getElem hjl, Option.map_some, Option.some.injEq, hlj] at this
        simpa using this
      rw [hfi] at hf hsm
      simp only [Option.bind_some, List.getElem?_eq_getElem hje, Option.map_some] at hf hsm
      refine fin (es.modify j fun e => { e with key := enc k, val := ρ y }) ck ?_ ?_ ?_
      · have hks : (Instr.keyThatStays ((Option.map (fun x => x.key) es[j]?).getD (enc k)) (enc k)).run P w = .ok (enc k) w := by
          rw [Array.getElem?_eq_getElem hje', Option.map_some, Option.getD_some, hkj]
          simp only [Instr.keyThatStays, hK.bits, if_true, Sem.run_pure]
        simp only [Instr.mapUpdate, Sem.run_bind, run_underlying (mapK_spec hm), Result.andThen_ok, MapKept.run_getObj_map hheap, hK.chk, hf, hks, MapKept.run_setObj_map _ hheap]
      · rw [hsm]
        refine List.ext_getElem? fun n => ?_
        simp only [List.getElem?_map, Array.getElem?_toList, Array.getElem?_modify, List.getElem?_set]
        by_cases hn : j = n
        · subst hn
          simp [hje', hjl]
        · have := congrArg (·[n]?) hkey'
          simp only [List.getElem?_map, Array.getElem?_toList] at this
          simp only [if_neg hn, this, Option.map_map, Function.comp_def]
      · rw [hsm]
        have hR := hval.set j h3
        have e1 : (es.modify j fun e => { e with key := enc k, val := ρ y }).toList.map (·.val) = (es.toList.map (·.val)).set j (ρ y) := by
          refine List.ext_getElem? fun n => ?_
          simp only [List.getElem?_map, Array.getElem?_toList, Array.getElem?_modify, List.getElem?_set]
          by_cases hn : j = n
          · subst hn
            simp [hje']
          · simp only [if_neg hn]
        have e2 : (l.set j (k, p)).map (·.2) = (l.map (·.2)).set j p := by rw [List.map_set]
        rw [e1, e2]
        exact hR
omit [DecidableEq κ] in
/-- A new map. -/
theorem l_makeMap {mt : TypeId} (enc : κ → Value) (ho : o.op = .makeMap mt none) : Loud P σ t o (.own σ.length) (σ ++ [some (.mp (encM enc ([] : List (κ × PV))))]) := by
  intro F base E ρ w hρ hS hT
  have hr : (execOp ρ o).run P w = .ok (.value (.map (some w.heap.size))) (w.alloc (.map #[] 0)) := by
    simp [execOp, ho, Instr.makeMap]
  have hE : Ext w (w.alloc (.map #[] 0)) := (Ext.refl w).alloc _
  have hp := hS.push hE (v := .map (some w.heap.size)) (blk := .mp (encM enc ([] : List (κ × PV)))) (fun b h => by simp [blockOf] at h; omega) ⟨w.heap.size, #[], 0, rfl, hS.bl, heap_alloc_new _ _, rfl, RepL.nil _ _⟩
  exact ⟨_, _, _, .inl hr, hp.1, hp.2, Below.ofExt hE hS.bl, .own σ.length (by simp [Env.push, hS.len]) _ (by simp [Env.push, hS.len]) rfl⟩
end
section
variable {P : Program} {σ : Sto} {t : Tms} {o : Oper} {N L : Nat}
/-- Labels that nothing jumps to. -/
def noGo (Q : Exit → St → Prop) : Exit → St → Prop
  | .goto _, _ => False
  | e, s => Q e s
theorem W_scope {c : Code} {st : St} {Q : Exit → St → Prop} (h : W P N L c st (noGo Q)) : W P N L (.scope c) st Q := fun F base E₀ w₀ E a w hc hs => by
  refine wp_scope_straight (wp_mono (h F base E₀ w₀ E a w hc hs) ?_)
  rintro e a' w' ⟨s, E', h1, h2⟩
  cases e with
  | goto l => exact h1.elim
  | normal => exact ⟨s, E', h1, h2⟩
  | exit _ => exact ⟨s, E', h1, h2⟩
  | ret => exact ⟨s, E', h1, h2⟩
  | panic _ => exact ⟨s, E', h1, h2⟩
  | outgrown => exact ⟨s, E', h1, h2⟩
theorem W_label {l : Nat} {st : St} {Q : Exit → St → Prop} (h : Q .normal st) : W P N L (.label l) st Q := fun _ _ _ _ E _ _ hc hs => wp_label ⟨st, E, h, hs, hc.g, hc.b⟩
/-- An extraction, late in a region whose order is drawn. -/
theorem r_extract {x : Operand} {k : Nat} {xs : List PV} {p : PV} (ho : o.op = .extract x k) (hx : evalO t x = some (.tuple xs)) (hp : xs[k]? = some p) : YieldR P t o p := fun E ρ w hρ hT => by
  have h1 := evalO_rep hρ hT hx
  generalize hz : ρ x = z at h1
  cases h1 with
  | tuple cs _ hl hr =>
    obtain ⟨c, hcc, hcr⟩ := RepL.get (E := E) (w := w) (cs := cs.toList) ⟨by simpa using hl, fun i x u h1 h2 => hr i x u (by simpa using h1) h2⟩ hp
    have hcc' : cs[k]? = some c := by simpa using hcc
    exact ⟨c, fun w' => by simp only [execOp, ho, hz, Instr.extract, hcc', Sem.run_bind, Sem.run_pure, Result.andThen_ok], hcr⟩
/-- The smaller, the greater of two numbers. -/
theorem y_min {x y : Operand} {ats : Array TypeId} {a b c : Int} (ho : o.op = .call { callee := .builtin .min, args := #[x, y], argTypes := ats }) (hx : evalO t x = some (.raw (.int .i64 a))) (hy : evalO t y = some (.raw (.int .i64 b))) (hc : min a b = c) : Yield P σ t o (.raw (.int .i64 c)) := by
  intro F base E ρ w hρ _ hT
  have h1 := evalO_rep hρ hT hx
  have h2 := evalO_rep hρ hT hy
  generalize hz : ρ x = z at h1
  generalize hz' : ρ y = z' at h2
  cases h1
  cases h2
  have he : (if b < a then b else a) = c := by rw [← hc]; by_cases h : b < a <;> simp [h] <;> omega
  simp [execOp, ho, resolve, invoke, builtin, Builtin.min_, Builtin.min2, hz, hz', he]
  exact upon_val (.raw _)
/-- Whether a slice is nil. -/
def slK1 (P : Program) (ty : TypeId) : Bool := match P.underlying ty with | some (.slice _) => true | _ => false
theorem slK1_spec {ty : TypeId} (h : slK1 P ty = true) : ∃ e, P.underlying ty = some (.slice e) := by
  unfold slK1 at h
  split at h
  · rename_i e hu; exact ⟨e, hu⟩
  · cases h
theorem y_isNil {x y : Operand} {ty tz : TypeId} (ho : o.op = .binOp .eql ty x y tz) (hk : slK1 P ty = true) (hx : evalO t x = some (.raw (.slice none 0 0))) (hy : evalO t y = some (.raw (.slice none 0 0))) : Yield P σ t o (.raw (.bool true)) := by
  obtain ⟨e, hu⟩ := slK1_spec hk
  refine y_bin ho hx hy fun w => ?_
  have := Lib.run_eql_slice_nil w ty e none 0 0 0 0 hu
  have hg : ∀ a n c b m d, (eqGuard .eql ty x y (.slice a n c) (.slice b m d)).run P w = .ok () w := fun _ _ _ _ _ _ => rfl
  simp only [Sem.run_bind, hg, Result.andThen_ok, this]
  rfl
theorem y_notNil {x y : Operand} {ty tz : TypeId} {n : Nat} {xs : List PV} (ho : o.op = .binOp .eql ty x y tz) (hk : slK1 P ty = true) (hx : evalO t x = some (.slice n xs)) (hy : evalO t y = some (.raw (.slice none 0 0))) (hn : 0 < n) : Yield P σ t o (.raw (.bool false)) := by
  obtain ⟨e, hu⟩ := slK1_spec hk
  intro F base E ρ w hρ _ hT
  have h1 := evalO_rep hρ hT hx
  have h2 := evalO_rep hρ hT hy
  generalize hz : ρ x = z at h1
  generalize hz' : ρ y = z' at h2
  cases h2
  have hv : ∃ a c, z = .slice (some a) n c := by
    cases h1 with
    | nils => omega
    | empty => omega
    | slice b off _ c cs _ h0 => exact ⟨_, _, rfl⟩
  obtain ⟨a, c, rfl⟩ := hv
  have := Lib.run_eql_slice_nil w ty e (some a) n c 0 0 hu
  have hg : ∀ a n c b m d, (eqGuard .eql ty x y (.slice a n c) (.slice b m d)).run P w = .ok () w := fun _ _ _ _ _ _ => rfl
  simp only [execOp, ho, hz, hz', Sem.run_bind, Sem.run_pure, Result.andThen_ok, hg, this]
  exact upon_val (.raw _)
end
end PW
end Go.Proofs.YtbpgndbjbaoolaaGreat

/- How many shortest paths: package dag's Count and Unique, and the reference's. -/
namespace Go.Proofs.YtbpgndbjbaoolaaGreat
set_option linter.unusedVariables false
set_option linter.unusedSimpArgs false
namespace PW
open Go.RowKit Reg Mem Net

section
variable {T : Topo} {D : List Bool} {d : Nat}
/-- All nodes that can be reached, by decreasing distance. -/
structure OrdP (T : Topo) (D : List Bool) (d : Nat) (O : List Int) : Prop where
  nodup : O.Nodup
  mem : ∀ x, x ∈ O ↔ ∃ k : Nat, x = (k : Int) ∧ (k : Int) < T.nodes ∧ 0 ≤ dN T D d k
  pair : O.Pairwise fun x y => dN T D d y.toNat ≤ dN T D d x.toNat
theorem OrdP.of (hv : validB T = true) (hd : (d : Int) < T.nodes) {O : List Int} (h1 : O.Perm (hasL (distL T D d false) (distL T D d false).length)) (h2 : O.Pairwise (bef (distL T D d false))) : OrdP T D d O := by
  obtain ⟨hb1, _⟩ := distL_bound (D := D) hv (dir := false) hd
  refine ⟨h1.nodup_iff.2 (hasL_nodup _ _), fun x => ?_, h2.imp fun {x y} h => ?_⟩
  · rw [h1.mem_iff, hasL_mem]
    constructor
    · rintro ⟨k, e, h3, h4⟩; exact ⟨k, e, by omega, h4⟩
    · rintro ⟨k, e, h3, h4⟩; exact ⟨k, e, by omega, h4⟩
  · unfold bef at h
    show (distL T D d false).getD _ 0 ≤ (distL T D d false).getD _ 0
    omega
noncomputable def foldG (T : Topo) (D : List Bool) (d : Nat) (c : Int) (l : List Int) : Int := l.foldl (fun c a => min 2 (c + cntS T D d (headN T a.toNat).toNat)) c
/-- The counts after the nodes of a list. -/
structure CntI (T : Topo) (D : List Bool) (d : Nat) (R cs : List Int) (i : Nat) : Prop where
  len : (cs.length : Int) = T.nodes
  val : ∀ m : Nat, (m : Int) < T.nodes → cs.getD m 0 = if m = d then 1 else if (m : Int) ∈ R.take i then cntS T D d m else 0
theorem CntI.start (hd : (d : Int) < T.nodes) (R : List Int) : CntI T D d R ((List.replicate T.nodes.toNat 0).set d 1) 0 := by
  refine ⟨by simp; omega, fun m hm => ?_⟩
  rw [List.getD_eq_getElem?_getD, List.getElem?_set]
  by_cases h : d = m
  · subst h; rw [if_pos rfl, if_pos (by simp; omega), if_pos rfl]; rfl
  · rw [if_neg h, if_neg (fun e => h e.symm), List.getElem?_replicate, if_pos (by omega)]; rfl
/-- What is known at a node: its next nodes are counted already. -/
theorem CntI.next (hv : validB T = true) (hd : (d : Int) < T.nodes) {O cs : List Int} {i m a y : Nat} (hO : OrdP T D d O) (h : CntI T D d O.reverse cs i) (hi : i < O.reverse.length) (hm : O.reverse.getD i 0 = (m : Int)) (ha : (a : Int) ∈ nextL T D m d) (hy : headN T a = (y : Int)) : cs.getD y 0 = cntS T D d y ∧ y ≠ m ∧ (y : Int) < T.nodes := by
  obtain ⟨b, hb, hn⟩ := next_mem ha
  have hba : b = a := by omega
  subst hba
  obtain ⟨y', hy', hyN⟩ := head_nat hv hn.arc
  have : y' = y := by omega
  subst this
  have hdy := hn.dN hy
  have hc := (sound_of hv).cost b hn.arc
  refine ⟨?_, fun e => by subst e; omega, hyN⟩
  rw [h.val y' hyN]
  by_cases hyd : y' = d
  · subst hyd; rw [if_pos rfl, cnt_self]
  · rw [if_neg hyd, if_pos ?_]
    have hyO : (y' : Int) ∈ O.reverse := List.mem_reverse.2 ((hO.mem _).2 ⟨y', rfl, hyN, hdy.1⟩)
    have hs : O.reverse = O.reverse.take i ++ (m : Int) :: O.reverse.drop (i + 1) := by rw [← hm, ← drop_cons _ _ hi, List.take_append_drop]
    have hp : O.reverse.Pairwise fun x y => dN T D d x.toNat ≤ dN T D d y.toNat := List.pairwise_reverse.2 hO.pair
    rw [hs] at hp hyO
    rcases List.mem_append.1 hyO with h1 | h1
    · exact h1
    · exfalso
      have hp2 := (List.pairwise_append.1 hp).2.1
      rcases List.mem_cons.1 h1 with h2 | h2
      · have : y' = m := by omega
        subst this; omega
      · have := (List.pairwise_cons.1 hp2).1 _ h2
        simp only [Int.toNat_natCast] at this
        omega
theorem CntI.fresh {O cs : List Int} {i m : Nat} (hO : OrdP T D d O) (h : CntI T D d O.reverse cs i) (hi : i < O.reverse.length) (hm : O.reverse.getD i 0 = (m : Int)) : (m : Int) < T.nodes ∧ 0 ≤ dN T D d m ∧ cs.getD m 0 = if m = d then 1 else 0 := by
  have hmO : (m : Int) ∈ O.reverse := by rw [← hm]; exact getD_mem hi
  obtain ⟨k, hk, hkN, hk0⟩ := (hO.mem _).1 (List.mem_reverse.1 hmO)
  have : k = m := by omega
  subst this
  refine ⟨hkN, hk0, ?_⟩
  rw [h.val k hkN]
  have hs : O.reverse = O.reverse.take i ++ (k : Int) :: O.reverse.drop (i + 1) := by rw [← hm, ← drop_cons _ _ hi, List.take_append_drop]
  have hn : O.reverse.Nodup := List.pairwise_reverse.2 (hO.nodup.imp fun h => fun e => h e.symm)
  rw [hs] at hn
  have hnot : ¬ (k : Int) ∈ O.reverse.take i := fun h1 => (List.pairwise_append.1 hn).2.2 _ h1 (k : Int) (by simp) rfl
  rw [if_neg hnot]
theorem CntI.step (hv : validB T = true) (hd : (d : Int) < T.nodes) {O cs : List Int} {i m : Nat} (hO : OrdP T D d O) (h : CntI T D d O.reverse cs i) (hi : i < O.reverse.length) (hm : O.reverse.getD i 0 = (m : Int)) : CntI T D d O.reverse (cs.set m (foldG T D d (cs.getD m 0) (nextL T D m d))) (i + 1) := by
  obtain ⟨hmN, _, hf⟩ := h.fresh hO hi hm
  have hml : m < cs.length := by have := h.len; omega
  refine ⟨by simpa using h.len, fun x hx => ?_⟩
  rw [List.getD_eq_getElem?_getD, List.getElem?_set, take_step _ _ 0 hi, hm]
  by_cases hxm : m = x
  · subst hxm
    rw [if_pos rfl, if_pos hml, Option.getD_some, hf]
    by_cases hmd : m = d
    · subst hmd; rw [if_pos rfl, if_pos rfl, next_self]; rfl
    · rw [if_neg hmd, if_neg hmd, if_pos (by simp), cnt_eq hv hd hmN hmd]; rfl
  · rw [if_neg hxm, ← List.getD_eq_getElem?_getD, h.val x hx]
    by_cases hxd : x = d
    · rw [if_pos hxd, if_pos hxd]
    · rw [if_neg hxd, if_neg hxd]
      have : (x : Int) ∈ O.reverse.take i ++ [(m : Int)] ↔ (x : Int) ∈ O.reverse.take i := by
        simp only [List.mem_append, List.mem_singleton]
        exact ⟨fun h => h.elim id (fun e => absurd e (by omega)), .inl⟩
      by_cases h1 : (x : Int) ∈ O.reverse.take i
      · rw [if_pos h1, if_pos (this.2 h1)]
      · rw [if_neg h1, if_neg (fun h2 => h1 (this.1 h2))]
theorem CntI.done (hv : validB T = true) (hd : (d : Int) < T.nodes) {O cs : List Int} {n : Nat} (hO : OrdP T D d O) (h : CntI T D d O.reverse cs O.reverse.length) (hn : (n : Int) < T.nodes) : cs.getD n 0 = cntS T D d n := by
  rw [h.val n hn, List.take_length]
  by_cases hnd : n = d
  · subst hnd; rw [if_pos rfl, cnt_self]
  · rw [if_neg hnd]
    by_cases h1 : (n : Int) ∈ O.reverse
    · rw [if_pos h1]
    · rw [if_neg h1]
      refine (cnt_unr hv hd hn (Int.not_le.1 fun h0 => h1 (List.mem_reverse.2 ((hO.mem _).2 ⟨n, rfl, hn, h0⟩)))).symm
theorem foldG_zero (c : Int) : foldG T D d c [] = c := rfl
theorem foldG_step (c : Int) (l : List Int) (k a : Nat) (hk : k < l.length) (ha : l.getD k 0 = (a : Int)) : foldG T D d c (l.take (k + 1)) = min 2 (foldG T D d c (l.take k) + cntS T D d (headN T a).toNat) := by
  unfold foldG
  rw [take_step _ _ 0 hk, List.foldl_append, ha]
  rfl
theorem foldG_range (hv : validB T = true) (hd : (d : Int) < T.nodes) (c : Int) (h0 : 0 ≤ c) (h2 : c ≤ 2) (l : List Int) : 0 ≤ foldG T D d c l ∧ foldG T D d c l ≤ 2 := fold2_le _ (fun a => (cnt_rangeS hv hd _).1) l c h0 h2
theorem set_same (cs : List Int) (m : Nat) (hm : m < cs.length) : cs.set m (cs.getD m 0) = cs := by
  rw [List.getD_eq_getElem?_getD, List.getElem?_eq_getElem hm, Option.getD_some, List.set_getElem_self]
end
def cntV (T : Topo) (D : List Bool) (n d : Int) (c : Int) : PV := .tuple [num (if nodeE T D n d = 0 then c else 0), num (nodeE T D n d)]
set_option maxRecDepth 10000 in
set_option maxHeartbeats 2000000 in
theorem count_can (T : Topo) (D : List Bool) (n d : Int) (h12 : T.nodes ≤ 12) : Can Tryz.prog 170 [topoV T, boolsV D, num n, num d, num 2] (· = cntV T D n d (cntS T D d.toNat n.toNat)) := by
  refine can_of Tryz.func170 rfl Tryz.ntmps170 rfl ?_
  refine W_cs (.a 3 rfl <| .k [1, 2, 3, 4, 5] rfl) ?_
  refine W_cs (.a 4 rfl <| .c rfl (dists_can T D n d) rfl <| .a 5 rfl <| .k [1, 2, 3, 4, 5, 12, 13] rfl) ?_
  refine W_seq ?_
  refine W_cs (.a 2 rfl <| .k [1, 2, 3, 4, 5, 12, 13, 31] rfl) ?_
  refine W_cond rfl (fun hc => ?_) (fun hc => ?_)
  · have he : nodeE T D n d ≠ 0 := tt hc
    refine W_cs (.a 3 rfl <| .k [10, 11] rfl) ?_
    refine W_ret ?_
    exact ⟨_, _, ResL.of rfl, Pur.pure, by unfold cntV; rw [if_neg he]; rfl⟩
  · have he : nodeE T D n d = 0 := Classical.byContradiction (ff hc)
    rw [he]
    obtain ⟨hv, hf, hn, hd⟩ := nodeE_zero he
    rw [nodeB_iff] at hn hd
    obtain ⟨n, rfl⟩ := Int.eq_ofNat_of_zero_le hn.1
    obtain ⟨d, rfl⟩ := Int.eq_ofNat_of_zero_le hd.1
    have hn := hn.2
    have hd := hd.2
    have hll := links_le hv
    have hS := sound_of hv
    obtain ⟨hb1, hb2⟩ := distL_bound (D := D) hv (dir := false) hd
    obtain ⟨N, hN⟩ : ∃ N : Nat, T.nodes = (N : Int) := ⟨T.nodes.toNat, by omega⟩
    have hNt : T.nodes.toNat = N := by omega
    refine W_skip ?_
    refine W_seq ?_
    refine W_cs (.a 2 rfl <| .k [1, 2, 3, 4, 5, 12, 34] rfl) ?_
    refine W_cond rfl (fun hc => ?_) (fun hc => ?_)
    · cases hc
    · refine W_skip ?_
      refine W_cs (.a 1 rfl <| .c rfl (leaving_can T hv) rfl <| .a 1 rfl <| .k [1, 2, 3, 4, 5, 12, 14] rfl) ?_
      refine W_rs ?_
      refine WR_a 2 rfl <| WR_l (l_make rfl (fok.rk.get rfl) rfl rfl hN hN ⟨by unfold maxLen; omega, by omega⟩) rfl <| WR_a 1 rfl <| WR_k [1, 2, 3, 4, 5, 12, 14, 15] rfl ?_
      refine W_sto (σ' := [irow (List.replicate N 0)]) (by unfold irow; rw [List.length_replicate, ← zeros_ints]; rfl) ?_
      refine W_rs ?_
      refine WR_a 3 rfl <| WR_v (y_min (c := 1) rfl rfl rfl rfl) rfl <| WR_v (y_ix (d) rfl (by omega) (by rw [List.length_replicate]; omega)) rfl <| WR_loud0 ((by first | exact l_storeInts rfl (fok.tk.get rfl) rfl rfl rfl (by first | omega | (simp; omega)) | exact l_storeBools rfl (fok.tk.get rfl) rfl rfl rfl (by first | omega | (simp; omega)))) rfl rfl <| WR_k [1, 2, 3, 4, 5, 12, 14, 15] rfl ?_
      refine W_sto (σ' := [irow ((List.replicate T.nodes.toNat 0).set d 1)]) ?_ ?_
      · rw [hNt]; unfold irow; simp only [List.length_set, List.length_replicate]; rfl
      have hI0 := CntI.start (D := D) hd
      generalize (List.replicate T.nodes.toNat (0 : Int)).set d 1 = cs0 at hI0
      refine W_rs ?_
      refine WR_a 1 rfl <| WR_cS rfl rfl (CanS.mono (sorted_can (distL T D d false) cs0 (by omega)) (fun _ σ' h => ?_))
      obtain ⟨O, hO1, hO2, rfl, rfl⟩ := h
      refine WR_a 1 rfl <| WR_k [1, 2, 3, 4, 5, 12, 14, 15, 16] rfl ?_
      have hO := OrdP.of hv hd hO1 hO2
      have hOl : O.length ≤ 12 := by have := hO1.length_eq; have := hasL_len (distL T D d false) (distL T D d false).length; omega
      refine W_rs ?_
      refine WR_a 1 rfl <| WR_cS rfl rfl (CanS.mono (reverse_can O (irow cs0) hOl) (fun _ σ' h => ?_))
      subst h
      refine WR_k [1, 2, 3, 4, 5, 12, 14, 15, 16] rfl ?_
      refine W_seq ?_
      refine W_cs (.a 3 rfl <| .k [1, 2, 3, 4, 5, 12, 14, 15, 49, 50, 51] rfl) ?_
      refine W_block ?_
      refine W_k [1, 2, 3, 4, 5, 12, 14, 15, 49, 50, 51] rfl ?_
      refine W_loop (fun r st => ∃ (cs : List Int) (i : Nat), i ≤ O.reverse.length ∧ r = O.reverse.length - i ∧ CntI T D d O.reverse cs i ∧ st = ⟨[(1, boolsV D), (2, num n), (3, num d), (4, num 2), (5, .pin (topoP T) 0), (12, intsV (distL T D d false)), (14, rowsV (rowsL (tailN T) T.nodes.toNat (2 * T.links.length))), (15, .own 0), (49, .own 1), (50, num O.reverse.length), (51, num i)], [irow cs, irow O.reverse]⟩) O.reverse.length ⟨cs0, 0, by omega, by omega, hI0 _, rfl⟩ ?_
      rintro r st ⟨cs, i, hi, rfl, hI, rfl⟩
      have hRl : O.reverse.length ≤ 12 := by simpa using hOl
      refine W_cs (.a 1 rfl <| .k [1, 2, 3, 4, 5, 12, 14, 15, 49, 50, 51, 52] rfl) ?_
      refine W_seq ?_
      refine W_cond rfl (fun hx => ?_) (fun hx => ?_)
      · have hlt : i < O.reverse.length := by have := tt hx; omega
        obtain ⟨m, hm⟩ : ∃ m : Nat, O.reverse.getD i 0 = (m : Int) := by
          obtain ⟨k, hk, _⟩ := (hO.mem _).1 (List.mem_reverse.1 (getD_mem (d := 0) hlt))
          exact ⟨k, hk⟩
        obtain ⟨hmN, hm0, hf0⟩ := hI.fresh hO hlt hm
        have hcl := hI.len
        have hrow := rows_out T m (by omega)
        have hnx := dnext_can T D (distL T D d false) (outL T m) m d hv hf hb1 hb2 hmN hd (fun a ha => outL_mem ha) (Nat.le_trans (outTo_len T m _) (by omega))
        have hnx : Can Tryz.prog 143 [topoV T, boolsV D, intsV (distL T D d false), intsV (outL T m), num m, num d] (· = intsV (nextL T D m d)) := hnx
        have hnl : (nextL T D m d).length ≤ 512 := by
          have h1 : (nextL T D m d).length ≤ (outL T m).length := by unfold nextL passL; split; simp; exact List.length_filter_le _ _
          exact Nat.le_trans h1 (Nat.le_trans (outTo_len T m _) (by omega))
        have hset := set_same cs m (by omega)
        have hcr : 0 ≤ cs.getD m 0 ∧ cs.getD m 0 ≤ 2 := by rw [hf0]; split <;> omega
        refine W_skip ?_
        refine W_seq ?_
        refine W_block ?_
        refine W_cs (.v (y_ix (i) rfl) rfl <| .v (y_ld rfl ((ints_get _ i hlt).trans (by rw [hm]))) rfl <| .a 1 rfl <| .k [1, 2, 3, 4, 5, 12, 14, 15, 18, 49, 50, 51] rfl) ?_
        refine W_drs mixed (by kernel_rfl) (.a 5 rfl <| .v [58, 59] (y_ix (m) rfl (by omega) (by rw [rowsL_len]; omega)) rfl rfl <| .v [60] (y_ld rfl ((rows_getP _ m (by rw [rowsL_len]; omega)).trans (by rw [hrow]))) rfl rfl <| .a 2 rfl <| .v [55, 56, 57, 61, 62, 63] (y_c rfl (hnx)) rfl rfl <| .a 2 rfl <| .k [1, 2, 3, 4, 5, 12, 14, 15, 18, 49, 50, 51, 64, 65, 66] rfl) ?_
        refine W_block ?_
        refine W_k [1, 2, 3, 4, 5, 12, 14, 15, 18, 49, 50, 51, 64, 65, 66] rfl ?_
        refine W_loop (fun r st => ∃ k : Nat, k ≤ (nextL T D m d).length ∧ r = (nextL T D m d).length - k ∧ st = ⟨[(1, boolsV D), (2, num n), (3, num d), (4, num 2), (5, .pin (topoP T) 0), (12, intsV (distL T D d false)), (14, rowsV (rowsL (tailN T) T.nodes.toNat (2 * T.links.length))), (15, .own 0), (18, num m), (49, .own 1), (50, num O.reverse.length), (51, num i), (64, intsV (nextL T D m d)), (65, num (nextL T D m d).length), (66, num k)], [irow (cs.set m (foldG T D d (cs.getD m 0) ((nextL T D m d).take k))), irow O.reverse]⟩) (nextL T D m d).length ⟨0, by omega, by omega, by rw [List.take_zero, foldG_zero, hset]; rfl⟩ ?_
        rintro r st ⟨k, hk, rfl, rfl⟩
        have hfr := foldG_range (D := D) hv hd (cs.getD m 0) hcr.1 hcr.2 ((nextL T D m d).take k)
        have hfst := foldG_step (T := T) (D := D) (d := d) (cs.getD m 0) (nextL T D m d) k
        generalize hd12 : foldG T D d (cs.getD m 0) ((nextL T D m d).take k) = c at hfr hfst
        refine W_cs (.a 1 rfl <| .k [1, 2, 3, 4, 5, 12, 14, 15, 18, 49, 50, 51, 64, 65, 66, 67] rfl) ?_
        refine W_seq ?_
        refine W_cond rfl (fun hy => ?_) (fun hy => ?_)
        · have hkl : k < (nextL T D m d).length := by have := tt hy; omega
          obtain ⟨a, ha, han⟩ := next_mem (getD_mem (d := 0) hkl)
          have hmem : (a : Int) ∈ nextL T D m d := by rw [← ha]; exact getD_mem hkl
          obtain ⟨y, hyh, hyN⟩ := head_nat hv han.arc
          obtain ⟨hcy, hym, _⟩ := hI.next hv hd hO hlt hm hmem hyh
          have hh := head_can T a han.arc (by omega)
          rw [hyh] at hh
          have hcyr := cnt_rangeS (D := D) hv hd y
          have hg1 : (cs.set m c).getD y 0 = cntS T D d y := by rw [← hcy, List.getD_eq_getElem?_getD, List.getElem?_set, if_neg (fun e => hym e.symm), ← List.getD_eq_getElem?_getD]
          have hg2 : (cs.set m c).getD m 0 = c := by rw [List.getD_eq_getElem?_getD, List.getElem?_set, if_pos rfl, if_pos (by omega)]; rfl
          have hfst := hfst a hkl ha
          rw [hyh, Int.toNat_natCast] at hfst
          refine W_skip ?_
          refine W_seq ?_
          refine W_block ?_
          refine W_cs (.v (y_ix (k) rfl) rfl <| .v (y_ld rfl ((ints_get _ k hkl).trans (by rw [ha]))) rfl <| .a 1 rfl <| .k [1, 2, 3, 4, 5, 12, 14, 15, 18, 20, 49, 50, 51, 64, 65, 66] rfl) ?_
          refine W_cs (.a 3 rfl <| .c rfl (hh) rfl <| .v (y_ix (y) rfl (by omega) (by simp only [List.length_set]; omega)) rfl <| .v (y_ld rfl ((ints_get _ y (by simp only [List.length_set]; omega)).trans (by rw [hg1]))) rfl <| .a 1 rfl <| .k [1, 2, 3, 4, 5, 12, 14, 15, 18, 21, 49, 50, 51, 64, 65, 66] rfl) ?_
          refine W_cs (.a 4 rfl <| .v (y_ix (m) rfl (by omega) (by simp only [List.length_set]; omega)) rfl <| .v (y_ld rfl ((ints_get _ m (by simp only [List.length_set]; omega)).trans (by rw [hg2]))) rfl <| .v (y_ar rfl) rfl <| .a 1 rfl <| .k [1, 2, 3, 4, 5, 12, 14, 15, 18, 21, 49, 50, 51, 64, 65, 66, 83] rfl) ?_
          refine W_cond rfl (fun hz => ?_) (fun hz => ?_)
          · have hv2 : foldG T D d (cs.getD m 0) ((nextL T D m d).take (k + 1)) = 2 := by have := tt hz; omega
            refine W_region ?_
            refine WR_a 3 rfl <| WR_v (y_ix (m) rfl (by omega) (by simp only [List.length_set]; omega)) rfl <| WR_loud0 ((by first | exact l_storeInts rfl (fok.tk.get rfl) rfl rfl rfl (by first | omega | (simp; omega)) | exact l_storeBools rfl (fok.tk.get rfl) rfl rfl rfl (by first | omega | (simp; omega)))) rfl rfl <| WR_k [1, 2, 3, 4, 5, 12, 14, 15, 18, 49, 50, 51, 64, 65, 66] rfl ?_
            refine W_chain (.v (y_ar rfl) rfl <| .a 1 rfl <| .k [1, 2, 3, 4, 5, 12, 14, 15, 18, 49, 50, 51, 64, 65, 66] rfl) ?_
            refine ⟨(nextL T D m d).length - (k + 1), by omega, k + 1, by omega, rfl, ?_⟩
            rw [hv2]
            unfold irow
            simp only [List.length_set, List.set_set]
            rfl
          · have hv2 : foldG T D d (cs.getD m 0) ((nextL T D m d).take (k + 1)) = c + cntS T D d y := by have := ff hz; omega
            refine W_region ?_
            refine WR_a 2 rfl <| WR_v (y_ix (m) rfl (by omega) (by simp only [List.length_set]; omega)) rfl <| WR_v (y_ld rfl ((ints_get _ m (by simp only [List.length_set]; omega)).trans (by rw [hg2]))) rfl <| WR_a 1 rfl <| WR_v (y_ar rfl) rfl <| WR_v (y_ix (m) rfl (by omega) (by simp only [List.length_set]; omega)) rfl <| WR_loud0 ((by first | exact l_storeInts rfl (fok.tk.get rfl) rfl rfl rfl (by first | omega | (simp; omega)) | exact l_storeBools rfl (fok.tk.get rfl) rfl rfl rfl (by first | omega | (simp; omega)))) rfl rfl <| WR_k [1, 2, 3, 4, 5, 12, 14, 15, 18, 49, 50, 51, 64, 65, 66] rfl ?_
            refine W_chain (.v (y_ar rfl) rfl <| .a 1 rfl <| .k [1, 2, 3, 4, 5, 12, 14, 15, 18, 49, 50, 51, 64, 65, 66] rfl) ?_
            refine ⟨(nextL T D m d).length - (k + 1), by omega, k + 1, by omega, rfl, ?_⟩
            rw [hv2]
            unfold irow
            simp only [List.length_set, List.set_set]
            rfl
        · have hke : k = (nextL T D m d).length := by have := ff hy; omega
          refine W_exit ?_
          refine W_chain (.v (y_ar rfl) rfl <| .a 1 rfl <| .k [1, 2, 3, 4, 5, 12, 14, 15, 49, 50, 51] rfl) ?_
          have hI2 := hI.step hv hd hO hlt hm
          rw [hke, List.take_length] at hd12
          exact ⟨O.reverse.length - (i + 1), by omega, cs.set m (foldG T D d (cs.getD m 0) (nextL T D m d)), i + 1, by omega, rfl, hI2, by rw [hd12]; rfl⟩
      · have hie : i = O.reverse.length := by have := ff hx; omega
        subst hie
        have hres := hI.done hv hd hO hn
        have hcl := hI.len
        refine W_exit ?_
        refine W_cs (.a 2 rfl <| .v (y_ix (n) rfl) rfl <| .v (y_ld rfl ((ints_get cs n (by omega)).trans (by rw [hres]))) rfl <| .a 2 rfl <| .k [10, 11] rfl) ?_
        refine W_ret ?_
        exact ⟨_, _, ResL.of rfl, Pur.pure, by unfold cntV; rw [he, if_pos rfl]; rfl⟩
theorem cntV_uniq (T : Topo) (D : List Bool) (n d : Int) : uniqB T D n d = (decide (nodeE T D n d = 0) && decide ((if nodeE T D n d = 0 then cntS T D d.toNat n.toNat else 0) = 1)) := by
  unfold uniqB
  by_cases h : nodeE T D n d = 0
  · rw [if_pos h]
  · simp [h]
set_option maxRecDepth 10000 in
set_option maxHeartbeats 2000000 in
theorem unique_can (T : Topo) (D : List Bool) (n d : Int) (h12 : T.nodes ≤ 12) : Can Tryz.prog 164 [topoV T, boolsV D, num n, num d] (· = flag (uniqB T D n d)) := by
  rw [cntV_uniq]
  obtain ⟨q1, hq1⟩ : ∃ q, decide (nodeE T D n d = 0) = q := ⟨_, rfl⟩
  obtain ⟨q2, hq2⟩ : ∃ q, decide ((if nodeE T D n d = 0 then cntS T D d.toNat n.toNat else 0) = 1) = q := ⟨_, rfl⟩
  rw [hq1, hq2]
  refine can_of Tryz.func164 rfl Tryz.ntmps164 rfl ?_
  refine W_cs (.a 2 rfl <| .k [1, 2, 3, 4] rfl) ?_
  refine W_cs (.a 4 rfl <| .c rfl (count_can T D n d h12) rfl <| .a 5 rfl <| .k [9, 10] rfl) ?_
  refine W_csK 8 (.raw (.bool (q1 && q2))) [] rfl ?_ ?_
  · refine .a 1 rfl <| .v (y_q rfl (hq1)) rfl <| .a 1 rfl <| ?_
    cases q1
    · exact .a 4 rfl <| .k [8] rfl
    · exact .a 1 rfl <| .v (y_q rfl (hq2)) rfl <| .a 2 rfl <| .k [8] rfl
  refine W_ret ?_
  exact ⟨_, _, ResL.of rfl, Pur.pure, rfl⟩
/-- The best node so far that is not listed. -/
structure Best (L out : List Int) (i : Nat) (b : Int) : Prop where
  none : b < 0 → ∀ k : Nat, k < i → 0 ≤ L.getD k 0 → (k : Int) ∈ out
  some : ∀ n : Nat, b = (n : Int) → n < i ∧ 0 ≤ L.getD n 0 ∧ ¬ (n : Int) ∈ out ∧ ∀ k : Nat, k < i → 0 ≤ L.getD k 0 → ¬ (k : Int) ∈ out → L.getD k 0 ≤ L.getD n 0
theorem Best.start (L out : List Int) : Best L out 0 (-1) := ⟨fun _ k h => by omega, fun n h => by omega⟩
theorem Best.no {L out : List Int} {i : Nat} {b : Int} (h : Best L out i b) (h1 : ¬ (0 ≤ L.getD i 0 ∧ ¬ (i : Int) ∈ out ∧ (b < 0 ∨ ∃ n : Nat, b = (n : Int) ∧ L.getD n 0 < L.getD i 0))) : Best L out (i + 1) b := by
  refine ⟨fun hb k hk hk0 => ?_, fun n hn => ?_⟩
  · by_cases hki : k = i
    · subst hki; exact Classical.byContradiction fun ho => h1 ⟨hk0, ho, .inl hb⟩
    · exact h.none hb k (by omega) hk0
  · obtain ⟨a1, a2, a3, a4⟩ := h.some n hn
    refine ⟨by omega, a2, a3, fun k hk hk0 hko => ?_⟩
    by_cases hki : k = i
    · subst hki; exact Int.not_lt.1 fun hl => h1 ⟨hk0, hko, .inr ⟨n, hn, hl⟩⟩
    · exact a4 k (by omega) hk0 hko
/-- A list in the making: each of its nodes is at least as far as those that are not listed. -/
structure Part (L out : List Int) : Prop where
  nodup : out.Nodup
  mem : ∀ x ∈ out, ∃ k : Nat, x = (k : Int) ∧ k < L.length ∧ 0 ≤ L.getD k 0
  pair : out.Pairwise fun x y => L.getD y.toNat 0 ≤ L.getD x.toNat 0
  rest : ∀ x ∈ out, ∀ k : Nat, k < L.length → 0 ≤ L.getD k 0 → ¬ (k : Int) ∈ out → L.getD k 0 ≤ L.getD x.toNat 0
theorem Part.len {L out : List Int} (h : Part L out) : out.length ≤ L.length := by
  have h1 := nodup_le L.length (out.map Int.toNat) (by
    unfold List.Nodup
    rw [List.pairwise_map]
    refine List.Pairwise.imp_of_mem ?_ h.nodup
    intro a b ha hb hne e
    obtain ⟨k, rfl, _⟩ := h.mem a ha
    obtain ⟨k', rfl, _⟩ := h.mem b hb
    simp only [Int.toNat_natCast] at e
    exact hne (by rw [e])) (fun x hx => by
    obtain ⟨y, hy, rfl⟩ := List.mem_map.1 hx
    obtain ⟨k, rfl, hk, _⟩ := h.mem y hy
    simpa using hk)
  simpa using h1
theorem Part.snoc {L out : List Int} {n : Nat} (h : Part L out) (hb : Best L out L.length n) : Part L (out ++ [(n : Int)]) := by
  obtain ⟨a1, a2, a3, a4⟩ := hb.some n rfl
  refine ⟨List.pairwise_append.2 ⟨h.nodup, by simp, fun a ha b hb e => a3 (by simp at hb; rw [← hb, ← e]; exact ha)⟩, fun x hx => ?_, List.pairwise_append.2 ⟨h.pair, by simp, fun a ha b hb => ?_⟩, fun x hx k hk hk0 hko => ?_⟩
  · rcases List.mem_append.1 hx with h1 | h1
    · exact h.mem x h1
    · simp at h1; subst h1; exact ⟨n, rfl, a1, a2⟩
  · simp at hb; subst hb
    exact h.rest a ha n a1 a2 a3
  · have hko' : ¬ (k : Int) ∈ out := fun h => hko (List.mem_append.2 (.inl h))
    rcases List.mem_append.1 hx with h1 | h1
    · exact h.rest x h1 k hk hk0 hko'
    · simp at h1; subst h1; rw [Int.toNat_natCast]; exact a4 k hk hk0 hko'
end PW
end Go.Proofs.YtbpgndbjbaoolaaGreat

/- Keys of maps: whole numbers, and pairs of them. No program in sight. -/
namespace Go.Proofs.YtbpgndbjbaoolaaGreat
set_option linter.unusedVariables false
set_option linter.unusedSimpArgs false
namespace PW
open Go.RowKit Reg Mem

section
variable {P : Program} {kt e : TypeId}
theorem beq_dec (a b : Int) : (a == b) = decide (a = b) := Bool.eq_iff_iff.2 (by simp)
theorem chk_int (b : Bool) (n : Nat) (hu : P.underlying kt = some (.int .i64)) (a : Int) (w : World) : (Instr.checkKey b (n + 1) kt (.int .i64 a)).run P w = .ok () w := by
  simp only [Instr.checkKey, Sem.run_bind, run_underlying hu, Result.andThen_ok, Sem.run_pure]
theorem eq_int (n : Nat) (hu : P.underlying kt = some (.int .i64)) (a b : Int) (w : World) : (Op.equalIn (n + 1) kt (.int .i64 a) (.int .i64 b)).run P w = .ok (decide (a = b)) w := by
  simp only [Op.equalIn, Sem.run_bind, run_underlying hu, Result.andThen_ok, if_true, Sem.run_pure, beq_dec]
theorem intKey (hu : P.underlying kt = some (.int .i64)) : MapKey P kt (fun n : Int => Value.int .i64 n) where
  chk := fun b a w => chk_int b 9999 hu a w
  eql := fun a b w => eq_int _ hu a b w
  now := ⟨_, hu, .inl fun a b => by simp only [Instr.sameNow, if_true, beq_dec]⟩
  bits := fun a => by unfold Instr.sameBits; simp
theorem run_part_int (he : P.underlying e = some (.int .i64)) {xs : Array Value} {off : Nat} {v : Value} (hx : xs[off]? = some v) (w : World) : (Go.part e xs off).run P w = .ok v w := by
  simp [Go.part, isAgg, run_underlying he, hx]
abbrev pairV (p : Int × Int) : Array Value := #[.int .i64 p.1, .int .i64 p.2]
theorem part0 (he : P.underlying e = some (.int .i64)) (a : Int × Int) (w : World) : (Go.part e (pairV a) 0).run P w = .ok (.int .i64 a.1) w := run_part_int he rfl w
theorem part1 (he : P.underlying e = some (.int .i64)) (a : Int × Int) (w : World) : (Go.part e (pairV a) 1).run P w = .ok (.int .i64 a.2) w := run_part_int he rfl w
theorem chk_pair {i : TypeInfo} (hu : P.underlying kt = some (.array 2 e)) (he : P.underlying e = some (.int .i64)) (hi : P.info? e = some i) (hs : i.size = 1) (b : Bool) (n : Nat) (a : Int × Int) (w : World) : (Instr.checkKey b (n + 1 + 1) kt (.agg (pairV a))).run P w = .ok () w := by
  have hz : (sizeOf e).run P w = .ok 1 w := by simp [sizeOf, typeInfo, program, Sem.run, hi, hs]
  have hr : List.range' 0 2 = [0, 1] := rfl
  rw [Instr.checkKey]
  simp only [Sem.run_bind, run_underlying hu, Result.andThen_ok]
  simp only [Std.Legacy.Range.forIn_eq_forIn_range', Std.Legacy.Range.size, Nat.sub_zero, Nat.add_one_sub_one, Nat.div_one]
  rw [hr]
  simp only [List.forIn_cons, List.forIn_nil, Sem.run_bind, hz, Result.andThen_ok, Sem.run_pure, Nat.mul_one, part0 he, part1 he, chk_int b n he]
theorem eq_pair {i : TypeInfo} (hu : P.underlying kt = some (.array 2 e)) (he : P.underlying e = some (.int .i64)) (hi : P.info? e = some i) (hs : i.size = 1) (n : Nat) (a b : Int × Int) (w : World) : (Op.equalIn (n + 1 + 1) kt (.agg (pairV a)) (.agg (pairV b))).run P w = .ok (decide (a = b)) w := by
  have hsz : P.cellsOf e = 1 := by simp [Program.cellsOf, hi, hs]
  rw [run_equalIn_array w (n + 1) _ _ hu hi, hsz]
  show (Op.eqItems (n + 1) e 1 _ _ [0, 1]).run P w = _
  simp only [Op.eqItems, Sem.run_bind, Nat.mul_one, part0 he, part1 he, Result.andThen_ok, eq_int n he, Sem.run_pure]
  obtain ⟨a1, a2⟩ := a
  obtain ⟨b1, b2⟩ := b
  by_cases h1 : a1 = b1 <;> by_cases h2 : a2 = b2 <;> simp [h1, h2, Sem.run_bind, part1 he, eq_int n he, Op.eqItems]
theorem pairKey {i : TypeInfo} (hu : P.underlying kt = some (.array 2 e)) (he : P.underlying e = some (.int .i64)) (hi : P.info? e = some i) (hs : i.size = 1) : MapKey P kt (fun p : Int × Int => Value.agg (pairV p)) where
  chk := fun b a w => chk_pair hu he hi hs b 9998 a w
  eql := fun a b w => eq_pair hu he hi hs 9998 a b w
  now := ⟨_, hu, .inr fun a b => by simp only [Instr.sameNow]⟩
  bits := fun a => by
    have h := fun (n : Nat) (x : Int) => show Instr.sameBits n (.int .i64 x) (.int .i64 x) = true by unfold Instr.sameBits; simp
    show Instr.sameBits (9999 + 1) _ _ = true
    rw [Instr.sameBits]
    simp only [List.zip_cons_cons, List.all_cons, h]
    rfl
end
end PW
end Go.Proofs.YtbpgndbjbaoolaaGreat
