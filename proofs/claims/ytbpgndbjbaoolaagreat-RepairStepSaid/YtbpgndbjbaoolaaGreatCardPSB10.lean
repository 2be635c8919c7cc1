/- Texts of the proof, part 10. -/
import Derived.Test.YtbpgndbjbaoolaaGreatCardPSB9
/- Stable segments: Segment of both, the reference's stands, List, Least. -/
namespace Go.Proofs.YtbpgndbjbaoolaaGreat
set_option linter.unusedVariables false
set_option linter.unusedSimpArgs false
namespace PW
open Go.RowKit Reg Mem Net

noncomputable def sgB (T : Topo) (D : List Bool) (x y : Int) : Bool := (((validB T && fitsB T D) && !decide (x = y)) && uniqB T [] x y) && clearB D (spathL T [] x.toNat y.toNat)
theorem uniq_sp {T : Topo} {D : List Bool} {x y : Int} (h : uniqB T D x y = true) : spE T D x y = 0 := by
  unfold uniqB at h
  rw [Bool.and_eq_true, decide_eq_true_eq, decide_eq_true_eq] at h
  obtain ⟨h1, h2⟩ := h
  obtain ⟨hv, hf, hn, hd⟩ := nodeE_zero h1
  rw [nodeB_iff] at hn hd
  obtain ⟨a, rfl⟩ := Int.eq_ofNat_of_zero_le hn.1
  obtain ⟨b, rfl⟩ := Int.eq_ofNat_of_zero_le hd.1
  simp only [Int.toNat_natCast] at h2
  unfold spE
  rw [if_pos h1, if_neg]
  simp only [Int.toNat_natCast]
  intro h0
  rw [cnt_unr hv hd.2 hn.2 h0] at h2
  omega
section
variable {T : Topo} {D : List Bool} {n : Int} {p : List Int}
theorem stands_cov (h : Fol T D n p) {i k x y : Nat} (hik : i < k) (hk : k ≤ p.length) (hx : endL T n (p.take i) = (x : Int)) (hy : endL T n (p.take k) = (y : Int)) : (sgB T D x y && sameB (spathL T [] x y) (partL p i k)) = covB T [] n p i k := by
  have hb := h.bare
  have ha := h.arcs
  have hv := h.valid
  obtain ⟨x', hx', hxN⟩ := end_node hv h.node ha i (by omega)
  obtain ⟨y', hy', hyN⟩ := end_node hv h.node ha k hk
  have e1 : x' = x := by omega
  have e2 : y' = y := by omega
  subst e1
  subst e2
  rw [Bool.eq_iff_iff, cov_sp hb (by omega) hk hx hy]
  unfold sgB sameB
  simp only [Int.toNat_natCast, Bool.and_eq_true, Bool.not_eq_true', decide_eq_true_eq, decide_eq_false_iff_not]
  constructor
  · rintro ⟨⟨⟨_, h3⟩, h4⟩, h5⟩
    exact ⟨uniq_sp h3, h3, h5⟩
  · rintro ⟨h1, h2, h3⟩
    refine ⟨⟨⟨⟨⟨hv, h.fits⟩, fun e => ?_⟩, h2⟩, ?_⟩, h3⟩
    · have e2 : x' = y' := by omega
      subst e2
      rw [spE_zero hv (fits_nil T) hxN hxN] at h1
      have hsp := spath_sp (D := []) hv hxN hxN (by split at h1 <;> omega)
      have h6 := hsp.self
      rw [h6] at h3
      have := part_len p (show i ≤ k by omega) hk
      rw [← h3] at this
      simp at this
      omega
    · rw [h3, clear_iff]
      exact fun a ha => h.up a (part_mem ha)
end
section
variable {P : Program} {σ : Sto} {t : Tms} {o : Oper}
end
end PW
end Go.Proofs.YtbpgndbjbaoolaaGreat

/- Stable lists: the reference's part and Check, package stable's Check. -/
namespace Go.Proofs.YtbpgndbjbaoolaaGreat
set_option linter.unusedVariables false
set_option linter.unusedSimpArgs false
namespace PW
open Go.RowKit Reg Mem Net

/-- The first index from j on whose node is x and up to which the path from i is covered. -/
noncomputable def fstP (T : Topo) (n : Int) (p : List Int) (x : Int) (i : Nat) : Nat → Nat → Option Nat
  | 0, _ => none
  | f + 1, j => if endL T n (p.take j) = x ∧ covB T [] n p i j = true then some j else fstP T n p x i f (j + 1)
/-- Where a stable segment leads from i. -/
noncomputable def stepP (T : Topo) (n : Int) (p : List Int) (i : Nat) (s : Seg) : Option Nat :=
  if s.kind = 2 ∧ i < p.length ∧ p.getD i 0 = s.num then some (i + 1)
  else if s.kind = 1 then fstP T n p s.num i (p.length - i) (i + 1)
  else none
noncomputable def ckB (T : Topo) (n : Int) (p : List Int) : Nat → List Seg → Bool
  | i, [] => decide (i = p.length)
  | i, s :: l => match stepP T n p i s with
    | some j => ckB T n p j l
    | none => false
/-- No node segment leads from a node to itself. -/
def noDeg (T : Topo) : Int → List Seg → Bool
  | _, [] => true
  | x, s :: l => if s.kind = 1 ∧ s.num = x then false else noDeg T (endS T s x).1 l
section
variable {T : Topo} {n : Int} {p : List Int}
theorem fstP_some {x : Int} {i : Nat} : ∀ (f j k : Nat), fstP T n p x i f j = some k → j ≤ k ∧ k < j + f ∧ endL T n (p.take k) = x ∧ covB T [] n p i k = true ∧ ∀ m, j ≤ m → m < k → ¬ (endL T n (p.take m) = x ∧ covB T [] n p i m = true)
  | 0, j, k, h => by simp [fstP] at h
  | f + 1, j, k, h => by
    simp only [fstP] at h
    split at h
    · rename_i h1; cases h; exact ⟨Nat.le_refl _, by omega, h1.1, h1.2, fun m h2 h3 => by omega⟩
    · rename_i h1
      obtain ⟨a, b, c, d, e⟩ := fstP_some f (j + 1) k h
      refine ⟨by omega, by omega, c, d, fun m h2 h3 => ?_⟩
      by_cases hm : m = j
      · subst hm; exact h1
      · exact e m (by omega) h3
theorem fstP_is {x : Int} {i : Nat} : ∀ (f j k : Nat), j ≤ k → k < j + f → endL T n (p.take k) = x → covB T [] n p i k = true → (∀ m, j ≤ m → m < k → ¬ (endL T n (p.take m) = x ∧ covB T [] n p i m = true)) → fstP T n p x i f j = some k
  | 0, j, k, h1, h2, _, _, _ => by omega
  | f + 1, j, k, h1, h2, h3, h4, h5 => by
    simp only [fstP]
    by_cases e : j = k
    · subst e; rw [if_pos ⟨h3, h4⟩]
    · rw [if_neg (h5 j (Nat.le_refl _) (by omega))]
      exact fstP_is f (j + 1) k (by omega) (by omega) h3 h4 (fun m h6 h7 => h5 m (by omega) h7)
/-- A stable step is a step that moves. -/
theorem step_iff (h : Fol T [] n p) {i : Nat} (hi : i ≤ p.length) (s : Seg) (j : Nat) : stepP T n p i s = some j ↔ stepX T [] n p i s = some j ∧ ¬ (s.kind = 1 ∧ s.num = endL T n (p.take i)) := by
  unfold stepP stepX
  by_cases h1 : s.kind = 2 ∧ i < p.length ∧ p.getD i 0 = s.num
  · rw [if_pos h1, if_pos h1]
    constructor
    · intro e; exact ⟨e, fun e2 => by omega⟩
    · intro e; exact e.1
  · rw [if_neg h1, if_neg h1]
    by_cases h2 : s.kind = 1
    · rw [if_pos h2, if_pos h2]
      constructor
      · intro e
        obtain ⟨a, b, c, d, _⟩ := fstP_some _ _ _ e
        have hf := cov_first h (show i ≤ j by omega) (by omega) d
        rw [c] at hf
        rw [hf, if_pos ⟨c, d⟩]
        refine ⟨rfl, fun e2 => ?_⟩
        have := fst_is (T := T) (n := n) (p := p) s.num (p.length - i) i i (Nat.le_refl _) (by omega) e2.2.symm (fun k h3 h4 => by omega)
        omega
      · rintro ⟨e1, e2⟩
        split at e1
        · rename_i h3
          simp only [Option.some.injEq] at e1
          have hge := fst_ge (T := T) (n := n) (p := p) s.num (p.length - i) i
          have hno := fst_no (T := T) (n := n) (p := p) s.num (p.length - i) i
          rw [e1] at h3 hge hno
          have hne : i ≠ j := fun e => e2 ⟨h2, by rw [e]; exact h3.1.symm⟩
          exact fstP_is _ _ _ (by omega) (by omega) h3.1 h3.2 (fun m h4 h5 h6 => hno m (by omega) h5 h6.1)
        · cases e1
    · rw [if_neg h2, if_neg h2]
      simp
theorem step_end (h : Fol T [] n p) {i j : Nat} (hi : i ≤ p.length) {s : Seg} (hst : stepX T [] n p i s = some j) : (endS T s (endL T n (p.take i))).1 = endL T n (p.take j) ∧ (endS T s (endL T n (p.take i))).2 = 0 ∧ j ≤ p.length := by
  have ha := h.arcs
  have hv := h.valid
  obtain ⟨x, hx, hxN⟩ := end_node hv h.node ha i hi
  have hnb : nodeB T (x : Int) = true := nodeB_iff.2 ⟨by omega, hxN⟩
  rw [hx]
  have hss := hst
  unfold stepX at hst
  split at hst
  · rename_i h1
    cases hst
    have hab := ha _ (getD_mem (d := 0) h1.2.1)
    have htl := part_tail h h1.2.1 hx
    have hed := endL_step T n p i h1.2.1
    rw [h1.2.2] at hab htl hed
    have hsg : segB T s = true := by unfold segB; rw [if_neg (by omega), if_pos h1.1]; exact hab
    have hes : endS T s x = (endL T n (p.take (i + 1)), 0) := by
      unfold endS
      rw [if_neg (by rw [hsg]; simp), if_neg (by rw [hnb]; simp), if_neg (by omega), if_pos h1.1, if_neg (by rw [htl]; simp), hed]
    rw [hes]
    exact ⟨rfl, rfl, h1.2.1⟩
  · split at hst
    · rename_i h2
      split at hst
      · rename_i h3
        simp only [Option.some.injEq] at hst
        have hge := fst_ge (T := T) (n := n) (p := p) s.num (p.length - i) i
        rw [hst] at h3 hge
        obtain ⟨y, hy, hyN⟩ := end_node hv h.node ha j (by omega)
        have hsy : s.num = (y : Int) := by rw [← h3.1]; exact hy
        have hsg : segB T s = true := by unfold segB; rw [if_pos h2, hsy]; exact nodeB_iff.2 ⟨by omega, hyN⟩
        have hes : endS T s x = (s.num, 0) := by
          unfold endS
          rw [if_neg (by rw [hsg]; simp), if_neg (by rw [hnb]; simp), if_pos h2]
        rw [hes]
        exact ⟨h3.1.symm, rfl, by omega⟩
      · cases hst
    · cases hst
/-- A list is stable if and only if it is exact without the mask, and moves. -/
theorem ck_iff (h : Fol T [] n p) : ∀ (l : List Seg) (i : Nat), i ≤ p.length → ckB T n p i l = (exB T [] n p i l && noDeg T (endL T n (p.take i)) l)
  | [], i, hi => by simp [ckB, exB, noDeg]
  | s :: l, i, hi => by
    simp only [ckB, exB, noDeg]
    cases hX : stepX T [] n p i s with
    | none =>
      have hP : stepP T n p i s = none := by
        cases hP : stepP T n p i s with
        | none => rfl
        | some j => have := ((step_iff h hi s j).1 hP).1; rw [hX] at this; cases this
      rw [hP]
      rfl
    | some j =>
      obtain ⟨e1, e2, e3⟩ := step_end h hi hX
      by_cases hd : s.kind = 1 ∧ s.num = endL T n (p.take i)
      · have hP : stepP T n p i s = none := by
          cases hP : stepP T n p i s with
          | none => rfl
          | some j => exact absurd hd ((step_iff h hi s j).1 hP).2
        rw [hP, if_pos hd]
        simp
      · rw [(step_iff h hi s j).2 ⟨hX, hd⟩, if_neg hd, e1]
        simp only
        exact ck_iff h l j e3
theorem deg_lst (h : Fol T [] n p) : ∀ (f i : Nat), i ≤ p.length → noDeg T (endL T n (p.take i)) (lstF T [] n p f i) = true
  | f, i, hi => by
    by_cases hlt : i < p.length
    · cases f with
      | zero => rfl
      | succ f =>
        cases ht : topD (covB T [] n p i) i p.length with
        | none =>
          rw [lst_none hlt (fun k h1 h2 => topD_isNone _ ht k h1 h2)]
          have hst : stepX T [] n p i ⟨2, p.getD i 0⟩ = some (i + 1) := by unfold stepX; rw [if_pos ⟨rfl, hlt, rfl⟩]
          simp only [noDeg]
          rw [if_neg (by rintro ⟨h1, _⟩; omega), (step_end h hi hst).1]
          exact deg_lst h f (i + 1) (by omega)
        | some j =>
          obtain ⟨t1, t2, t3, t4⟩ := topD_is _ _ ht
          rw [lst_some hlt t1 t2 t3 t4]
          have hf := cov_first h (show i ≤ j by omega) t2 t3
          have hst : stepX T [] n p i ⟨1, endL T n (p.take j)⟩ = some j := by
            unfold stepX
            simp only
            rw [if_neg (by omega), if_pos trivial, hf, if_pos ⟨rfl, t3⟩]
          simp only [noDeg]
          rw [if_neg, (step_end h hi hst).1]
          · exact deg_lst h f j t2
          · rintro ⟨_, h2⟩
            have := fst_is (T := T) (n := n) (p := p) (endL T n (p.take j)) (p.length - i) i i (Nat.le_refl _) (by omega) h2.symm (fun k h3 h4 => by omega)
            omega
    · rw [lst_end f i (by omega)]
      rfl
end
noncomputable def ckE (T : Topo) (D : List Bool) (l : List Seg) (n : Int) (p : List Int) : Bool := if folE T D n p = 0 then ckB T n p 0 l else false
end PW
end Go.Proofs.YtbpgndbjbaoolaaGreat

/- Package postconv: Path. -/
namespace Go.Proofs.YtbpgndbjbaoolaaGreat
set_option linter.unusedVariables false
set_option linter.unusedSimpArgs false
namespace PW
open Go.RowKit Reg Mem Net Rng

set_option maxRecDepth 10000 in
set_option maxHeartbeats 1000000 in
theorem pcfound_can (p : List Int) (u : PV) : CanS Tryz.prog 113 [intsV p, .ptr 0 0] [some (.cells 33 [u])] (fun r σ' => r = .tuple [] ∧ σ' = [some (.cells 33 [intsV p])]) := by
  refine canS_of Tryz.func113 rfl Tryz.ntmps113 rfl ?_
  refine W_region ?_
  refine WR_a 2 rfl <| WR_k [] rfl ?_
  exact ⟨_, ResL.of rfl, rfl, rfl⟩
set_option maxRecDepth 10000 in
set_option maxHeartbeats 1000000 in
theorem pcfind_can (T : Topo) (D : List Bool) (n d : Int) : CanS Tryz.prog 112 [topoV T, boolsV D, num n, num d, .func 113 [.ptr 0 0]] [some (.cells 33 [.raw (.slice none 0 0)])] (fun r σ' => r = num (spE T D n d) ∧ σ' = [some (.cells 33 [if spE T D n d = 0 then intsV (spathL T D n.toNat d.toNat) else .raw (.slice none 0 0)])]) := by
  refine canS_of Tryz.func112 rfl Tryz.ntmps112 rfl ?_
  refine W_cs (.a 2 rfl <| .k [1, 2, 3, 4, 5] rfl) ?_
  refine W_cs (.a 4 rfl <| .c rfl (spath_can T D n d) rfl <| .a 5 rfl <| .k [4, 11, 12] rfl) ?_
  refine W_seq ?_
  refine W_cs (.a 2 rfl <| .k [4, 11, 12, 22] rfl) ?_
  refine W_cond rfl (fun h1 => ?_) (fun h1 => ?_)
  · have he : spE T D n d = 0 := tt h1
    refine W_region ?_
    refine WR_a 2 rfl <| WR_cS rfl rfl (CanS.mono (pcfound_can _ _) (fun r σ' h => ?_))
    obtain ⟨rfl, rfl⟩ := h
    refine WR_k [12] rfl ?_
    refine W_cs (.a 2 rfl <| .k [10] rfl) ?_
    refine W_ret ?_
    first
      | exact ⟨_, ResL.of rfl, rfl, by rw [if_neg he]⟩
      | exact ⟨_, ResL.of rfl, rfl, by simp only [if_pos he]⟩
  · have he : ¬ spE T D n d = 0 := ff h1
    refine W_skip ?_
    refine W_cs (.a 2 rfl <| .k [10] rfl) ?_
    refine W_ret ?_
    first
      | exact ⟨_, ResL.of rfl, rfl, by rw [if_neg he]⟩
      | exact ⟨_, ResL.of rfl, rfl, by simp only [if_pos he]⟩
set_option maxRecDepth 10000 in
set_option maxHeartbeats 1000000 in
theorem pcpath_can (T : Topo) (D : List Bool) (n d : Int) : Can Tryz.prog 71 [topoV T, boolsV D, num n, num d] (· = intsE (spE T D n d) (spathL T D n.toNat d.toNat)) := by
  obtain ⟨u, hu⟩ : ∃ u : PV, (if spE T D n d = 0 then intsV (spathL T D n.toNat d.toNat) else .raw (.slice none 0 0)) = u := ⟨_, rfl⟩
  have hf := pcfind_can T D n d
  rw [hu] at hf
  refine can_of Tryz.func71 rfl Tryz.ntmps71 rfl ?_
  refine W_cs (.a 3 rfl <| .k [1, 2, 3, 4] rfl) ?_
  refine W_rs ?_
  refine WR_a 1 rfl <| WR_k [1, 2, 3, 4, 10] rfl ?_
  refine W_rs ?_
  refine WR_a 5 rfl <| WR_cS rfl rfl (CanS.mono hf (fun r σ' h => ?_))
  obtain ⟨rfl, rfl⟩ := h
  refine WR_a 1 rfl <| WR_k [10, 11] rfl ?_
  refine W_cs (.v (y_ld rfl ((show some u = some u from rfl))) rfl <| .a 3 rfl <| .k [8, 9] rfl) ?_
  refine W_ret ?_
  refine ⟨_, _, ResL.of rfl, Pur.tupleL (PurL.cons (y := intsV (if spE T D n d = 0 then spathL T D n.toNat d.toNat else [])) ?_ (PurL.cons Pur.pure PurL.nil)), rfl⟩
  rw [← hu]
  by_cases he : spE T D n d = 0
  · rw [if_pos he, if_pos he]; exact Pur.pure
  · rw [if_neg he, if_neg he]; exact Pur.nils
end PW
end Go.Proofs.YtbpgndbjbaoolaaGreat

/- Stable node segments: parts, fewer failures, next arcs. Plain mathematics. -/
namespace Go.Proofs.YtbpgndbjbaoolaaGreat
set_option linter.unusedVariables false
set_option linter.unusedSimpArgs false
namespace PW
open Go.RowKit Reg Mem Net

section
variable {T : Topo} {D : List Bool}
theorem ch_walkF {d : Nat} : ∀ {m : Nat} {q : List Int}, Ch T D d m q → (q = [] ∨ overN T m = false) → walkE T false m q = 0
  | m, [], _, _ => rfl
  | m, a :: q, h, ho => by
    cases h with
    | @cons _ b k _ ha ht hu hm hov hp =>
      rw [walk_step (arcB_iff.2 ⟨by omega, by omega⟩) (by rw [Int.toNat_natCast]; exact ht) (.inr (by rcases ho with h | h; cases h; rw [Int.toNat_natCast]; exact h)), Int.toNat_natCast, hm]
      exact ch_walkF hp hov
theorem ch_walk {d m : Nat} {q : List Int} (h : Ch T D d m q) : walkE T true m q = 0 := by
  cases h with
  | nil => rfl
  | @cons _ b k q ha ht hu hm hov hp =>
    rw [walk_step (arcB_iff.2 ⟨by omega, by omega⟩) (by rw [Int.toNat_natCast]; exact ht) (.inl rfl), Int.toNat_natCast, hm]
    exact ch_walkF hp hov
theorem Ch.bare {d m : Nat} {q : List Int} (h : Ch T D d m q) : Ch T [] d m q := by
  induction h with
  | nil => exact .nil
  | cons ha ht hu hm ho hp ih => exact .cons ha ht (by simp [downN]) hm ho ih
theorem Ch.mask {d m : Nat} {q : List Int} (h : Ch T [] d m q) (hc : ∀ a ∈ q, downN D a.toNat = false) : Ch T D d m q := by
  induction h with
  | nil => exact .nil
  | @cons n a m p ha ht hu hm ho hp ih => exact .cons ha ht (by have := hc a (by simp); rw [Int.toNat_natCast] at this; exact this) hm ho (ih fun b hb => hc b (by simp [hb]))
/-- What a stable node segment is. -/
structure Stab (T : Topo) (D : List Bool) (x y : Nat) (p : List Int) : Prop where
  valid : validB T = true
  fits : fitsB T D = true
  ne : x ≠ y
  hx : (x : Int) < T.nodes
  hy : (y : Int) < T.nodes
  uniq : uniqB T [] x y = true
  sp : SP T [] y x p
  up : ∀ a ∈ p, downN D a.toNat = false
variable {x y : Nat} {p : List Int}
theorem Stab.pos (h : Stab T D x y p) : 0 < p.length := by
  have hsp := h.sp
  cases hsp with
  | nil => exact absurd rfl h.ne
  | cons _ _ _ => simp
theorem Stab.fol (h : Stab T D x y p) : Fol T D x p := ⟨h.valid, h.fits, nodeB_iff.2 ⟨by omega, h.hx⟩, ch_walk h.sp.ch, h.up⟩
theorem Stab.cnt (h : Stab T D x y p) : cntS T [] y x = 1 := (uniq_iff h.valid (fits_nil T) h.hx h.hy).1 h.uniq
theorem Stab.cov (h : Stab T D x y p) : covB T [] x p 0 p.length = true := by
  have he : endL T (x : Int) (p.take p.length) = (y : Int) := by rw [List.take_length]; exact h.sp.ch.fin
  rw [cov_iff h.fol.bare (Nat.zero_le _) (Nat.le_refl _) (u := x) rfl he]
  have : partL p 0 p.length = p := by unfold partL; simp
  rw [this]
  exact ⟨h.sp, h.cnt⟩
/-- The node segment between two nodes of the path. -/
theorem Stab.part (h : Stab T D x y p) {i k : Nat} (hik : i ≤ k) (hk : k < p.length) : sgB T D (tailN T (p.getD i 0).toNat) (headN T (p.getD k 0).toNat) = true := by
  have hF := h.fol
  have ha := hF.arcs
  have hc := cov_sub hF.bare (i := 0) (j := p.length) (i' := i) (j' := k + 1) (Nat.zero_le _) (by omega) (by omega) (Nat.le_refl _) h.cov
  obtain ⟨u, hu, huN⟩ := end_node h.valid hF.node ha i (by omega)
  obtain ⟨v, hv, hvN⟩ := end_node h.valid hF.node ha (k + 1) (by omega)
  rw [part_tail hF (by omega) hu, ← endL_step T x p k hk, hv]
  rw [← stands_cov hF (by omega) (by omega) hu hv, Bool.and_eq_true] at hc
  exact hc.1
/-- The only next arc, with and without the mask. -/
theorem Stab.next (h : Stab T D x y p) {i u : Nat} (hi : i < p.length) (hu : endL T x (p.take i) = (u : Int)) : nextL T [] u y = [p.getD i 0] ∧ nextL T D u y = [p.getD i 0] ∧ (u : Int) < T.nodes := by
  have hF := h.fol
  have hv := h.valid
  have ha := hF.arcs
  obtain ⟨u', hu', huN⟩ := end_node hv hF.node ha i (by omega)
  have : u' = u := by omega
  subst this
  have hfin : endL T (x : Int) (p.take p.length) = (y : Int) := by rw [List.take_length]; exact h.sp.ch.fin
  have hch := hF.bare.ch (i := 0) (j := i) (Nat.zero_le _) (by omega) (u := x) rfl hu
  have hpp : partL p 0 i ++ partL p i p.length = p := by rw [← part_split p (Nat.zero_le _) (by omega)]; unfold partL; simp
  have hsp := h.sp
  rw [← hpp] at hsp
  obtain ⟨s1, s2⟩ := hsp.suffix hv h.hy h.cnt hch
  have hdr : partL p i p.length = p.getD i 0 :: p.drop (i + 1) := by
    unfold partL
    rw [List.take_of_length_le (by simp), drop_cons p i hi]
  rw [hdr] at s1
  have hup : ∀ c ∈ p.getD i 0 :: p.drop (i + 1), downN D c.toNat = false := fun c hc => by
    rw [← drop_cons p i hi] at hc
    exact h.up c (List.mem_of_mem_drop hc)
  have hchD := s1.ch.mask hup
  have hd0 := s1.cost hv h.hy
  generalize p.getD i 0 = a0 at *
  generalize p.drop (i + 1) = q at *
  cases s1 with
  | @cons _ a m _ hn hm hq =>
    obtain ⟨b, hb, _, _⟩ := cnt_one hv h.hy huN hn.ne s2
    have hab := next_of hn ((sound_of hv).cost a hn.arc).1
    rw [hb] at hab
    simp only [List.mem_singleton] at hab
    rw [← hab] at hb
    refine ⟨hb, ?_, huN⟩
    have hDle := hchD.le hv h.hy
    have mono : ∀ k : Nat, (k : Int) < T.nodes → 0 ≤ dN T D y k → 0 ≤ dN T [] y k ∧ dN T [] y k ≤ dN T D y k := fun k hk h0 => by
      have hs := spath_sp hv h.hy hk h0
      have := hs.ch.bare.le hv h.hy
      rw [← (hs.cost hv h.hy).1] at this
      exact this
    have hmu := mono u' huN hDle.1
    have heq : dN T D y u' = dN T [] y u' := by omega
    have hall : ∀ c ∈ nextL T D u' y, c = (a : Int) := fun c hc => by
      obtain ⟨k, rfl, hk⟩ := next_mem hc
      obtain ⟨z, hz, hzN⟩ := head_nat hv hk.arc
      have g := hk.dN hz
      have g2 := mono z hzN g.1
      have hs := spath_sp (D := []) hv h.hy hzN g2.1
      have hch2 : Ch T [] y u' ((k : Int) :: spathL T [] z y) := .cons hk.arc hk.tail (by simp [downN]) hz (by
        rcases hk.pass with e | e
        · left
          have : z = y := by omega
          subst this
          exact hs.self
        · right
          rw [hz, Int.toNat_natCast] at e
          exact e) hs.ch
      have g3 := hch2.le hv h.hy
      rw [costL_cons, ← (hs.cost hv h.hy).1, Int.toNat_natCast] at g3
      have hnr : Nearer T [] u' y k := ⟨hk.arc, hk.tail, by simp [downN], hk.ne, by rw [hz, Int.toNat_natCast]; exact g2.1, hk.pass, by
        rw [hz, Int.toNat_natCast]
        show dN T [] y u' = dN T [] y z + costN T k
        omega⟩
      have := next_of hnr ((sound_of hv).cost k hk.arc).1
      rw [hb] at this
      simpa using this
    obtain ⟨k, hk⟩ := next_ex (D := D) hv huN h.hy hn.ne hDle.1
    have hmem := next_of hk ((sound_of hv).cost k hk.arc).1
    have hso := next_sorted T D u' y
    cases hx : nextL T D u' y with
    | nil => rw [hx] at hmem; cases hmem
    | cons c l =>
      rw [hx] at hall hso
      have hc := hall c (by simp)
      subst hc
      cases l with
      | nil => rfl
      | cons c2 l =>
        have := hall c2 (by simp)
        have h3 := (List.pairwise_cons.1 hso).1 c2 (by simp)
        omega
end
end PW
end Go.Proofs.YtbpgndbjbaoolaaGreat

/- The example of the laws: a ring of four nodes, its distances. -/
namespace Go.Proofs.YtbpgndbjbaoolaaGreat
set_option linter.unusedVariables false
set_option linter.unusedSimpArgs false
namespace PW
open Go.RowKit Reg Mem Net

def ringL (k : Nat) : List Lnk := (List.range k).map fun (i : Nat) => ⟨(i : Int), (((i + 1) % 4 : Nat) : Int), 1, 1, 0, 1, 0⟩
def ringT : Topo := ⟨4, [], ringL 4⟩
def ringD (d : Nat) : List Int := match d with
  | 0 => [0, 1, 2, 1]
  | 1 => [1, 0, 1, 2]
  | 2 => [2, 1, 0, 1]
  | _ => [1, 2, 1, 0]
theorem ring_valid : validB ringT = true := by kernel_rfl
def wayB (T : Topo) (n : Nat) (out : List Int) (a : Nat) : Bool := decide (0 ≤ at' out (arcY T false a)) && (decide (arcY T false a = (n : Int)) || !overN T (arcY T false a).toNat)
def distB (n : Nat) (out : List Int) : Bool :=
  decide (out.length = 4) && decide (at' out (n : Int) = 0) && (List.range 4).all (fun x => decide (0 ≤ at' out (x : Int))) &&
  (List.range 8).all (fun a => !wayB ringT n out a || (decide (0 ≤ at' out (arcX ringT false a)) && decide (at' out (arcX ringT false a) ≤ at' out (arcY ringT false a) + costN ringT a))) &&
  (List.range 4).all (fun x => decide (x = n) || (List.range 8).any fun a => decide (arcX ringT false a = (x : Int)) && wayB ringT n out a && decide (at' out (x : Int) = at' out (arcY ringT false a) + costN ringT a))
theorem way_iff (n : Nat) (out : List Int) (a : Nat) : Net.Way ringT [] n false out a ↔ wayB ringT n out a = true := by
  unfold Net.Way wayB
  have : downN [] a = false := by simp [downN]
  simp [this]
theorem dist_of {n : Nat} {out : List Int} (h : distB n out = true) : IsDist ringT [] n false out := by
  simp only [distB, Bool.and_eq_true, decide_eq_true_eq, List.all_eq_true, List.mem_range, Bool.or_eq_true, Bool.not_eq_true', List.any_eq_true] at h
  obtain ⟨⟨⟨⟨h1, h2⟩, h3⟩, h4⟩, h5⟩ := h
  refine ⟨by rw [h1]; rfl, h2, fun x hx => ?_, fun a ha hw => ?_, fun x hx _ => ?_⟩
  · have := h3 x (by have : ringT.nodes = 4 := rfl; omega); omega
  · rcases h4 a (by have : ringT.links.length = 4 := rfl; omega) with h | h
    · rw [(way_iff n out a).1 hw] at h; cases h
    · exact h
  · rcases h5 x (by have : ringT.nodes = 4 := rfl; omega) with h | ⟨a, ha, ⟨h6, h7⟩, h8⟩
    · exact .inl h
    · exact .inr ⟨a, by have : ringT.links.length = 4 := rfl; omega, h6, (way_iff n out a).2 h7, h8⟩
theorem lnksP_snoc (l : List Lnk) (e : Lnk) : lnksP l ++ lnkP e = lnksP (l ++ [e]) := by simp [lnksP]
theorem ringL_step (k : Nat) : ringL (k + 1) = ringL k ++ [⟨(k : Int), (((k + 1) % 4 : Nat) : Int), 1, 1, 0, 1, 0⟩] := by simp [ringL, List.range_succ]
/-- A pair of constants. -/
theorem y_build2 {P : Program} {σ : Sto} {t : Tms} {o : Oper} {ty : TypeId} {v0 v1 c0 c1 : Value} (ho : o.op = .build ty #[(0, .const v0), (1, .const v1)]) (hb : P.built ty [(0, v0), (1, v1)] = some #[c0, c1]) : Yield P σ t o (.agg [.raw c0, .raw c1]) := by
  intro F base E ρ w hρ hS hT
  have hrun := run_build (P := P) w ty #[(0, v0), (1, v1)] #[c0, c1] hb
  have h0 : ρ (.const v0) = v0 := hρ.const v0
  have h1 : ρ (.const v1) = v1 := hρ.const v1
  have hr : (execOp ρ o).run P w = .ok (.value (.agg #[c0, c1])) w := by
    simp only [execOp, ho, Sem.run_bind, List.map_toArray, List.map_cons, List.map_nil, h0, h1, hrun, Result.andThen_ok, Sem.run_pure]
  rw [hr]
  refine upon_val (.agg #[c0, c1] _ rfl (fun i x u k1 k2 => ?_))
  match i, k1, k2 with
  | 0, k1, k2 => simp at k1 k2; subst k1; subst k2; exact .raw _
  | 1, k1, k2 => simp at k1 k2; subst k1; subst k2; exact .raw _
  | _ + 2, k1, k2 => simp at k2
end PW
end Go.Proofs.YtbpgndbjbaoolaaGreat

/- Texts of segments with small numbers: the reference of layers 9 and 18. -/
namespace Go.Proofs.YtbpgndbjbaoolaaGreat
set_option linter.unusedVariables false
set_option linter.unusedSimpArgs false
namespace PW
open Go.RowKit Reg Mem Net

abbrev strB (l : List UInt8) : PV := .raw (.string ⟨l.toArray⟩)
theorem bytes_no (a b : UInt8) : ((⟨#[a, b]⟩ : ByteArray).toList == (⟨#[]⟩ : ByteArray).toList) = false := by
  have h : ∀ (ba : ByteArray) i r, ByteArray.toList.loop ba i r = if i < ba.size then ByteArray.toList.loop ba (i + 1) (ba.get! i :: r) else r.reverse := fun ba i r => by rw [ByteArray.toList.loop]
  have h2 : (⟨#[]⟩ : ByteArray).toList = [] := by
    unfold ByteArray.toList
    rw [h, if_neg (by show ¬ 0 < 0; omega)]
    rfl
  have h3 : (⟨#[a, b]⟩ : ByteArray).toList = [a, b] := by
    unfold ByteArray.toList
    rw [h, if_pos (by show 0 < 2; omega), h, if_pos (by show 1 < 2; omega), h, if_neg (by show ¬ 2 < 2; omega)]
    rfl
  rw [h2, h3]
  rfl
theorem cat_bytes (a b : List UInt8) : (⟨a.toArray⟩ : ByteArray) ++ ⟨b.toArray⟩ = ⟨(a ++ b).toArray⟩ := by
  apply ByteArray.ext
  simp
theorem y_catB {P : Program} {σ : Sto} {t : Tms} {o : Oper} {x y : Operand} {ty tz : TypeId} {a b : List UInt8} (ho : o.op = .binOp .add ty x y tz) (hx : evalO t x = some (strB a)) (hy : evalO t y = some (strB b)) (hn : a.length + b.length ≤ 1000000) : Yield P σ t o (strB (a ++ b)) :=
  y_cat ho hx hy (cat_bytes a b) (by show a.toArray.size + b.toArray.size ≤ _; simp; omega)
theorem y_oneByte {P : Program} {σ : Sto} {t : Tms} {o : Oper} {src dst e : TypeId} {x : Operand} {c : UInt8} (ho : o.op = .convert src dst x) (hs : P.underlying src = some (.slice e)) (hd : P.underlying dst = some .string) (he : P.underlying e = some (.int .u8)) (hx : evalO t x = some (.slice 1 [.raw (.int .u8 c.toNat)])) : Yield P σ t o (strB [c]) := by
  intro F base E ρ w hρ _ hT
  have h1 := evalO_rep hρ hT hx
  generalize hz : ρ x = z at h1
  cases h1 with
  | slice b off _ cap cs _ h0 h1 h2 hb hM hc hl hr =>
    match cs, hl, hc, hr with
    | [v], _, hc, hr =>
      have hv := rep_raw (hr 0 v _ rfl rfl)
      subst hv
      have hlc := run_loadCellsFrom (P := P) ⟨b, off, none⟩ rfl [.int .u8 c.toNat] 0 #[] w (fun j x hx => by rw [Nat.zero_add]; exact hc j x hx)
      have hrun : (convert src dst (.slice (some ⟨b, off, none⟩) 1 cap)).run P w = .ok (.string ⟨[c].toArray⟩) w := by
        simp only [convert, Sem.run_bind, run_underlying hs, run_underlying hd, run_underlying he, Result.andThen_ok, Conv.bytesToString, loadCells]
        rw [show (1 : Nat) = [Value.int .u8 c.toNat].length from rfl, hlc]
        simp
        rfl
      simp only [execOp, ho, hz, Sem.run_bind, hrun]
      exact upon_val (.raw _)
theorem y_addU {P : Program} {σ : Sto} {t : Tms} {o : Oper} {x y : Operand} {ty tz : TypeId} {a b c : Int} (ho : o.op = .binOp .add ty x y tz) (hx : evalO t x = some (.raw (.int .u64 a))) (hy : evalO t y = some (.raw (.int .u64 b))) (hc : IntKind.u64.wrap (a + b) = c) : Yield P σ t o (.raw (.int .u64 c)) :=
  y_int ho hx hy fun w => by simp [binOp, Op.intArith, hc]
def dig (n : Nat) : UInt8 := UInt8.ofNat (48 + n)
theorem dig_nat {n : Nat} (h : n < 10) : (dig n).toNat = 48 + n := by unfold dig; rw [UInt8.toNat_ofNat']; omega
set_option maxRecDepth 10000 in
set_option maxHeartbeats 1000000 in
theorem digits_can (n : Nat) (hn : n < 10) : Can Tryz.prog 162 [.raw (.int .u64 n)] (· = strB [dig n]) := by
  refine can_of Tryz.func162 rfl Tryz.ntmps162 rfl ?_
  refine W_cs (.a 1 rfl <| .k [0] rfl) ?_
  refine W_seq ?_
  refine W_cs (.a 1 rfl <| .v (y_lss rfl rfl rfl rfl) rfl <| .k [0, 4] rfl) ?_
  refine W_cond rfl (fun hc => ?_) (fun hc => ?_)
  · refine W_cs (.a 1 rfl <| .v (y_addU (c := ((dig n).toNat : Int)) rfl rfl rfl (by rw [IntKind.wrap_u64, dig_nat hn]; omega)) rfl <| .v (y_conv rfl Tryz.underlying172 Tryz.underlying5 rfl (u8_wrap _ (by rw [dig_nat hn]; omega))) rfl <| .a 1 rfl <| .v (y_oneByte rfl Tryz.underlying176 Tryz.underlying9 Tryz.underlying5 rfl) rfl <| .a 1 rfl <| .k [2] rfl) ?_
    refine W_ret ?_
    exact ⟨_, _, ResL.of rfl, Pur.pure, rfl⟩
  · exact absurd (ff hc) (by omega)
set_option maxRecDepth 10000 in
set_option maxHeartbeats 1000000 in
theorem number_can (n : Nat) (hn : n < 10) : Can Tryz.prog 140 [num n] (· = strB [dig n]) := by
  refine can_of Tryz.func140 rfl Tryz.ntmps140 rfl ?_
  refine W_cs (.a 1 rfl <| .k [0] rfl) ?_
  refine W_seq ?_
  refine W_cs (.a 2 rfl <| .k [0, 4] rfl) ?_
  refine W_cond rfl (fun hc => ?_) (fun hc => ?_)
  · exact absurd (tt hc) (by omega)
  · refine W_skip ?_
    refine W_cs (.a 1 rfl <| .v (y_conv (c := (n : Int)) rfl Tryz.underlying3 Tryz.underlying172 rfl (by rw [IntKind.wrap_u64]; omega)) rfl <| .c rfl (digits_can n hn) rfl <| .a 1 rfl <| .k [2] rfl) ?_
    refine W_ret ?_
    exact ⟨_, _, ResL.of rfl, Pur.pure, rfl⟩
theorem y_build5 {P : Program} {σ : Sto} {t : Tms} {o : Oper} {ty : TypeId} {v0 v1 v2 v3 v4 : Value} (ho : o.op = .build ty #[(0, .const v0), (1, .const v1), (2, .const v2), (3, .const v3), (4, .const v4)]) (hb : P.built ty [(0, v0), (1, v1), (2, v2), (3, v3), (4, v4)] = some #[v0, v1, v2, v3, v4]) : Yield P σ t o (.agg [.raw v0, .raw v1, .raw v2, .raw v3, .raw v4]) := by
  intro F base E ρ w hρ hS hT
  have hrun := run_build (P := P) w ty #[(0, v0), (1, v1), (2, v2), (3, v3), (4, v4)] #[v0, v1, v2, v3, v4] hb
  have hr : (execOp ρ o).run P w = .ok (.value (.agg #[v0, v1, v2, v3, v4])) w := by
    simp only [execOp, ho, Sem.run_bind, List.map_toArray, List.map_cons, List.map_nil, hρ.const, hrun, Result.andThen_ok, Sem.run_pure]
  rw [hr]
  refine upon_val (.agg #[v0, v1, v2, v3, v4] _ rfl (fun i x u k1 k2 => ?_))
  match i, k1, k2 with
  | 0, k1, k2 => simp at k1 k2; subst k1; subst k2; exact .raw _
  | 1, k1, k2 => simp at k1 k2; subst k1; subst k2; exact .raw _
  | 2, k1, k2 => simp at k1 k2; subst k1; subst k2; exact .raw _
  | 3, k1, k2 => simp at k1 k2; subst k1; subst k2; exact .raw _
  | 4, k1, k2 => simp at k1 k2; subst k1; subst k2; exact .raw _
  | _ + 5, k1, k2 => simp at k2
abbrev kindP : List PV := [strB [], strB [110], strB [97], strB [103], strB [98]]
set_option maxRecDepth 10000 in
set_option maxHeartbeats 1000000 in
theorem stext_can (n : Nat) (hn : n < 10) : Can Tryz.prog 99 [segV ⟨1, n⟩] (· = strB [110, dig n]) := by
  obtain ⟨q1, hq1⟩ : ∃ q, decide ((n : Int) < 0) = q := ⟨_, rfl⟩
  obtain ⟨q2, hq2⟩ : ∃ q, decide ((999999999 : Int) < (n : Int)) = q := ⟨_, rfl⟩
  refine can_of Tryz.func99 rfl Tryz.ntmps99 rfl ?_
  refine W_cs (.a 2 rfl <| .k [1] rfl) ?_
  refine W_seq ?_
  refine W_csK 21 (.raw (.bool (q1 || q2))) [1] rfl ?_ ?_
  · refine .a 11 rfl <| .v (y_q rfl (hq1)) rfl <| .a 2 rfl <| ?_
    cases q1
    · exact .a 2 rfl <| .v (y_q rfl (hq2)) rfl <| .a 1 rfl <| .k [21, 1] rfl
    · exact .a 4 rfl <| .k [21, 1] rfl
  refine W_cond rfl (fun hc => ?_) (fun hc => ?_)
  · have e1 : q1 = false := by rw [← hq1]; exact decide_eq_false (by omega)
    have e2 : q2 = false := by rw [← hq2]; exact decide_eq_false (by omega)
    rw [e1, e2] at hc
    cases hc
  · refine W_skip ?_
    refine W_rs ?_
    refine WR_v (y_build5 rfl (by kernel_rfl)) rfl <| WR_a 2 rfl <| WR_k [1, 3] rfl ?_
    refine W_sto (σ' := [some (.cells 149 kindP)]) rfl ?_
    refine W_sealPtr 3 0 0 rfl rfl ?_
    refine W_ren [] (.cons 1 rfl Ren.pure <| .cons 3 rfl (Ren.pure (p := .pin kindP 0)) .nil) .nil rfl rfl ?_
    refine W_drs mixed (by kernel_rfl) (.a 2 rfl <| .v [3, 24] (y_ix (1) rfl (show (0 : Int) ≤ 1 by decide) (show (1 : Int) < 5 by decide) rfl) rfl rfl <| .v [25] (y_ld rfl ((show kindP[1]? = some (strB [110]) from rfl))) rfl rfl <| .a 2 rfl <| .v [28] (y_c rfl (number_can n hn)) rfl rfl <| .v [26, 29] (y_catB rfl rfl rfl (by simp)) rfl rfl <| .a 1 rfl <| .k [2] rfl) ?_
    refine W_ret ?_
    exact ⟨_, _, ResL.of rfl, Pur.pure, rfl⟩
def txtK (l : List Nat) (k : Nat) : List UInt8 := ((List.range k).flatMap fun i => (if 0 < i then [32] else []) ++ [110, dig (l.getD i 0)])
theorem txtK_step (l : List Nat) (k : Nat) : txtK l (k + 1) = txtK l k ++ ((if 0 < k then [32] else []) ++ [110, dig (l.getD k 0)]) := by
  unfold txtK
  rw [List.range_succ, List.flatMap_append]
  simp
theorem txtK_len (l : List Nat) (k : Nat) : (txtK l k).length ≤ 3 * k := by
  induction k with
  | zero => simp [txtK]
  | succ k ih => rw [txtK_step]; simp only [List.length_append]; split <;> simp <;> omega
def nodeS (l : List Nat) : List Seg := l.map fun (n : Nat) => (⟨1, (n : Int)⟩ : Seg)
set_option maxRecDepth 10000 in
set_option maxHeartbeats 1000000 in
theorem tlist_can (l : List Nat) (hl : ∀ n ∈ l, n < 10) (hll : l.length ≤ 1000) : Can Tryz.prog 50 [segsV (nodeS l)] (· = strB (txtK l l.length)) := by
  have hsl : (nodeS l).length = l.length := by simp [nodeS]
  refine can_of Tryz.func50 rfl Tryz.ntmps50 rfl ?_
  refine W_cs (.a 1 rfl <| .k [0] rfl) ?_
  refine W_cs (.a 1 rfl <| .k [0, 3] rfl) ?_
  refine W_seq ?_
  refine W_cs (.a 1 rfl <| .k [0, 3, 4] rfl) ?_
  refine W_block ?_
  refine W_k [0, 3, 4] rfl ?_
  refine W_loop (fun r st => ∃ k : Nat, k ≤ l.length ∧ r = l.length - k ∧ st = ⟨[(0, segsV (nodeS l)), (3, strB (txtK l k)), (4, num k)], []⟩) l.length ⟨0, by omega, by omega, rfl⟩ ?_
  rintro r st ⟨k, hk, rfl, rfl⟩
  have htl := txtK_len l k
  refine W_seq ?_
  refine W_cs (.a 4 rfl <| .k [0, 3, 4, 8] rfl) ?_
  refine W_cond rfl (fun h1 => ?_) (fun h1 => ?_)
  · have hlt : k < l.length := by have := tt h1; omega
    have hg : (nodeS l)[k]? = some ⟨1, ((l.getD k 0 : Nat) : Int)⟩ := by simp [nodeS, hlt]
    have h10 := hl _ (getD_mem (d := 0) hlt)
    have hst := txtK_step l k
    refine W_skip ?_
    refine W_seq ?_
    refine W_block ?_
    refine W_seq ?_
    refine W_cs (.a 2 rfl <| .v (y_ix ((k * 2)) rfl) rfl <| .v (y_la rfl (segs_drop _ k _ hg) rfl) rfl <| .c rfl (stext_can _ h10) rfl <| .v (y_strEql (q := false) rfl rfl rfl (bytes_no _ _)) rfl <| .k [0, 3, 4, 16] rfl) ?_
    refine W_cond rfl (fun hc => ?_) (fun hc => ?_)
    · cases hc
    · refine W_skip ?_
      refine W_seq ?_
      refine W_cs (.a 2 rfl <| .k [0, 3, 4, 18] rfl) ?_
      refine W_cond rfl (fun h2 => ?_) (fun h2 => ?_)
      · have h3 : 0 < k := by have := tt h2; omega
        rw [if_pos h3] at hst
        refine W_chain (.a 1 rfl <| .v (y_catB (b := [32]) rfl rfl rfl (by simp; omega)) rfl <| .a 1 rfl <| .k [0, 3, 4] rfl) ?_
        refine W_chain (.a 3 rfl <| .v (y_ix ((k * 2)) rfl) rfl <| .v (y_la rfl (segs_drop _ k _ hg) rfl) rfl <| .c rfl (stext_can _ h10) rfl <| .v (y_catB rfl rfl rfl (by simp; omega)) rfl <| .a 1 rfl <| .k [0, 3, 4] rfl) ?_
        refine W_chain (.a 1 rfl <| .v (y_ar rfl) rfl <| .a 1 rfl <| .k [0, 3, 4] rfl) ?_
        refine ⟨l.length - (k + 1), by omega, k + 1, by omega, rfl, ?_⟩
        rw [hst]
        first
          | rfl
          | (rw [← List.append_assoc]; rfl)
          | (rw [List.nil_append]; rfl)
      · have h3 : ¬ 0 < k := by have := ff h2; omega
        rw [if_neg h3] at hst
        refine W_skip ?_
        refine W_chain (.a 3 rfl <| .v (y_ix ((k * 2)) rfl) rfl <| .v (y_la rfl (segs_drop _ k _ hg) rfl) rfl <| .c rfl (stext_can _ h10) rfl <| .v (y_catB rfl rfl rfl (by simp; omega)) rfl <| .a 1 rfl <| .k [0, 3, 4] rfl) ?_
        refine W_chain (.a 1 rfl <| .v (y_ar rfl) rfl <| .a 1 rfl <| .k [0, 3, 4] rfl) ?_
        refine ⟨l.length - (k + 1), by omega, k + 1, by omega, rfl, ?_⟩
        rw [hst]
        first
          | rfl
          | (rw [← List.append_assoc]; rfl)
          | (rw [List.nil_append]; rfl)
  · have hke : k = l.length := by have := ff h1; omega
    subst hke
    refine W_exit ?_
    refine W_cs (.a 2 rfl <| .k [2] rfl) ?_
    refine W_ret ?_
    exact ⟨_, _, ResL.of rfl, Pur.pure, rfl⟩
end PW
end Go.Proofs.YtbpgndbjbaoolaaGreat

/- New results of calls that read rows of their caller's; the examples of layer 28. -/
namespace Go.Proofs.YtbpgndbjbaoolaaGreat
set_option linter.unusedVariables false
set_option linter.unusedSimpArgs false
namespace PW
open Go.RowKit Reg Mem Net

section
variable {P : Program} {σ : Sto} {t : Tms} {o : Oper}
theorem CanS.nils {f : FuncId} {a : PV} {l : List PV} {R : PV → Sto → Prop} (h : CanS P f (a :: boolsV [] :: l) σ R) : CanS P f (a :: .raw (.slice none 0 0) :: l) σ R := fun F base E w vs hS hR => by
  refine h F base E w vs hS ⟨hR.1, fun i c u h1 h2 => ?_⟩
  match i, h2 with
  | 0, h2 => exact hR.2 0 c u h1 h2
  | 1, h2 =>
    simp at h2
    subst h2
    have := hR.2 1 c _ h1 rfl
    cases this
    exact .nils
  | i + 2, h2 => exact hR.2 (i + 2) c u h1 h2
end
end PW
end Go.Proofs.YtbpgndbjbaoolaaGreat

/- The laws on lists of segments: awake, large. -/
namespace Go.Proofs.YtbpgndbjbaoolaaGreat
set_option linter.unusedVariables false
set_option linter.unusedSimpArgs false
namespace PW
open Go.RowKit Reg Mem Net

def nextC (T : Topo) (D : List Bool) (L : List Int) (m d : Nat) : List Int := if m = d ∨ L.getD m 0 < 0 then [] else passL T D L (L.getD m 0) d (outL T m)
def cntC (T : Topo) (D : List Bool) (L : List Int) (d : Nat) : Nat → Nat → Int
  | 0, m => if m = d then 1 else 0
  | f + 1, m => if m = d then 1 else (nextC T D L m d).foldl (fun c a => min 2 (c + cntC T D L d f (headN T a.toNat).toNat)) 0
def covC (y u : Nat) (c : Int) : Bool := decide ((ringD y).getD u 0 = c) && (decide (nodeE ringT [] (u : Int) (y : Int) = 0) && decide (cntC ringT [] (ringD y) y ((ringD y).getD u 0).toNat u = 1))
theorem c12 : covC 2 1 1 = true := by kernel_rfl
end PW
end Go.Proofs.YtbpgndbjbaoolaaGreat

/- The examples of layer 28, walked. -/
namespace Go.Proofs.YtbpgndbjbaoolaaGreat
set_option linter.unusedVariables false
set_option linter.unusedSimpArgs false
namespace PW
open Go.RowKit Reg Mem Net

instance (l : List Seg) : IsFlatL (segsP l) := ⟨fun i u h => by
  obtain ⟨s, _, hs⟩ := List.mem_flatMap.1 (List.mem_of_getElem? h)
  simp only [segP, List.mem_cons, List.not_mem_nil, or_false] at hs
  rcases hs with rfl | rfl
  · infer_instance
  · infer_instance⟩
end PW
end Go.Proofs.YtbpgndbjbaoolaaGreat

/- The arguments of the laws of layer 28: a query, a way. -/
namespace Go.Proofs.YtbpgndbjbaoolaaGreat
set_option linter.unusedVariables false
set_option linter.unusedSimpArgs false
namespace PW
open Go.RowKit Reg Mem Net Go.WideShapes
/-- A topology with a mask and two nodes. -/
structure Qry where
  T : Topo
  D : List Bool
  x : Int
  y : Int
def qryP (c : Qry) : List PV := topoP c.T ++ [boolsV c.D, num c.x, num c.y]
def qryV (c : Qry) : PV := .agg (qryP c)
instance (c : Qry) : IsPureL (qryP c) := by unfold qryP; unfold topoP; simp only [List.cons_append, List.nil_append]; infer_instance
instance (c : Qry) : IsPure (qryV c) := by unfold qryV; infer_instance
/-- A path in a topology with a mask. -/
structure Wy where
  T : Topo
  D : List Bool
  p : List Int
  n : Int
def wyP (c : Wy) : List PV := topoP c.T ++ [boolsV c.D, intsV c.p, num c.n]
def wyV (c : Wy) : PV := .agg (wyP c)
instance (c : Wy) : IsPureL (wyP c) := by unfold wyP; unfold topoP; simp only [List.cons_append, List.nil_append]; infer_instance
instance (c : Wy) : IsPure (wyV c) := by unfold wyV; infer_instance
section
variable {H : Type} {enc : TypeId × Value → H} {W : World}
end
end PW
end Go.Proofs.YtbpgndbjbaoolaaGreat

/- The laws of layer 28, walked: List, Least, Encode, Segment. -/
namespace Go.Proofs.YtbpgndbjbaoolaaGreat
set_option linter.unusedVariables false
set_option linter.unusedSimpArgs false
namespace PW
open Go.RowKit Reg Mem Net

end PW
end Go.Proofs.YtbpgndbjbaoolaaGreat

/- Package stable's Check; the laws of layer 28 on parts, routes and detours, walked. -/
namespace Go.Proofs.YtbpgndbjbaoolaaGreat
set_option linter.unusedVariables false
set_option linter.unusedSimpArgs false
namespace PW
open Go.RowKit Reg Mem Net

theorem Ch.ups {T : Topo} {D : List Bool} {d m : Nat} {q : List Int} (h : Ch T D d m q) : ∀ a ∈ q, downN D a.toNat = false := by
  induction h with
  | nil => intro z hz; cases hz
  | @cons n a m p ha ht hu hm ho hp ih =>
    intro z hz
    rcases List.mem_cons.1 hz with rfl | hz
    · rw [Int.toNat_natCast]; exact hu
    · exact ih z hz
theorem lst_pos {T : Topo} {D : List Bool} {n : Int} {p : List Int} (hp : 0 < p.length) : 0 < (lstL T D n p).length := by
  unfold lstL
  obtain ⟨f, hf⟩ : ∃ f, p.length = f + 1 := ⟨p.length - 1, by omega⟩
  rw [hf]
  simp only [lstF]
  rw [if_pos (by omega)]
  cases topD (covB T D n p 0) 0 p.length <;> simp
end PW
end Go.Proofs.YtbpgndbjbaoolaaGreat

/- Listed entries, and the tables of the state Transition, as plain mathematics. -/
namespace Go.Proofs.YtbpgndbjbaoolaaGreat
set_option linter.unusedVariables false
set_option linter.unusedSimpArgs false
namespace PW
open Go.RowKit Reg Mem Net

/-- A list without an arc segment in front. -/
def cutL : List Seg → List Seg
  | [] => []
  | s :: l => if s.kind = 2 then l else s :: l
/-- The listed entry. -/
noncomputable def entX (T : Topo) (D : List Bool) (n d : Int) : Ent :=
  if spE T D n d = 0 ∧ n ≠ d then ⟨[(spathL T D n.toNat d.toNat).getD 0 0], true, cutL (lstL T [] n (spathL T D n.toNat d.toNat))⟩ else ⟨[], false, []⟩
/-- A path to another node. -/
structure Pth (T : Topo) (D : List Bool) (x y : Nat) (p : List Int) : Prop where
  valid : validB T = true
  fits : fitsB T D = true
  ne : x ≠ y
  hx : (x : Int) < T.nodes
  hy : (y : Int) < T.nodes
  sp : SP T D y x p
theorem pth_of {T : Topo} {D : List Bool} {n d : Int} (h : spE T D n d = 0) (hne : n ≠ d) : ∃ a b : Nat, n = (a : Int) ∧ d = (b : Int) ∧ Pth T D a b (spathL T D a b) := by
  have hf : fitsB T D = true := by
    have h' := h
    unfold spE at h'
    split at h'
    · rename_i h1; exact (nodeE_zero h1).2.1
    · rename_i h1; exact absurd h' h1
  obtain ⟨a, b, rfl, rfl, ha, hb, hv, hsp⟩ := spE_facts h
  simp only [Int.toNat_natCast] at hsp
  exact ⟨a, b, rfl, rfl, hv, hf, fun e => hne (by rw [e]), ha, hb, hsp⟩
section
variable {T : Topo} {D : List Bool} {x y : Nat} {p : List Int}
theorem Pth.pos (h : Pth T D x y p) : 0 < p.length := by
  have hsp := h.sp
  cases hsp with
  | nil => exact absurd rfl h.ne
  | cons _ _ _ => simp
theorem Pth.fol (h : Pth T D x y p) : Fol T D x p := ⟨h.valid, h.fits, nodeB_iff.2 ⟨by omega, h.hx⟩, ch_walk h.sp.ch, h.sp.ch.ups⟩
theorem Pth.zero (h : Pth T D x y p) : folE T D x p = 0 := fol_zero h.fol
theorem Pth.len (h : Pth T D x y p) : (p.length : Int) < T.nodes := h.sp.len_lt h.valid h.hy
theorem Pth.head (h : Pth T D x y p) : p.getD 0 0 ∈ nextL T D x y := by
  have hsp := h.sp
  cases hsp with
  | nil => exact absurd rfl h.ne
  | @cons n a m q h1 hm hq => exact next_of h1 ((sound_of h.valid).cost a h1.arc).1
theorem Pth.near (h : Pth T D x y p) : ∃ a : Nat, p.getD 0 0 = (a : Int) ∧ Nearer T D x y a := next_mem h.head
theorem Pth.lst (h : Pth T D x y p) : 0 < (lstL T [] x p).length ∧ (lstL T [] x p).length ≤ p.length := ⟨lst_pos h.pos, lst_len _ _⟩
theorem Pth.ck (h : Pth T D x y p) : ckE T D (lstL T [] x p) x p = true := by
  have hF := h.fol
  unfold ckE
  rw [if_pos h.zero, ck_iff hF.bare _ 0 (Nat.zero_le _), Bool.and_eq_true]
  exact ⟨ex_lst hF.bare _ 0 (Nat.zero_le _) (by omega), deg_lst hF.bare _ 0 (Nat.zero_le _)⟩
/-- How a list begins. -/
theorem lst_head {n : Int} (hp : 0 < p.length) : ∃ s l, lstL T [] n p = s :: l ∧ (s.kind = 1 ∨ s = ⟨2, p.getD 0 0⟩) := by
  unfold lstL
  obtain ⟨f, hf⟩ : ∃ f, p.length = f + 1 := ⟨p.length - 1, by omega⟩
  rw [hf]
  simp only [lstF]
  rw [if_pos (by omega)]
  cases topD (covB T [] n p 0) 0 p.length with
  | none => exact ⟨_, _, rfl, .inr rfl⟩
  | some j => exact ⟨_, _, rfl, .inl rfl⟩
theorem cut_len (l : List Seg) : (cutL l).length ≤ l.length := by
  cases l with
  | nil => simp [cutL]
  | cons s l => simp only [cutL]; split <;> simp
theorem cut_mem {l : List Seg} {s : Seg} (h : s ∈ cutL l) : s ∈ l := by
  cases l with
  | nil => cases h
  | cons a l => simp only [cutL] at h; split at h <;> simp_all
theorem lst_ok (hF : Fol T D x p) : ∀ (f i : Nat), ∀ s ∈ lstF T [] x p f i, segB T s = true
  | 0, i, s, hs => by simp [lstF] at hs
  | f + 1, i, s, hs => by
    simp only [lstF] at hs
    split at hs
    · rename_i hi
      cases ht : topD (covB T [] x p i) i p.length with
      | none =>
        rw [ht] at hs
        simp only [List.mem_cons] at hs
        rcases hs with rfl | hs
        · unfold segB; simp only [if_neg (show ¬ (2 : Int) = 1 by decide), if_pos rfl]; exact hF.arcs _ (getD_mem hi)
        · exact lst_ok hF f (i + 1) s hs
      | some j =>
        rw [ht] at hs
        simp only [List.mem_cons] at hs
        obtain ⟨h1, h2, h3, h4⟩ := topD_is _ _ ht
        rcases hs with rfl | hs
        · obtain ⟨u, hu, huN⟩ := end_node hF.valid hF.node hF.arcs j h2
          unfold segB; simp only [if_pos rfl]; rw [hu]; exact nodeB_iff.2 ⟨by omega, huN⟩
        · exact lst_ok hF f j s hs
    · cases hs
theorem Pth.whole (h : Pth T D x y p) : ckE T D (cutL (lstL T [] x p)) x p = true ∨ ckE T D (⟨2, p.getD 0 0⟩ :: cutL (lstL T [] x p)) x p = true := by
  obtain ⟨s, l, hl, hs⟩ := lst_head (T := T) (n := (x : Int)) h.pos
  have hc := h.ck
  rw [hl] at hc ⊢
  rcases hs with hs | rfl
  · left
    simp only [cutL]
    rw [if_neg (by omega)]
    exact hc
  · right
    exact hc
end
theorem ent_yes {T : Topo} {D : List Bool} {x y : Nat} (h : Pth T D x y (spathL T D x y)) : entX T D x y = ⟨[(spathL T D x y).getD 0 0], true, cutL (lstL T [] x (spathL T D x y))⟩ := by
  unfold entX
  rw [if_pos]
  · simp only [Int.toNat_natCast]
  · refine ⟨?_, fun e => h.ne (by omega)⟩
    rw [spE_zero h.valid h.fits h.hx h.hy, if_neg]
    have := (h.sp.cost h.valid h.hy).2
    omega
theorem ent_no {T : Topo} {D : List Bool} {n d : Int} (h : ¬ (spE T D n d = 0 ∧ n ≠ d)) : entX T D n d = ⟨[], false, []⟩ := if_neg h
theorem ent_cases (T : Topo) (D : List Bool) (n d : Int) : (entX T D n d = ⟨[], false, []⟩ ∧ ¬ (spE T D n d = 0 ∧ n ≠ d)) ∨ ∃ a b : Nat, n = (a : Int) ∧ d = (b : Int) ∧ Pth T D a b (spathL T D a b) ∧ entX T D n d = ⟨[(spathL T D a b).getD 0 0], true, cutL (lstL T [] a (spathL T D a b))⟩ := by
  by_cases h : spE T D n d = 0 ∧ n ≠ d
  · obtain ⟨a, b, rfl, rfl, hp⟩ := pth_of h.1 h.2
    exact .inr ⟨a, b, rfl, rfl, hp, ent_yes hp⟩
  · exact .inl ⟨ent_no h, h⟩
theorem ent_push (T : Topo) (D : List Bool) (n d : Int) (h12 : T.nodes ≤ 12) : (entX T D n d).push.length ≤ 32 := by
  rcases ent_cases T D n d with ⟨h, _⟩ | ⟨a, b, rfl, rfl, hp, h⟩
  · rw [h]; simp
  · rw [h]
    have := cut_len (lstL T [] a (spathL T D a b))
    have := hp.lst.2
    have := hp.len
    show (cutL _).length ≤ 32
    omega
theorem ent_ok (T : Topo) (D : List Bool) (n d : Int) (h12 : T.nodes ≤ 12) : entOK T n d (entX T D n d) = true := by
  have hpl := ent_push T D n d h12
  rcases ent_cases T D n d with ⟨h, _⟩ | ⟨a, b, rfl, rfl, hp, h⟩
  · rw [h]
    unfold entOK
    have : leaveB T n [] = true := decide_eq_true fun i hi => by simp at hi
    simp only [this]
    simp
  · rw [h] at hpl ⊢
    obtain ⟨k, hk, hn⟩ := hp.near
    have h1 : leaveB T (a : Int) [(spathL T D a b).getD 0 0] = true := leave_of (by simp) fun c hc => by
      simp only [List.mem_singleton] at hc
      subst hc
      rw [hk]
      exact ⟨arcB_iff.2 ⟨by omega, by have := hn.arc; omega⟩, by rw [Int.toNat_natCast]; exact hn.tail⟩
    have h2 : decide (((b : Nat) : Int) = (a : Int)) = false := decide_eq_false (by have := hp.ne; omega)
    have h3 : (cutL (lstL T [] a (spathL T D a b))).all (segB T) = true := List.all_eq_true.2 fun s hs => lst_ok hp.fol _ 0 s (cut_mem hs)
    unfold entOK
    simp only [h1, h2, h3, if_true]
    simp only [Bool.true_and, Bool.false_and, Bool.not_false, Bool.and_true, Bool.and_eq_true, decide_eq_true_eq]
    exact ⟨rfl, by have : (cutL (lstL T [] a (spathL T D a b))).length ≤ 32 := hpl; omega⟩
/-- A stable node segment: the listed entry towards its end. -/
theorem Stab.same {T : Topo} {D : List Bool} {x y : Nat} {p : List Int} (h : Stab T D x y p) : spathL T D x y = p ∧ Pth T D x y p ∧ lstL T [] x p = [⟨1, (y : Int)⟩] := by
  have hv := h.valid
  have hch := h.sp.ch.mask h.up
  have h1 := hch.le hv h.hy
  have h0 := h.sp.cost hv h.hy
  have hq := spath_sp (D := D) hv h.hy h.hx h1.1
  have hqc := hq.cost hv h.hy
  have hqb := hq.ch.bare
  have h2 := hqb.le hv h.hy
  have hq' := hqb.sp hv h.hy (by omega)
  have he : spathL T D x y = p := hq'.unique hv h.hy h.sp h.cnt
  have hP : Pth T D x y p := ⟨hv, h.fits, h.ne, h.hx, h.hy, by rw [← he]; exact hq⟩
  refine ⟨he, hP, ?_⟩
  unfold lstL
  obtain ⟨f, hf⟩ : ∃ f, p.length = f + 1 := ⟨p.length - 1, by have := h.pos; omega⟩
  rw [hf, lst_some (j := p.length) h.pos h.pos (Nat.le_refl _) h.cov (fun k h3 h4 => by omega), lst_end _ _ (Nat.le_refl _), List.take_length, h.sp.ch.fin]
theorem Stab.ent {T : Topo} {D : List Bool} {x y : Nat} {p : List Int} (h : Stab T D x y p) : nextL T [] x y = [p.getD 0 0] ∧ nextL T D x y = [p.getD 0 0] ∧ entX T D x y = ⟨[p.getD 0 0], true, [⟨1, (y : Int)⟩]⟩ := by
  obtain ⟨h1, h2, h3⟩ := h.same
  obtain ⟨h4, h5, _⟩ := h.next (i := 0) h.pos (u := x) rfl
  refine ⟨h4, h5, ?_⟩
  rw [← h1] at h2
  rw [ent_yes h2, h1, h3]
  rfl
end PW
end Go.Proofs.YtbpgndbjbaoolaaGreat

/- Package repair and its reference: Entry. -/
namespace Go.Proofs.YtbpgndbjbaoolaaGreat
set_option linter.unusedVariables false
set_option linter.unusedSimpArgs false
namespace PW
open Go.RowKit Reg Mem Net Rng

section
variable {P : Program} {σ : Sto} {t : Tms} {o : Oper} {N L : Nat} {ops : Array Oper}
/-- Whether an empty slice is nil: either may be. -/
theorem WR_nilq {rest : List Oper} {K : St → Prop} {d : Nat} {x y : Operand} {ty tz : TypeId} {xs : List PV} (ho : o.op = .binOp .eql ty x y tz) (hk : slK1 P ty = true) (hx : evalO t x = some (.slice 0 xs)) (hy : evalO t y = some (.raw (.slice none 0 0))) (hd : o.dst = some d) (hw : wantB ops t o = some true) (hN : Nat.blt d N = true)
    (h : ∀ b, WR P N L ops rest ⟨(d, .raw (.bool b)) :: t, σ⟩ K) : WR P N L ops (o :: rest) ⟨t, σ⟩ K := by
  refine WR_step hw fun F base E a w hs next Q hn => ?_
  obtain ⟨e, hu⟩ := slK1_spec hk
  have h1 := evalO_rep (isEval a) hs.tmp hx
  have h2 := evalO_rep (isEval a) hs.tmp hy
  generalize hz : a.eval x = z at h1
  generalize hz' : a.eval y = z' at h2
  cases h2
  obtain ⟨p, c, rfl, _, _⟩ := rep_cap h1
  have hrun := Lib.run_eql_slice_nil w ty e p 0 c 0 0 hu
  have hg : ∀ a n c b m d, (eqGuard .eql ty x y (.slice a n c) (.slice b m d)).run P w = .ok () w := fun _ _ _ _ _ _ => rfl
  have hU : StepUpon P w (fun v w' => Rep E w' v (.raw (.bool p.isNone))) ((execOp a.eval o).run P w) := by
    simp only [execOp, ho, hz, hz', Sem.run_bind, Sem.run_pure, Result.andThen_ok, hg, hrun]
    exact upon_val (.raw _)
  refine upon_of hU fun v w' hE hv => hn _ _ _ E (h p.isNone) ?_ (.ext hE) (Below.ofExt hE hs.sat.bl)
  rw [hd]
  exact hs.put (hs.sat.ext hE) (.ext hE) hN hv
/-- A slice with a bound on its capacity. -/
theorem y_sliceMax {ty e s n h : Nat} {x hi' mx : Operand} {xs : List PV} {k k' : IntKind} {hii mi : Int} (ho : o.op = .slice ty x none (some hi') (some mx)) (he : elK P ty = some (e, s)) (hx : evalO t x = some (.slice n xs)) (hhi : evalO t hi' = some (.raw (.int k hii))) (hmx : evalO t mx = some (.raw (.int k' mi))) (hxl : xs.length = n * s) (hli : hii = (h : Int)) (hmi : mi = (h : Int)) (hl : h ≤ n) :
    Yield P σ t o (.slice h (xs.take (h * s))) := by
  intro F base E ρ w hρ hS hT
  have h1 := evalO_rep hρ hT hx
  have h2 := evalO_rep hρ hT hhi
  have h3 := evalO_rep hρ hT hmx
  obtain ⟨hu, i, hi, hs⟩ := elK_spec he
  generalize hz : ρ x = v at h1
  generalize hz' : ρ hi' = u at h2
  generalize hz2 : ρ mx = u2 at h3
  cases h2
  cases h3
  subst hli
  subst hmi
  obtain ⟨a, c, rfl, hc1, hc2⟩ := rep_cap h1
  have hR := rep_sliced (s := s) (l := 0) h1 hxl (Nat.zero_le _) hl (Nat.le_refl h) (Nat.le_trans hl hc1)
  have hrun : (Instr.sliceAt ty (.slice a n c) none (some (.int k (h : Int))) (some (.int k' (h : Int)))).run P w = .ok (.slice (if h = 0 then a else a.map (·.add (0 * s))) (h - 0) (h - 0)) w := by
    have : h ≤ c := Nat.le_trans hl hc1
    simp [Instr.sliceAt, run_underlying hu, Instr.slice, Instr.sliceBounds, Instr.sliceBound, asIntOf, this, sizeOf, typeInfo, hi]
  simp only [execOp, ho, hz, hz', hz2, Option.map_some, Option.map_none, Sem.run_bind, hrun, Result.andThen_ok, Sem.run_pure]
  refine upon_val ?_
  simpa using hR
end
theorem slS : slK1 Tryz.prog 45 = true := by kernel_rfl
set_option maxRecDepth 10000 in
set_option maxHeartbeats 1000000 in
theorem sclone_can (l : List Seg) (hl : l.length ≤ 1000) : Can Tryz.prog 73 [segsV l] (· = segsV l) := by
  refine can_of Tryz.func73 rfl Tryz.ntmps73 rfl ?_
  refine W_cs (.a 1 rfl <| .k [0] rfl) ?_
  refine W_seq ?_
  refine W_rs (WR.mono (K := fun s => ∃ b : Bool, s = ⟨[(0, segsV l), (4, .raw (.bool b))], []⟩ ∧ (b = true → l = [])) ?_ ?_)
  · cases l with
    | nil => exact WR_a 1 rfl <| WR_nilq rfl slS rfl rfl rfl rfl rfl fun b => WR_k [0, 4] rfl ⟨b, rfl, fun _ => rfl⟩
    | cons a l => exact WR_a 1 rfl <| WR_val (y_notNil rfl slS rfl rfl (Nat.succ_pos _)) rfl rfl rfl <| WR_k [0, 4] rfl ⟨_, rfl, fun h => by cases h⟩
  rintro _ ⟨b, rfl, hb⟩
  refine W_cond rfl (fun hc => ?_) (fun hc => ?_)
  · have : l = [] := hb hc
    subst this
    refine W_cs (.a 1 rfl <| .k [2] rfl) ?_
    refine W_ret ?_
    exact ⟨_, _, ResL.of rfl, Pur.nils, rfl⟩
  · refine W_skip ?_
    refine W_rs ?_
    refine WR_l (l_emptySlice rfl (fok.sl.get rfl)) rfl <| WR_a 1 rfl <| WR_l (l_append rfl (fok.rk.get rfl) rfl rfl rfl (segsP_len l) (by unfold maxLen; omega)) rfl <| WR_a 1 rfl <| WR_k [2] rfl ?_
    refine W_ret ?_
    refine ⟨_, _, ResL.of rfl, Pur.ownL (xs := segsP l) (ys := segsP l) rfl PurL.pure, ?_⟩
    rw [Nat.zero_add]; rfl
theorem y_segTail {P : Program} {σ : Sto} {t : Tms} {o : Oper} {ty : TypeId} {x lo : Operand} {s : Seg} {l : List Seg} {k : IntKind} (ho : o.op = .slice ty x (some lo) none none) (he : elK P ty = some (53, 2)) (hx : evalO t x = some (.slice (s :: l).length (segsP (s :: l)))) (hlo : evalO t lo = some (.raw (.int k 1))) : Yield P σ t o (.slice l.length (segsP l)) := by
  have h := y_sliceLo (l := 1) (σ := σ) ho he hx hlo (segsP_len _) rfl (by simp)
  have e : ((segsP (s :: l)).drop (1 * 2)).take (((s :: l).length - 1) * 2) = segsP l := by
    show (segsP l).take _ = _
    refine List.take_of_length_le ?_
    rw [segsP_len]; simp
  rw [e] at h
  exact h
theorem ent_err {T : Topo} {D : List Bool} {n d : Int} (h : spE T D n d ≠ 0) : entX T D n d = ⟨[], false, []⟩ := ent_no fun hh => h hh.1
theorem sp_node {T : Topo} {D : List Bool} {n d : Int} (h : spE T D n d ≠ 0) (h' : spE T D n d ≠ 11) : nodeE T D n d = spE T D n d := by
  unfold spE at *
  split at h <;> simp_all
theorem sp_err {T : Topo} {D : List Bool} {n d : Int} (h : spE T D n d = 0 ∨ spE T D n d = 11) : nodeE T D n d = 0 := by
  unfold spE at h
  split at h
  · assumption
  · rename_i hh
    rcases h with h | h
    · exact h
    · exfalso
      unfold nodeE chkE at h
      split at h <;> (try split at h) <;> (try split at h) <;> omega
def entE (e : Int) (x : Ent) : PV := .tuple [entV x, num e]
set_option maxRecDepth 10000 in
set_option maxHeartbeats 1000000 in
theorem pent_can (T : Topo) (D : List Bool) (n d : Int) (hlk : T.links.length ≤ 256) (h12 : T.nodes ≤ 12) : Can Tryz.prog 35 [topoV T, boolsV D, num n, num d] (· = entE (nodeE T D n d) (entX T D n d)) := by
  obtain ⟨c1, hc1⟩ : ∃ q, decide (spE T D n d ≠ 0) = q := ⟨_, rfl⟩
  obtain ⟨c2, hc2⟩ : ∃ q, decide (spE T D n d ≠ 11) = q := ⟨_, rfl⟩
  refine can_of Tryz.func35 rfl Tryz.ntmps35 rfl ?_
  refine W_rs ?_
  refine WR_a 3 rfl <| WR_k [1, 2, 3, 4, 8] rfl ?_
  refine W_cs (.a 4 rfl <| .c rfl (pcpath_can T D n d) rfl <| .a 5 rfl <| .k [1, 2, 4, 8, 10, 11] rfl) ?_
  refine W_seq ?_
  refine W_csK 27 (.raw (.bool (c1 && c2))) [1, 2, 4, 8, 10, 11] rfl ?_ ?_
  · refine .a 1 rfl <| .v (y_q rfl (hc1)) rfl <| .a 1 rfl <| ?_
    cases c1
    · exact .a 3 rfl <| .k [27, 1, 2, 4, 8, 10, 11] rfl
    · exact .a 1 rfl <| .v (y_q rfl (hc2)) rfl <| .a 1 rfl <| .k [27, 1, 2, 4, 8, 10, 11] rfl
  refine W_cond rfl (fun h1 => ?_) (fun h1 => ?_)
  · obtain ⟨rfl, rfl⟩ := Bool.and_eq_true_iff.1 h1
    have e1 := tt hc1
    rw [ent_err e1, sp_node e1 (tt hc2)]
    refine W_rs ?_
    refine WR_a 4 rfl <| WR_k [8, 9] rfl ?_
    refine W_ret ?_
    exact ⟨_, _, ResL.of rfl, Pur.tupleL (PurL.cons (Pur.aggL (PurL.cons Pur.nils <| PurL.cons Pur.pure <| PurL.cons Pur.nils PurL.nil)) (PurL.cons Pur.pure PurL.nil)), rfl⟩
  · have e2 : spE T D n d = 0 ∨ spE T D n d = 11 := by
      rcases Bool.and_eq_false_iff.1 h1 with h | h
      · subst h; exact .inl (Classical.byContradiction (ff hc1))
      · subst h; exact .inr (Classical.byContradiction (ff hc2))
    rw [sp_err e2]
    clear h1 hc1 hc2
    obtain ⟨P, hP⟩ : ∃ P, (if spE T D n d = 0 then spathL T D n.toNat d.toNat else []) = P := ⟨_, rfl⟩
    rw [hP]
    refine W_skip ?_
    refine W_seq ?_
    refine W_cs (.a 3 rfl <| .k [1, 2, 4, 8, 10, 32] rfl) ?_
    refine W_cond rfl (fun h2 => ?_) (fun h2 => ?_)
    · have hno : ¬ (spE T D n d = 0 ∧ n ≠ d) := by
        rintro ⟨h3, h4⟩
        rw [if_pos h3] at hP
        obtain ⟨a, b, rfl, rfl, hp⟩ := pth_of h3 h4
        have := tt h2
        have := hp.pos
        rw [← hP] at *
        simp only [Int.toNat_natCast] at *
        omega
      rw [ent_no hno]
      refine W_rs ?_
      refine WR_a 3 rfl <| WR_k [8, 9] rfl ?_
      refine W_ret ?_
      exact ⟨_, _, ResL.of rfl, Pur.tupleL (PurL.cons (Pur.aggL (PurL.cons Pur.nils <| PurL.cons Pur.pure <| PurL.cons Pur.nils PurL.nil)) (PurL.cons Pur.pure PurL.nil)), rfl⟩
    · obtain ⟨p0, q, rfl⟩ : ∃ p0 q, P = p0 :: q := by
        cases P with
        | nil => exact absurd rfl (ff h2)
        | cons p0 q => exact ⟨_, _, rfl⟩
      have h3 : spE T D n d = 0 := by
        rcases e2 with h | h
        · exact h
        · rw [h] at hP; simp at hP
      rw [if_pos h3] at hP
      have h4 : n ≠ d := by
        rintro rfl
        obtain ⟨a, b, ha, hb, _, _, hv', hsp⟩ := spE_facts h3
        have : a = b := by omega
        subst this
        have := hsp.self
        rw [this] at hP
        cases hP
      obtain ⟨a, b, rfl, rfl, hp⟩ := pth_of h3 h4
      simp only [Int.toNat_natCast] at hP
      have hent := ent_yes hp
      rw [hP] at hp hent
      have hpl := hp.len
      obtain ⟨s, l, hl, hs⟩ := lst_head (T := T) (n := (a : Int)) hp.pos
      have hll := hp.lst.2
      rw [hl] at hent hll
      have hsl := slist_can T D (p0 :: q) a (by simp only [List.length_cons] at hpl ⊢; omega) hlk h12
      rw [hl] at hsl
      unfold segsE at hsl
      rw [hp.zero, if_pos rfl] at hsl
      clear h2 e2 hl hs hp hP h3 h4
      simp only [List.length_cons] at hll hpl
      rw [show (p0 :: q).getD 0 0 = p0 from rfl] at hent
      refine W_skip ?_
      refine W_cs (.a 4 rfl <| .c rfl (hsl) rfl <| .a 5 rfl <| .k [8, 10, 12] rfl) ?_
      refine W_seq ?_
      refine W_cs (.a 1 rfl <| .v (y_ix (0) rfl (by omega) (by simp only [List.length_cons]; omega)) rfl <| .a 1 rfl <| .v (y_ld rfl ((show (segsP (s :: l))[0]? = some (num s.kind) from rfl))) rfl <| .a 1 rfl <| .k [8, 10, 12, 46] rfl) ?_
      refine W_cond rfl (fun h5 => ?_) (fun h5 => ?_)
      · have hc : cutL (s :: l) = l := if_pos (tt h5)
        rw [hc] at hent
        have hlm : l.length ≤ 32 := by omega
        refine W_chain (.a 1 rfl <| .v (y_segTail rfl (fok.el.get rfl) rfl rfl) rfl <| .a 1 rfl <| .k [8, 10, 12] rfl) ?_
        refine W_seq ?_
        refine W_cs (.a 3 rfl <| .k [8, 10, 12, 51] rfl) ?_
        refine W_cond rfl (fun h6 => ?_) (fun h6 => ?_)
        · exact absurd (tt h6) (by omega)
        · clear h6
          refine W_skip ?_
          refine W_dfs 5 8 mixed (
            .val [10] rfl (y_a rfl) rfl rfl <|
            .val [53] rfl (y_sliceMax (h := 1) rfl (fok.el.get rfl) rfl rfl rfl (show (intsP (p0 :: q)).length = _ by simp [intsP]) rfl rfl (by simp)) rfl rfl <|
            .val [12] rfl (y_a rfl) rfl rfl <|
            .val [55] rfl (y_c rfl (sclone_can _ (by omega))) rfl rfl <|
            .val [54, 56] rfl (y_a rfl) rfl rfl <|
            .nil) (by kernel_rfl) rfl rfl (keepT_sub (ks := [8, 57]) rfl) ?_
          refine WR_a 2 rfl <| WR_k [8, 9] rfl ?_
          refine W_ret ?_
          exact ⟨_, _, ResL.of rfl, Pur.tupleL (PurL.cons (Pur.aggL (PurL.cons (Pur.pure (p := intsV [p0])) <| PurL.cons Pur.pure <| PurL.cons (Pur.pure (p := segsV _)) PurL.nil)) (PurL.cons Pur.pure PurL.nil)), by rw [hent]; rfl⟩
      · have hc : cutL (s :: l) = s :: l := if_neg (ff h5)
        rw [hc] at hent
        have hlm : (s :: l).length ≤ 32 := by simp only [List.length_cons]; omega
        refine W_skip ?_
        refine W_seq ?_
        refine W_cs (.a 3 rfl <| .k [8, 10, 12, 51] rfl) ?_
        refine W_cond rfl (fun h6 => ?_) (fun h6 => ?_)
        · exact absurd (tt h6) (by omega)
        · clear h6
          refine W_skip ?_
          refine W_dfs 5 8 mixed (
            .val [10] rfl (y_a rfl) rfl rfl <|
            .val [53] rfl (y_sliceMax (h := 1) rfl (fok.el.get rfl) rfl rfl rfl (show (intsP (p0 :: q)).length = _ by simp [intsP]) rfl rfl (by simp)) rfl rfl <|
            .val [12] rfl (y_a rfl) rfl rfl <|
            .val [55] rfl (y_c rfl (sclone_can _ (by omega))) rfl rfl <|
            .val [54, 56] rfl (y_a rfl) rfl rfl <|
            .nil) (by kernel_rfl) rfl rfl (keepT_sub (ks := [8, 57]) rfl) ?_
          refine WR_a 2 rfl <| WR_k [8, 9] rfl ?_
          refine W_ret ?_
          exact ⟨_, _, ResL.of rfl, Pur.tupleL (PurL.cons (Pur.aggL (PurL.cons (Pur.pure (p := intsV [p0])) <| PurL.cons Pur.pure <| PurL.cons (Pur.pure (p := segsV _)) PurL.nil)) (PurL.cons Pur.pure PurL.nil)), by rw [hent]; rfl⟩
end PW
end Go.Proofs.YtbpgndbjbaoolaaGreat

/- A call that makes blocks of its own, in a caller that has some: the frame rule of the pure walk. No program in sight. -/
namespace Go.Proofs.YtbpgndbjbaoolaaGreat
set_option linter.unusedVariables false
set_option linter.unusedSimpArgs false
namespace PW
open Go.RowKit Reg Mem

/-- Other numbers: k blocks lie in front. -/
inductive Up (k : Nat) : PV → PV → Prop
  | pure {p : PV} [IsPure p] : Up k p p
  | own {i j : Nat} : j = k + i → Up k (.own i) (.own j)
  | ptr {i j o : Nat} : j = k + i → Up k (.ptr i o) (.ptr j o)
  | agg {xs ys : List PV} (hl : ys.length = xs.length) (hs : ∀ (j : Nat) x y, xs[j]? = some x → ys[j]? = some y → Up k x y) : Up k (.agg xs) (.agg ys)
  | tuple {xs ys : List PV} (hl : ys.length = xs.length) (hs : ∀ (j : Nat) x y, xs[j]? = some x → ys[j]? = some y → Up k x y) : Up k (.tuple xs) (.tuple ys)
  | func {f : FuncId} {xs ys : List PV} (hl : ys.length = xs.length) (hs : ∀ (j : Nat) x y, xs[j]? = some x → ys[j]? = some y → Up k x y) : Up k (.func f xs) (.func f ys)
def UpL (k : Nat) (xs ys : List PV) : Prop := ys.length = xs.length ∧ ∀ (j : Nat) x y, xs[j]? = some x → ys[j]? = some y → Up k x y
theorem UpL.nil {k : Nat} : UpL k [] [] := ⟨rfl, fun j x y h => by simp at h⟩
theorem UpL.cons {k : Nat} {x y : PV} {xs ys : List PV} (h : Up k x y) (hs : UpL k xs ys) : UpL k (x :: xs) (y :: ys) := ⟨by simp [hs.1], fun j a b h1 h2 => by
  cases j with
  | zero => simp at h1 h2; subst h1; subst h2; exact h
  | succ j => exact hs.2 j a b (by simpa using h1) (by simpa using h2)⟩
theorem UpL.pure {k : Nat} {xs : List PV} [h : IsPureL xs] : UpL k xs xs := ⟨rfl, fun j x y h1 h2 => by
  rw [h1] at h2; cases h2
  haveI := h.out j x h1
  exact Up.pure⟩
theorem Up.aggL {k : Nat} {xs ys : List PV} (h : UpL k xs ys) : Up k (.agg xs) (.agg ys) := .agg h.1 h.2
theorem Up.tupleL {k : Nat} {xs ys : List PV} (h : UpL k xs ys) : Up k (.tuple xs) (.tuple ys) := .tuple h.1 h.2
theorem Up.funcL {k : Nat} {f : FuncId} {xs ys : List PV} (h : UpL k xs ys) : Up k (.func f xs) (.func f ys) := .func h.1 h.2
inductive BUp (k : Nat) : Blk → Blk → Prop
  | cells {ty : TypeId} {xs ys : List PV} : UpL k xs ys → BUp k (.cells ty xs) (.cells ty ys)
  | row {e s n : Nat} {xs ys : List PV} : UpL k xs ys → BUp k (.row e s n xs) (.row e s n ys)
  | mp {kv : List (Value × PV)} [IsPureL (kv.map (·.2))] : BUp k (.mp kv) (.mp kv)
def BUpL (k : Nat) (xs ys : List Blk) : Prop := ys.length = xs.length ∧ ∀ (j : Nat) x y, xs[j]? = some x → ys[j]? = some y → BUp k x y
theorem BUpL.nil {k : Nat} : BUpL k [] [] := ⟨rfl, fun j x y h => by simp at h⟩
theorem BUpL.cons {k : Nat} {x y : Blk} {xs ys : List Blk} (h : BUp k x y) (hs : BUpL k xs ys) : BUpL k (x :: xs) (y :: ys) := ⟨by simp [hs.1], fun j a b h1 h2 => by
  cases j with
  | zero => simp at h1 h2; subst h1; subst h2; exact h
  | succ j => exact hs.2 j a b (by simpa using h1) (by simpa using h2)⟩
section
variable {E E1 E2 : Env} {w : World} {k : Nat}
theorem Up.rep (hat : ∀ i, i < E1.L → E2.at_ (k + i) = E1.at_ i ∧ k + i < E2.L) (hM : ∀ b, E2.M b → E1.M b) {p q : PV} (h : Up k p q) : ∀ v, Rep E1 w v p → Rep E2 w v q := by
  induction h with
  | @pure p hp =>
    intro v h
    have := hp.out E1 E2.M w v hM h
    exact this.goes (E := EF E2.M) (E' := E2) (w := w) (w' := w) ⟨Nat.zero_le _, fun i hi => absurd hi (Nat.not_lt_zero i), fun _ _ h => h, Nat.le_refl _, fun _ _ _ => rfl⟩
  | @own i j hij =>
    intro v h
    subst hij
    cases h with
    | own _ hi _ h hs => exact .own _ (hat i hi).2 v ((hat i hi).1.trans h) hs
  | @ptr i j o hij =>
    intro v h
    subst hij
    cases h with
    | ptr _ _ b hi h => exact .ptr _ o b (hat i hi).2 (by rw [(hat i hi).1]; exact h)
  | @agg xs ys hl _ ih =>
    intro v h
    cases h with
    | agg cs _ hl' hr => exact .agg cs ys (hl'.trans hl.symm) (fun j c u h1 h2 => by
        have hj : j < xs.length := by rw [← hl]; exact (List.getElem?_eq_some_iff.1 h2).1
        exact ih j xs[j] u (by simp [hj]) h2 c (hr j c _ h1 (by simp [hj])))
  | @tuple xs ys hl _ ih =>
    intro v h
    cases h with
    | tuple cs _ hl' hr => exact .tuple cs ys (hl'.trans hl.symm) (fun j c u h1 h2 => by
        have hj : j < xs.length := by rw [← hl]; exact (List.getElem?_eq_some_iff.1 h2).1
        exact ih j xs[j] u (by simp [hj]) h2 c (hr j c _ h1 (by simp [hj])))
  | @func f xs ys hl _ ih =>
    intro v h
    cases h with
    | func _ cs _ hl' hr => exact .func f cs ys (hl'.trans hl.symm) (fun j c u h1 h2 => by
        have hj : j < xs.length := by rw [← hl]; exact (List.getElem?_eq_some_iff.1 h2).1
        exact ih j xs[j] u (by simp [hj]) h2 c (hr j c _ h1 (by simp [hj])))
theorem UpL.rep (hat : ∀ i, i < E1.L → E2.at_ (k + i) = E1.at_ i ∧ k + i < E2.L) (hM : ∀ b, E2.M b → E1.M b) {xs ys : List PV} (h : UpL k xs ys) {cs : List Value} (hs : RepL E1 w cs xs) : RepL E2 w cs ys := ⟨hs.1.trans h.1.symm, fun j c u h1 h2 => by
  have hj : j < xs.length := by rw [← h.1]; exact (List.getElem?_eq_some_iff.1 h2).1
  exact (h.2 j xs[j] u (by simp [hj]) h2).rep hat hM c (hs.2 j c _ h1 (by simp [hj]))⟩
theorem BUp.sat {base base' : Nat} (hb : base' ≤ base) (hat : ∀ i, i < E1.L → E2.at_ (k + i) = E1.at_ i ∧ k + i < E2.L) (hM : ∀ b, E2.M b → E1.M b) {v : Value} {x y : Blk} (h : BUp k x y) (hs : BlkSat base E1 w v x) : BlkSat base' E2 w v y := by
  cases h with
  | cells h1 =>
    obtain ⟨b, cs, h2, h3, h4, h5⟩ := hs
    exact ⟨b, cs, h2, by omega, h4, h1.rep hat hM h5⟩
  | row h1 =>
    obtain ⟨cs, h2, h3⟩ := hs
    refine ⟨cs, ⟨h2.1, ?_⟩, h1.rep hat hM h3⟩
    rcases h2.2 with h | ⟨g, cap, cur, a1, a2, a3⟩
    · exact .inl h
    · exact .inr ⟨g, cap, cur, a1, by omega, a3⟩
  | @mp kv hp =>
    obtain ⟨r, es, ck, h2, h3, h4, h5, h6⟩ := hs
    exact ⟨r, es, ck, h2, by omega, h4, h5, UpL.pure (k := k).rep hat hM h6⟩
end
/-- The frame rule. -/
theorem CanS.frame {P : Program} {f : FuncId} {ps : List PV} {σ : Sto} {R : PV → Sto → Prop} [IsPureL ps]
    (h : CanS P f ps [] (fun r σ1 => ∃ bs, σ1 = bs.map some ∧ ∃ r' bs', Up σ.length r r' ∧ BUpL σ.length bs bs' ∧ R r' (σ ++ bs'.map some))) : CanS P f ps σ R := fun F base E w vs hS hR => by
  refine (h E.M w.heap.size (EF E.M) w vs (Sat.start E.M w (fun b hb => hS.lt hb) hS.gl) (hR.pure (fun _ h => h))).mono ?_
  rintro e w' ⟨v, r, σ1, E1, rfl, ⟨bs, rfl, r', bs', hu, hbu, hRr⟩, hS1, hg1, hB1, hv⟩
  have hE : Ext w w' := hB1
  have hL1 : E1.L = bs.length := by rw [hS1.len]; simp
  have hlen : ((List.range bs.length).map E1.at_).length = bs'.length := by rw [List.length_map, List.length_range, hbu.1]
  have hget : ∀ (i : Nat) v, ((List.range bs.length).map E1.at_)[i]? = some v → i < bs.length ∧ v = E1.at_ i := fun i v hi => by
    have hi' : i < bs.length := by have := (List.getElem?_eq_some_iff.1 hi).1; simpa using this
    rw [List.getElem?_map, List.getElem?_range hi'] at hi
    cases hi
    exact ⟨hi', rfl⟩
  have hbk : ∀ i, i < bs.length → ∃ x, bs[i]? = some x ∧ (bs.map some)[i]? = some (some x) := fun i hi => ⟨bs[i], by simp [hi], by simp [hi]⟩
  have hat : ∀ i, i < E1.L → (E.pushAll ((List.range bs.length).map E1.at_)).at_ (σ.length + i) = E1.at_ i ∧ σ.length + i < (E.pushAll ((List.range bs.length).map E1.at_)).L := fun i hi => by
    rw [hL1] at hi
    refine ⟨?_, ?_⟩
    · simp only [Env.pushAll, hS.len]
      rw [if_neg (by omega), Nat.add_sub_cancel_left, List.getD_eq_getElem?_getD, List.getElem?_map, List.getElem?_range hi]
      rfl
    · simp only [Env.pushAll, hS.len, List.length_map, List.length_range]; omega
  have hM : ∀ b, (E.pushAll ((List.range bs.length).map E1.at_)).M b → E1.M b := fun b hb => by
    rcases hb with hb | ⟨v, hv1, hv2⟩
    · exact (hS1.mm b).2 (.inl hb)
    · obtain ⟨i, hi⟩ := List.getElem?_of_mem hv1
      obtain ⟨hi1, rfl⟩ := hget i v hi
      obtain ⟨x, _, hx⟩ := hbk i hi1
      exact (hS1.mm b).2 (.inr ⟨i, x, hx, hv2⟩)
  have hp := hS.pushAll hE ((List.range bs.length).map E1.at_) bs' hlen
    (fun v hv1 b hb => by
      obtain ⟨i, hi⟩ := List.getElem?_of_mem hv1
      obtain ⟨hi1, rfl⟩ := hget i v hi
      obtain ⟨x, _, hx⟩ := hbk i hi1
      exact ((hS1.blk i x hx).lt hb).1)
    (fun i j u v b hi hj hu hv => by
      obtain ⟨hi1, rfl⟩ := hget i u hi
      obtain ⟨hj1, rfl⟩ := hget j v hj
      obtain ⟨x, _, hx⟩ := hbk i hi1
      obtain ⟨y, _, hy⟩ := hbk j hj1
      exact hS1.inj i j x y b hx hy hu hv)
    (fun i v blk hi hb => by
      obtain ⟨hi1, rfl⟩ := hget i v hi
      obtain ⟨x, hx0, hx⟩ := hbk i hi1
      exact (hbu.2 i x blk hx0 hb).sat hS.bl hat hM (hS1.blk i x hx))
  exact ⟨v, r', _, _, rfl, hRr, hp.1, hp.2, Below.ofExt hE hS.bl, hu.rep hat hM v hv⟩
end PW
end Go.Proofs.YtbpgndbjbaoolaaGreat

/- Distances from a node and to a node: which nodes are reached, as plain mathematics. -/
namespace Go.Proofs.YtbpgndbjbaoolaaGreat
set_option linter.unusedVariables false
set_option linter.unusedSimpArgs false
namespace PW
open Go.RowKit Reg Mem Net

section
variable {T : Topo} {D : List Bool}
theorem Ch.snoc {d n : Nat} {q : List Int} (h : Ch T D d n q) : ∀ {a x : Nat}, (q = [] ∨ overN T d = false) → a < 2 * T.links.length → tailN T a = (d : Int) → downN D a = false → headN T a = (x : Int) → Ch T D x n (q ++ [(a : Int)]) := by
  induction h with
  | nil => intro a x _ h1 h2 h3 h4; exact .cons h1 h2 h3 h4 (.inl rfl) .nil
  | @cons n b m p hb ht hu hm ho hp ih =>
    intro a x hov h1 h2 h3 h4
    have hov' : overN T d = false := by rcases hov with h | h; cases h; exact h
    refine .cons hb ht hu hm ?_ (ih (.inr hov') h1 h2 h3 h4)
    rcases ho with h | h
    · have := hp.to h
      subst this
      exact .inr hov'
    · exact .inr h
theorem fwd_ch (hv : validB T = true) {n : Nat} (hn : (n : Int) < T.nodes) {d m : Nat} {p : List Int} (h : Ch T D d m p) (h0 : 0 ≤ at' (distL T D n true) (m : Int)) (ho : p = [] ∨ m = n ∨ overN T m = false) : 0 ≤ at' (distL T D n true) (d : Int) := by
  have hI := distL_is (sound_of hv) D true hn
  induction h with
  | nil => exact h0
  | @cons m a m' p ha ht hu hm hov hp ih =>
    have hw := hI.closed a ha ⟨hu, by simp only [arcY, if_true]; rw [ht]; exact h0, by
      simp only [arcY, if_true]; rw [ht]
      rcases ho with h | h | h
      · cases h
      · exact .inl (by rw [h])
      · exact .inr (by simpa using h)⟩
    simp only [arcX, if_true] at hw
    rw [hm] at hw
    refine ih hw.1 ?_
    rcases hov with h | h
    · exact .inl h
    · exact .inr (.inr h)
theorem fwd_to (hv : validB T = true) {n : Nat} (hn : (n : Int) < T.nodes) : ∀ (k x : Nat), (x : Int) < T.nodes → 0 ≤ at' (distL T D n true) (x : Int) → at' (distL T D n true) (x : Int) ≤ k → 0 ≤ dN T D x n := by
  have hS := sound_of hv
  have hI := distL_is hS D true hn
  intro k
  induction k with
  | zero =>
    intro x hx h0 hk
    rcases hI.supp x hx h0 with h | ⟨a, ha, hX, hW, hs⟩
    · subst h; rw [dN_self hv hn]; exact Int.le_refl _
    · have := (hS.cost a ha).1
      have := hW.2.1
      omega
  | succ k ih =>
    intro x hx h0 hk
    rcases hI.supp x hx h0 with h | ⟨a, ha, hX, hW, hs⟩
    · subst h; rw [dN_self hv hn]; exact Int.le_refl _
    · simp only [arcX, arcY, if_true] at hX hs
      obtain ⟨hu, hy0, hyo⟩ := hW
      simp only [arcY, if_true] at hy0 hyo
      have hc := (hS.cost a ha).1
      have ht := hS.tail a ha
      obtain ⟨y, hy⟩ := Int.eq_ofNat_of_zero_le ht.1
      rw [hy] at hy0 hyo hs ht
      have hyN : (y : Int) < T.nodes := ht.2
      have h1 := ih y hyN hy0 (by omega)
      have hsp := spath_sp (D := D) hv hyN hn h1
      have hc2 := hsp.ch.snoc (a := a) (x := x) (by
        rcases hyo with h | h
        · have : y = n := by omega
          subst this
          exact .inl hsp.self
        · exact .inr (by simpa using h)) ha hy hu hX
      exact (hc2.le hv hx).1
theorem fwd_iff (hv : validB T = true) {n d : Nat} (hn : (n : Int) < T.nodes) (hd : (d : Int) < T.nodes) : 0 ≤ (distL T D n true).getD d 0 ↔ 0 ≤ dN T D d n := by
  have hS := sound_of hv
  have hI := distL_is hS D true hn
  have hl := hI.len
  have e : (distL T D n true).getD d 0 = at' (distL T D n true) (d : Int) := by
    unfold at'
    rw [Int.toNat_natCast, List.getD_eq_getElem?_getD, List.getD_eq_getElem?_getD, List.getElem?_eq_getElem (by omega)]
    rfl
  rw [e]
  constructor
  · intro h0
    exact fwd_to hv hn (at' (distL T D n true) (d : Int)).toNat d hd h0 (by have := Int.toNat_of_nonneg h0; omega)
  · intro h0
    have hsp := spath_sp (D := D) hv hd hn h0
    refine fwd_ch hv hn hsp.ch ?_ (.inr (.inl rfl))
    rw [hI.root]
    exact Int.le_refl _
end
end PW
end Go.Proofs.YtbpgndbjbaoolaaGreat

/- Assumed components, and the tables of the state Repair, as plain mathematics. -/
namespace Go.Proofs.YtbpgndbjbaoolaaGreat
set_option linter.unusedVariables false
set_option linter.unusedSimpArgs false
namespace PW
open Go.RowKit Reg Mem Net Rng

def grpN (T : Topo) (a : Nat) : Int := (lnk T.links (a / 2)).grp
/-- Whether a node reaches another one. -/
noncomputable def rchB (T : Topo) (D : List Bool) (n d : Int) : Bool := decide (spE T D n d = 0)
/-- The assumed component of an arc and a destination. -/
noncomputable def asmF (T : Topo) (a : Nat) (d : Int) : Int × Int :=
  if (decide (0 < grpN T a) && rchB T (maskL T 3 (grpN T a)) (tailN T a) d) = true then (3, grpN T a)
  else if (decide (headN T a ≠ d) && rchB T (maskL T 2 (headN T a)) (tailN T a) d) = true then (2, headN T a)
  else (1, ((a / 2 : Nat) : Int))
/-- The arcs of a mask that begin at a node. -/
def ownM (T : Topo) (M : List Bool) (n : Int) : List Bool := (List.range (2 * T.links.length)).map fun a => downN M a && decide (tailN T a = n)
def orM (T : Topo) (D E : List Bool) : List Bool := (List.range (2 * T.links.length)).map fun a => downN D a || downN E a
theorem map_down {f : Nat → Bool} {n a : Nat} : downN ((List.range n).map f) a = (decide (a < n) && f a) := by
  unfold downN
  rw [List.getD_eq_getElem?_getD, List.getElem?_map]
  by_cases h : a < n
  · rw [List.getElem?_range h]; simp [h]
  · rw [List.getElem?_eq_none (by simp; omega)]; simp [h]
theorem map_fits {T : Topo} {f : Nat → Bool} : fitsB T ((List.range (2 * T.links.length)).map f) = true := by simp [fitsB]
theorem own_down {T : Topo} {M : List Bool} {n : Int} {a : Nat} : downN (ownM T M n) a = (decide (a < 2 * T.links.length) && (downN M a && decide (tailN T a = n))) := map_down
theorem or_down {T : Topo} {D E : List Bool} {a : Nat} : downN (orM T D E) a = (decide (a < 2 * T.links.length) && (downN D a || downN E a)) := map_down
theorem mask_fits (T : Topo) (k x : Int) : fitsB T (maskL T k x) = true := map_fits
theorem or_fits (T : Topo) (D E : List Bool) : fitsB T (orM T D E) = true := map_fits
theorem rch_iff {T : Topo} {D : List Bool} {x y : Nat} (hv : validB T = true) (hf : fitsB T D = true) (hx : (x : Int) < T.nodes) (hy : (y : Int) < T.nodes) : rchB T D x y = true ↔ 0 ≤ dN T D y x := by
  unfold rchB
  rw [decide_eq_true_eq, spE_zero hv hf hx hy]
  split <;> omega
theorem grp_range {T : Topo} (hv : validB T = true) {a : Nat} (ha : a < 2 * T.links.length) : 0 ≤ grpN T a ∧ grpN T a ≤ 64 := by
  have h := valid_link hv (a / 2) (by omega)
  unfold grpN
  unfold linkOK at h
  rw [Bool.and_eq_true] at h
  unfold withinB at h
  exact of_decide_eq_true h.2
theorem asm_comp {T : Topo} (hv : validB T = true) {a : Nat} (ha : a < 2 * T.links.length) (d : Int) : compB T (asmF T a d).1 (asmF T a d).2 = true := by
  have hg := grp_range hv ha
  unfold asmF
  split
  · rename_i h
    rw [Bool.and_eq_true, decide_eq_true_eq] at h
    show compB T 3 (grpN T a) = true
    unfold compB
    simp only [if_neg (show ¬ (3 : Int) = 1 by decide), if_neg (show ¬ (3 : Int) = 2 by decide), if_true, Bool.and_eq_true, decide_eq_true_eq]
    exact ⟨by omega, by omega⟩
  · split
    · obtain ⟨h0, h1⟩ := (sound_of hv).head a ha
      show compB T 2 (headN T a) = true
      unfold compB
      simp only [if_neg (show ¬ (2 : Int) = 1 by decide), if_true]
      exact nodeB_iff.2 ⟨h0, h1⟩
    · show compB T 1 ((a / 2 : Nat) : Int) = true
      unfold compB
      simp only [if_true, Bool.and_eq_true, decide_eq_true_eq]
      exact ⟨by omega, by omega⟩
/-- The first arc of a list that is in a mask. -/
def hitL (own : List Bool) (l : List Int) : Option Int := l.find? fun a => downN own a.toNat
noncomputable def mixM (T : Topo) (own : List Bool) (n d : Int) (a : Nat) : List Bool :=
  if rchB T (orM T (maskL T (asmF T a d).1 (asmF T a d).2) own) n d = true then orM T (maskL T (asmF T a d).1 (asmF T a d).2) own else own
/-- The entry in the state Repair. -/
noncomputable def repX (T : Topo) (own : List Bool) (n d : Nat) : Ent := match hitL own (nextL T [] n d) with
  | none => ⟨nextL T [] n d, false, []⟩
  | some a => entX T (mixM T own n d a.toNat) n d
noncomputable def repL (T : Topo) (own : List Bool) (n k : Nat) : List Ent := (List.range k).map fun d => repX T own n d
theorem repL_step (T : Topo) (own : List Bool) (n k : Nat) : repL T own n (k + 1) = repL T own n k ++ [repX T own n k] := by simp [repL, List.range_succ]
theorem repL_len (T : Topo) (own : List Bool) (n k : Nat) : (repL T own n k).length = k := by simp [repL]
theorem repL_get {T : Topo} {own : List Bool} {n k d : Nat} (h : d < k) : (repL T own n k)[d]? = some (repX T own n d) := by simp [repL, h]
noncomputable def repT (T : Topo) (M : List Bool) (n : Nat) : Tab := ⟨n, repL T (ownM T M n) n T.nodes.toNat, downL M (outL T n)⟩
section
variable {T : Topo} {M own : List Bool} {n d : Nat}
theorem mix_fits (hf : fitsB T own = true) (a : Nat) : fitsB T (mixM T own n d a) = true := by
  unfold mixM; split
  · exact or_fits _ _ _
  · exact hf
theorem mix_own {a b : Nat} (hb : b < 2 * T.links.length) (h : downN (mixM T own n d a) b = false) : downN own b = false := by
  unfold mixM at h
  split at h
  · rw [or_down, decide_eq_true hb, Bool.true_and, Bool.or_eq_false_iff] at h
    exact h.2
  · exact h
theorem own_not {b : Nat} (hb : b < 2 * T.links.length) (ht : tailN T b = (n : Int)) (h : downN (ownM T M n) b = false) : downN M b = false := by
  rw [own_down, decide_eq_true hb, decide_eq_true ht] at h
  simpa using h
theorem hit_none {l : List Int} (h : hitL own l = none) : ∀ a ∈ l, downN own a.toNat = false := fun a ha => by
  have := List.find?_eq_none.1 h a ha
  simpa using this
/-- The arcs of an entry in the state Repair begin at the node, and are not in the mask. -/
theorem rep_arcs (hv : validB T = true) (hn : (n : Int) < T.nodes) (hd : (d : Int) < T.nodes) : ∀ a ∈ (repX T (ownM T M n) n d).arcs, arcB T a = true ∧ tailN T a.toNat = n ∧ downN M a.toNat = false := by
  intro a ha
  unfold repX at ha
  cases hh : hitL (ownM T M n) (nextL T [] n d) with
  | none =>
    rw [hh] at ha
    have ha : a ∈ nextL T [] n d := ha
    obtain ⟨k, rfl, hk⟩ := next_mem ha
    have := hit_none hh _ ha
    rw [Int.toNat_natCast] at this ⊢
    exact ⟨arcB_iff.2 ⟨by omega, by have := hk.arc; omega⟩, hk.tail, own_not hk.arc hk.tail this⟩
  | some b =>
    rw [hh] at ha
    have ha : a ∈ (entX T (mixM T (ownM T M n) n d b.toNat) n d).arcs := ha
    rcases ent_cases T (mixM T (ownM T M n) n d b.toNat) n d with ⟨h, _⟩ | ⟨x, y, hx, hy, hp, h⟩
    · rw [h] at ha; cases ha
    · rw [h] at ha
      simp only [List.mem_singleton] at ha
      subst ha
      obtain ⟨k, hk, hkn⟩ := hp.near
      have : x = n := by omega
      subst this
      rw [hk, Int.toNat_natCast]
      exact ⟨arcB_iff.2 ⟨by omega, by have := hkn.arc; omega⟩, hkn.tail, own_not hkn.arc hkn.tail (mix_own hkn.arc hkn.up)⟩
theorem rep_ok (hv : validB T = true) (h12 : T.nodes ≤ 12) : entOK T n d (repX T own n d) = true := by
  unfold repX
  cases hitL own (nextL T [] n d) with
  | some b => exact ent_ok _ _ _ _ h12
  | none =>
    unfold entOK
    simp only [leave_next, Bool.true_and]
    by_cases hdn : d = n
    · subst hdn; rw [next_self]; simp
    · rw [decide_eq_false (by omega)]; simp
theorem rep_valid (hv : validB T = true) (h12 : T.nodes ≤ 12) (hn : (n : Int) < T.nodes) : tabOK T (repT T M n) = true := by
  unfold tabOK repT
  have h1 : nodeB T (n : Int) = true := nodeB_iff.2 ⟨by omega, hn⟩
  have hN := (sound_of hv).nodes
  have h2 : decide (((repL T (ownM T M n) n T.nodes.toNat).length : Int) = T.nodes) = true := decide_eq_true (by rw [repL_len]; omega)
  have h3 : leaveB T n (downL M (outL T n)) = true := leave_out T n _
  have h4 : entsOK T n (repL T (ownM T M n) n T.nodes.toNat) = true := entsOK_all fun d e he => by
    have hd : d < T.nodes.toNat := by
      have := (List.getElem?_eq_some_iff.1 he).1
      rwa [repL_len] at this
    rw [repL_get hd] at he
    cases he
    exact rep_ok hv h12
  rw [hv, h1, h2, h3, h4]
  rfl
end
end PW
end Go.Proofs.YtbpgndbjbaoolaaGreat

/- Package table: Routes. -/
namespace Go.Proofs.YtbpgndbjbaoolaaGreat
set_option linter.unusedVariables false
set_option linter.unusedSimpArgs false
namespace PW
open Go.RowKit Reg Mem Net

end PW
end Go.Proofs.YtbpgndbjbaoolaaGreat

/- Package transition and the reference of layer 30: Old, Table, Final. -/
namespace Go.Proofs.YtbpgndbjbaoolaaGreat
set_option linter.unusedVariables false
set_option linter.unusedSimpArgs false
namespace PW
open Go.RowKit Reg Mem Net Rng

/-- A table, or an error. -/
def tabE (e : Int) (x : Tab) : PV := .tuple [tabV (if e = 0 then x else ⟨0, [], []⟩), num e]
theorem entE_zero {T : Topo} {D : List Bool} {n d : Int} (hv : validB T = true) (hf : fitsB T D = true) (hn : nodeB T n = true) (hd : nodeB T d = true) : nodeE T D n d = 0 := by
  unfold nodeE chkE
  rw [hv, hf, hn]
  simp [hd]
theorem downN_get {M : List Bool} {a : Nat} : M.getD a false = downN M a := by
  unfold downN
  by_cases h : M.length = 0
  · have : M = [] := List.eq_nil_of_length_eq_zero h
    subst this; simp
  · first
      | rfl
      | simp [h]
end PW
end Go.Proofs.YtbpgndbjbaoolaaGreat
