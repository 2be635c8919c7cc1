/- Texts of the proof, part 11. -/
import Derived.Test.YtbpgndbjbaoolaaCardTNB10
/- Exact lists and expansions, as plain mathematics. -/
namespace Go.Proofs.Ytbpgndbjbaoolaa
set_option linter.unusedVariables false
set_option linter.unusedSimpArgs false
namespace PW
open Go.RowKit Reg Mem Net

/-- The first index from i on whose node is x, or the last index. -/
def fstJ (T : Topo) (n : Int) (p : List Int) (x : Int) : Nat → Nat → Nat
  | 0, i => i
  | f + 1, i => if endL T n (p.take i) = x then i else fstJ T n p x f (i + 1)
/-- Where a segment leads from i. -/
noncomputable def stepX (T : Topo) (D : List Bool) (n : Int) (p : List Int) (i : Nat) (s : Seg) : Option Nat :=
  if s.kind = 2 ∧ i < p.length ∧ p.getD i 0 = s.num then some (i + 1)
  else if s.kind = 1 then (if endL T n (p.take (fstJ T n p s.num (p.length - i) i)) = s.num ∧ covB T D n p i (fstJ T n p s.num (p.length - i) i) = true then some (fstJ T n p s.num (p.length - i) i) else none)
  else none
/-- Whether a list is exact for the path from i on. -/
noncomputable def exB (T : Topo) (D : List Bool) (n : Int) (p : List Int) : Nat → List Seg → Bool
  | i, [] => decide (i = p.length)
  | i, s :: l => match stepX T D n p i s with
    | some j => exB T D n p j l
    | none => false
/-- The path of a list from a node, or the error. -/
noncomputable def expL (T : Topo) (D : List Bool) : Int → List Seg → Int × List Int
  | _, [] => (0, [])
  | x, s :: l => if s.kind = 2 then (if downN D s.num.toNat = true then (7, []) else ((expL T D (endS T s x).1 l).1, s.num :: (expL T D (endS T s x).1 l).2))
    else if spE T D x (endS T s x).1 ≠ 0 then (spE T D x (endS T s x).1, [])
    else if uniqB T D x (endS T s x).1 = false then (9, [])
    else ((expL T D (endS T s x).1 l).1, spathL T D x.toNat (endS T s x).1.toNat ++ (expL T D (endS T s x).1 l).2)
noncomputable def expE (T : Topo) (D : List Bool) (l : List Seg) (n : Int) : Int :=
  if (validB T && fitsB T D) = false then 1 else if endsE T l n ≠ 0 then endsE T l n else if (expL T D n l).1 ≠ 0 then (expL T D n l).1 else pathX T n (expL T D n l).2
section
variable {T : Topo} {D : List Bool} {n : Int} {p : List Int}
theorem fst_ge (x : Int) : ∀ f i, i ≤ fstJ T n p x f i ∧ fstJ T n p x f i ≤ i + f
  | 0, i => by simp [fstJ]
  | f + 1, i => by
    simp only [fstJ]
    split
    · omega
    · have := fst_ge x f (i + 1); omega
theorem fst_no (x : Int) : ∀ f i k, i ≤ k → k < fstJ T n p x f i → endL T n (p.take k) ≠ x
  | 0, i, k, h1, h2 => by simp only [fstJ] at h2; omega
  | f + 1, i, k, h1, h2 => by
    simp only [fstJ] at h2
    split at h2
    · omega
    · rename_i h3
      by_cases e : k = i
      · subst e; exact h3
      · exact fst_no x f (i + 1) k (by omega) h2
theorem fst_is (x : Int) : ∀ f i j, i ≤ j → j ≤ i + f → endL T n (p.take j) = x → (∀ k, i ≤ k → k < j → endL T n (p.take k) ≠ x) → fstJ T n p x f i = j
  | 0, i, j, h1, h2, _, _ => by simp only [fstJ]; omega
  | f + 1, i, j, h1, h2, h3, h4 => by
    simp only [fstJ]
    by_cases e : i = j
    · subst e; rw [if_pos h3]
    · rw [if_neg (h4 i (Nat.le_refl _) (by omega))]
      exact fst_is x f (i + 1) j (by omega) (by omega) h3 (fun k h5 h6 => h4 k (by omega) h6)
theorem Ch.fin {d : Nat} {m : Nat} {q : List Int} (h : Ch T D d m q) : endL T (m : Int) q = (d : Int) := by
  induction h with
  | nil => rfl
  | @cons n a m p ha ht hu hm ho hp ih => simp only [endL, Int.toNat_natCast, hm]; exact ih
/-- A covered part ends where its end's node is met first. -/
theorem cov_first (h : Fol T D n p) {i j : Nat} (hij : i ≤ j) (hj : j ≤ p.length) (hc : covB T D n p i j = true) : fstJ T n p (endL T n (p.take j)) (p.length - i) i = j := by
  have ha := h.arcs
  have hv := h.valid
  refine fst_is _ _ _ _ hij (by omega) rfl fun k h1 h2 he => ?_
  obtain ⟨u, hu, huN⟩ := end_node hv h.node ha i (by omega)
  obtain ⟨y, hy, hyN⟩ := end_node hv h.node ha j hj
  obtain ⟨z, hz, hzN⟩ := end_node hv h.node ha k (by omega)
  have hzy : z = y := by omega
  subst hzy
  obtain ⟨c1, c2⟩ := (cov_iff h hij hj hu hy).1 hc
  rw [part_split p h1 (show k ≤ j by omega)] at c1
  obtain ⟨c3, c4⟩ := c1.suffix hv hyN c2 (h.ch h1 (by omega) hu hz)
  have := c3.self
  have hl := part_len p (show k ≤ j by omega) hj
  rw [this] at hl
  simp at hl
  omega
theorem part_drop (p : List Int) {i j : Nat} (hij : i ≤ j) (hj : j ≤ p.length) : p.drop i = partL p i j ++ p.drop j := by
  have h1 : p.drop j = (p.drop i).drop (j - i) := by rw [List.drop_drop]; congr 1; omega
  rw [h1]
  unfold partL
  exact (List.take_append_drop _ _).symm
theorem spE_zero {x y : Nat} (hv : validB T = true) (hf : fitsB T D = true) (hx : (x : Int) < T.nodes) (hy : (y : Int) < T.nodes) : spE T D x y = if dN T D y x < 0 then 11 else 0 := by
  have hne : nodeE T D (x : Int) (y : Int) = 0 := by
    unfold nodeE
    rw [if_pos (chk_of hv hf hy), nodeB_iff.2 ⟨by omega, hx⟩]
    rfl
  unfold spE; rw [if_pos hne]; simp only [Int.toNat_natCast]
theorem uniq_iff {x y : Nat} (hv : validB T = true) (hf : fitsB T D = true) (hx : (x : Int) < T.nodes) (hy : (y : Int) < T.nodes) : uniqB T D x y = true ↔ cntS T D y x = 1 := by
  have hne : nodeE T D (x : Int) (y : Int) = 0 := by
    unfold nodeE
    rw [if_pos (chk_of hv hf hy), nodeB_iff.2 ⟨by omega, hx⟩]
    rfl
  unfold uniqB
  rw [hne]
  simp
/-- A part that is covered is the shortest path, and the other way round. -/
theorem cov_sp (h : Fol T D n p) {i j x y : Nat} (hij : i ≤ j) (hj : j ≤ p.length) (hx : endL T n (p.take i) = (x : Int)) (hy : endL T n (p.take j) = (y : Int)) : covB T D n p i j = true ↔ spE T D x y = 0 ∧ uniqB T D x y = true ∧ spathL T D x y = partL p i j := by
  have ha := h.arcs
  have hv := h.valid
  obtain ⟨x', hx', hxN⟩ := end_node hv h.node ha i (by omega)
  obtain ⟨y', hy', hyN⟩ := end_node hv h.node ha j hj
  have e1 : x' = x := by omega
  have e2 : y' = y := by omega
  subst e1
  subst e2
  rw [cov_iff h hij hj hx hy, spE_zero hv h.fits hxN hyN, uniq_iff hv h.fits hxN hyN]
  constructor
  · rintro ⟨h1, h2⟩
    have h0 := (h1.cost hv hyN).2
    exact ⟨by rw [if_neg (by omega)], h2, (spath_sp hv hyN hxN h0).unique hv hyN h1 h2⟩
  · rintro ⟨h1, h2, h3⟩
    have h0 : 0 ≤ dN T D y' x' := by
      split at h1
      · omega
      · omega
    exact ⟨by rw [← h3]; exact spath_sp hv hyN hxN h0, h2⟩
/-- A list is exact if and only if it expands to the path. -/
theorem ex_iff (h : Fol T D n p) : ∀ (l : List Seg) (i : Nat), i ≤ p.length → (exB T D n p i l = true ↔ (endsL T (endL T n (p.take i)) l).2 = 0 ∧ (expL T D (endL T n (p.take i)) l).1 = 0 ∧ (expL T D (endL T n (p.take i)) l).2 = p.drop i)
  | [], i, hi => by
    simp only [exB, endsL, expL, decide_eq_true_eq, true_and]
    constructor
    · rintro rfl; simp
    · intro h
      have := congrArg List.length h
      simp at this
      omega
  | s :: l, i, hi => by
    have ha := h.arcs
    have hv := h.valid
    obtain ⟨x, hx, hxN⟩ := end_node hv h.node ha i hi
    have hnb : nodeB T (x : Int) = true := nodeB_iff.2 ⟨by omega, hxN⟩
    rw [hx]
    simp only [exB]
    by_cases hk2 : s.kind = 2
    · by_cases hp : i < p.length ∧ p.getD i 0 = s.num
      · have hst : stepX T D n p i s = some (i + 1) := by unfold stepX; rw [if_pos ⟨hk2, hp⟩]
        have hmem := getD_mem (d := 0) hp.1
        have hab := ha _ hmem
        have htl := part_tail h hp.1 hx
        have hup := h.up _ hmem
        have hed := endL_step T n p i hp.1
        rw [hp.2] at hab htl hup hed
        have hsg : segB T s = true := by unfold segB; rw [if_neg (by omega), if_pos hk2]; exact hab
        have hes : endS T s x = (endL T n (p.take (i + 1)), 0) := by
          unfold endS
          rw [if_neg (by rw [hsg]; simp), if_neg (by rw [hnb]; simp), if_neg (by omega), if_pos hk2, if_neg (by rw [htl]; simp), hed]
        rw [hst]
        simp only [endsL, expL]
        rw [hes, if_neg (by simp), if_pos hk2, if_neg (by rw [hup]; simp)]
        simp only
        rw [ex_iff h l (i + 1) hp.1, drop_cons p i hp.1, hp.2]
        simp
      · have hst : stepX T D n p i s = none := by unfold stepX; rw [if_neg (fun e => hp e.2), if_neg (by omega)]
        rw [hst]
        constructor
        · intro e; cases e
        · rintro ⟨_, e2, e3⟩
          exfalso
          simp only [expL] at e2 e3
          rw [if_pos hk2] at e2 e3
          split at e2
          · simp at e2
          · rename_i hd
            rw [if_neg hd] at e3
            simp only at e3
            have hlt : i < p.length := by
              have := congrArg List.length e3
              simp at this
              omega
            rw [drop_cons p i hlt] at e3
            exact hp ⟨hlt, (List.cons.inj e3).1.symm⟩
    · by_cases hk1 : s.kind = 1
      · have hes : (endS T s x).2 = 0 → nodeB T s.num = true ∧ (endS T s x).1 = s.num := fun e => by
          unfold endS at e ⊢
          split at e
          · simp at e
          · rename_i h1
            rw [if_neg h1]
            rw [if_neg (by rw [hnb]; simp), if_pos hk1]
            have hsg : segB T s = true := by simpa using h1
            unfold segB at hsg
            rw [if_pos hk1] at hsg
            exact ⟨hsg, rfl⟩
        constructor
        · intro e
          cases hst : stepX T D n p i s with
          | none => rw [hst] at e; cases e
          | some j =>
            rw [hst] at e
            simp only at e
            unfold stepX at hst
            rw [if_neg (fun e => hk2 e.1), if_pos hk1] at hst
            split at hst
            · rename_i hc
              simp only [Option.some.injEq] at hst
              rw [hst] at hc
              have hge := fst_ge (T := T) (n := n) (p := p) s.num (p.length - i) i
              rw [hst] at hge
              have hj : j ≤ p.length := by omega
              obtain ⟨y, hy, hyN⟩ := end_node hv h.node ha j hj
              obtain ⟨c1, c2, c3⟩ := (cov_sp h hge.1 hj hx hy).1 hc.2
              have hsy : s.num = (y : Int) := by rw [← hc.1]; exact hy
              have hsg : segB T s = true := by unfold segB; rw [if_pos hk1, hsy]; exact nodeB_iff.2 ⟨by omega, hyN⟩
              have hes2 : endS T s x = ((y : Int), 0) := by
                unfold endS
                rw [if_neg (by rw [hsg]; simp), if_neg (by rw [hnb]; simp), if_pos hk1, hsy]
              have ih := (ex_iff h l j hj).1 e
              rw [hy] at ih
              simp only [endsL, expL]
              rw [hes2, if_neg (by simp), if_neg hk2, if_neg (by simpa using c1), if_neg (by rw [c2]; simp)]
              simp only [Int.toNat_natCast]
              refine ⟨ih.1, ih.2.1, ?_⟩
              rw [ih.2.2, c3, ← part_drop p hge.1 hj]
            · cases hst
        · rintro ⟨e1, e2, e3⟩
          simp only [endsL] at e1
          by_cases h0 : (endS T s x).2 = 0
          · rw [if_neg (by rw [h0]; simp)] at e1
            simp only at e1
            obtain ⟨hn, he⟩ := hes h0
            obtain ⟨hn0, hnN⟩ := nodeB_iff.1 hn
            obtain ⟨y, hy⟩ := Int.eq_ofNat_of_zero_le hn0
            have hyN : (y : Int) < T.nodes := by omega
            rw [he] at e1
            simp only [expL] at e2 e3
            rw [if_neg hk2, he] at e2 e3
            rw [hy] at e1 e2 e3
            split at e2
            · rename_i h5; simp only at e2; exact absurd e2 h5
            · rename_i h5
              rw [if_neg h5] at e3
              split at e2
              · simp at e2
              · rename_i h6
                rw [if_neg h6] at e3
                simp only [Int.toNat_natCast] at e2 e3
                have h5' : spE T D x y = 0 := by simpa using h5
                have h6' : uniqB T D x y = true := by simpa using h6
                rw [spE_zero hv h.fits hxN hyN] at h5'
                have hd0 : 0 ≤ dN T D y x := by
                  split at h5'
                  · omega
                  · omega
                have hsp := spath_sp hv hyN hxN hd0
                have hlen : (spathL T D x y).length ≤ p.length - i := by
                  have := congrArg List.length e3
                  simp at this
                  omega
                have hj : i + (spathL T D x y).length ≤ p.length := by omega
                generalize hjj : i + (spathL T D x y).length = j at hj
                have hij : i ≤ j := by omega
                have hpd := part_drop p hij hj
                have hpl := part_len p hij hj
                rw [← e3] at hpd
                obtain ⟨hq1, hq2⟩ := List.append_inj hpd (by omega)
                have hyj : endL T n (p.take j) = (y : Int) := by
                  rw [take_part p hij, endL_append, hx, ← hq1]
                  exact hsp.ch.fin
                have hcv : covB T D n p i j = true := (cov_sp h hij hj hx hyj).2 ⟨by simpa using h5, h6', hq1⟩
                have hfs := cov_first h hij hj hcv
                rw [hyj, ← hy] at hfs
                have hst : stepX T D n p i s = some j := by
                  unfold stepX
                  rw [if_neg (fun e => hk2 e.1), if_pos hk1, hfs, if_pos ⟨by rw [hyj, hy], hcv⟩]
                rw [hst]
                simp only
                rw [ex_iff h l j hj, hyj]
                exact ⟨e1, e2, hq2⟩
          · rw [if_pos h0] at e1
            exact absurd e1 h0
      · have hst : stepX T D n p i s = none := by unfold stepX; rw [if_neg (fun e => hk2 e.1), if_neg hk1]
        rw [hst]
        constructor
        · intro e; cases e
        · rintro ⟨e1, _⟩
          exfalso
          simp only [endsL] at e1
          have h0 : (endS T s x).2 ≠ 0 := by
            unfold endS
            rw [if_neg hk1, if_neg hk2]
            repeat' split
            all_goals simp
          rw [if_pos h0] at e1
          exact h0 e1
/-- Only what is covered is stepped over. -/
theorem step_some {i j : Nat} {s : Seg} (hi : i ≤ p.length) (hst : stepX T D n p i s = some j) : (j = i + 1 ∧ i < p.length) ∨ (i ≤ j ∧ j ≤ p.length ∧ covB T D n p i j = true) := by
  unfold stepX at hst
  split at hst
  · rename_i h1
    cases hst
    exact .inl ⟨rfl, h1.2.1⟩
  · split at hst
    · split at hst
      · rename_i h3
        simp only [Option.some.injEq] at hst
        rw [hst] at h3
        have hge := fst_ge (T := T) (n := n) (p := p) s.num (p.length - i) i
        rw [hst] at hge
        exact .inr ⟨hge.1, by omega, h3.2⟩
      · cases hst
    · cases hst
/-- No exact list is shorter. -/
theorem ex_len (h : Fol T D n p) : ∀ (l : List Seg) (i : Nat), i ≤ p.length → exB T D n p i l = true → gN T D n p i ≤ l.length
  | [], i, hi, he => by
    simp only [exB, decide_eq_true_eq] at he
    rw [gN_end (by omega)]
    exact Nat.zero_le _
  | s :: l, i, hi, he => by
    simp only [exB] at he
    cases hst : stepX T D n p i s with
    | none => rw [hst] at he; cases he
    | some j =>
      rw [hst] at he
      simp only at he
      have hs := step_some hi hst
      have ih := ex_len h l j (by omega) he
      simp only [List.length_cons]
      rcases hs with ⟨rfl, h1⟩ | ⟨h1, h2, h3⟩
      · have := gN_le h h1 (.inl rfl)
        omega
      · by_cases e : i = j
        · subst e; omega
        · have := gN_le h (show i < p.length by omega) (.inr ⟨by omega, h2, h3⟩)
          omega
/-- The list of the path is exact. -/
theorem ex_lst (h : Fol T D n p) : ∀ (f i : Nat), i ≤ p.length → p.length - i ≤ f → exB T D n p i (lstF T D n p f i) = true
  | f, i, hi, hf => by
    by_cases hlt : i < p.length
    · cases f with
      | zero => omega
      | succ f =>
        cases ht : topD (covB T D n p i) i p.length with
        | none =>
          rw [lst_none hlt (fun k h1 h2 => topD_isNone _ ht k h1 h2)]
          simp only [exB]
          have hst : stepX T D n p i ⟨2, p.getD i 0⟩ = some (i + 1) := by unfold stepX; rw [if_pos ⟨rfl, hlt, rfl⟩]
          rw [hst]
          exact ex_lst h f (i + 1) (by omega) (by omega)
        | some j =>
          obtain ⟨t1, t2, t3, t4⟩ := topD_is _ _ ht
          rw [lst_some hlt t1 t2 t3 t4]
          simp only [exB]
          have hst : stepX T D n p i ⟨1, endL T n (p.take j)⟩ = some j := by
            unfold stepX
            simp only
            rw [if_neg (by omega), if_pos trivial, cov_first h (by omega) t2 t3, if_pos ⟨rfl, t3⟩]
          rw [hst]
          exact ex_lst h f j t2 (by omega)
    · rw [lst_end f i (by omega)]
      simp only [exB, decide_eq_true_eq]
      omega
theorem lst_len : ∀ f i, (lstF T D n p f i).length ≤ f := fun f => by
  induction f with
  | zero => intro i; simp [lstF]
  | succ f ih =>
    intro i
    simp only [lstF]
    split
    · split
      · have := ih ‹Nat›; simp only [List.length_cons]; omega
      · have := ih (i + 1); simp only [List.length_cons]; omega
    · simp
theorem fol_zero (h : Fol T D n p) : folE T D n p = 0 := by
  unfold folE
  have h2 : pathX T n p = 0 := by unfold pathX; rw [if_pos h.valid, if_pos h.node]; exact h.walk
  rw [if_pos (by rw [h.valid, h.fits]; rfl), if_pos h2, if_neg]
  intro e
  obtain ⟨x, h3, h4⟩ := List.any_eq_true.1 e
  rw [h.up x h3] at h4
  cases h4
/-- The reference's answer. -/
theorem exact_iff (l : List Seg) (n : Int) (p : List Int) (h : Fol T D n p) : exB T D n p 0 l = (decide (expE T D l n = 0) && sameB (if expE T D l n = 0 then (expL T D n l).2 else []) p) := by
  have hi := ex_iff h l 0 (Nat.zero_le _)
  rw [List.take_zero, List.drop_zero] at hi
  simp only [endL] at hi
  have hvf : ¬ (validB T && fitsB T D) = false := by rw [h.valid, h.fits]; simp
  have hend : endsE T l n = (endsL T n l).2 := by unfold endsE; rw [if_neg (by rw [h.valid]; simp), if_neg (by rw [h.node]; simp)]
  have hpx : pathX T n p = 0 := by unfold pathX; rw [if_pos h.valid, if_pos h.node]; exact h.walk
  rw [Bool.eq_iff_iff, hi, Bool.and_eq_true, decide_eq_true_eq]
  unfold sameB
  rw [decide_eq_true_eq]
  constructor
  · rintro ⟨h1, h2, h3⟩
    have he : expE T D l n = 0 := by
      unfold expE
      rw [if_neg hvf, if_neg (by rw [hend, h1]; simp), if_neg (by rw [h2]; simp), h3, hpx]
    rw [he, if_pos rfl]
    exact ⟨rfl, h3⟩
  · rintro ⟨h1, h2⟩
    rw [if_pos h1] at h2
    unfold expE at h1
    rw [if_neg hvf, hend] at h1
    split at h1
    · rename_i h3; exact absurd h1 h3
    · rename_i h3
      split at h1
      · rename_i h4; exact absurd h1 h4
      · rename_i h4
        exact ⟨by simpa using h3, by simpa using h4, h2⟩
end
end PW
end Go.Proofs.Ytbpgndbjbaoolaa

/- Stable segments: package stable, the reference of layer 28. -/
namespace Go.Proofs.Ytbpgndbjbaoolaa
set_option linter.unusedVariables false
set_option linter.unusedSimpArgs false
namespace PW
open Go.RowKit Reg Mem Net

/-- No arc of a path is down. -/
def clearB (D : List Bool) (q : List Int) : Bool := !q.any fun a => downN D a.toNat
theorem clear_iff {D : List Bool} {q : List Int} : clearB D q = true ↔ ∀ a ∈ q, downN D a.toNat = false := by
  unfold clearB
  rw [Bool.not_eq_true', List.any_eq_false]
  constructor
  · intro h a ha
    have := h a ha
    simpa using this
  · intro h a ha
    rw [h a ha]
    simp
theorem clear_no {D : List Bool} {q : List Int} {a : Int} (ha : a ∈ q) (h : downN D a.toNat = true) : clearB D q = false := by
  unfold clearB
  rw [Bool.not_eq_false', List.any_eq_true]
  exact ⟨a, ha, h⟩
set_option maxRecDepth 10000 in
set_option maxHeartbeats 1000000 in
theorem up_can (T : Topo) (D : List Bool) (q : List Int) (hf : fitsB T D = true) (ha : ∀ a ∈ q, arcB T a = true) (hq : q.length ≤ 1000) : Can Try.prog 53 [boolsV D, intsV q] (· = flag (clearB D q)) := by
  refine can_of Try.func53 rfl Try.ntmps53 rfl ?_
  refine W_cs (.a 1 rfl <| .k [0, 1] rfl) ?_
  refine W_seq ?_
  refine W_cs (.a 3 rfl <| .k [0, 7, 8, 9] rfl) ?_
  refine W_block ?_
  refine W_k [0, 7, 8, 9] rfl ?_
  refine W_loop (fun r st => ∃ k : Nat, k ≤ q.length ∧ r = q.length - k ∧ (∀ a ∈ q.take k, downN D a.toNat = false) ∧ st = ⟨[(0, boolsV D), (7, intsV q), (8, num q.length), (9, num k)], []⟩) q.length ⟨0, by omega, by omega, by simp, rfl⟩ ?_
  rintro r st ⟨k, hk, rfl, hdn, rfl⟩
  refine W_cs (.a 1 rfl <| .k [0, 7, 8, 9, 10] rfl) ?_
  refine W_seq ?_
  refine W_cond rfl (fun hy => ?_) (fun hy => ?_)
  · have hlt : k < q.length := by have := tt hy; omega
    have hmem := getD_mem (d := 0) hlt
    have hab := ha _ hmem
    simp only [arcB, decide_eq_true_eq] at hab
    obtain ⟨a, hae⟩ : ∃ a : Nat, q.getD k 0 = (a : Int) := ⟨(q.getD k 0).toNat, by omega⟩
    have hD : D.length = 0 ∨ a < D.length := by simp only [fitsB, decide_eq_true_eq] at hf; omega
    refine W_skip ?_
    refine W_seq ?_
    refine W_block ?_
    refine W_cs (.v (y_ix (k) rfl) rfl <| .v (y_ld rfl ((ints_get q k hlt).trans (by rw [hae]))) rfl <| .a 1 rfl <| .k [0, 6, 7, 8, 9] rfl) ?_
    refine W_cs (.a 2 rfl <| .c rfl (down_can D a hD) rfl <| .k [0, 7, 8, 9, 15] rfl) ?_
    refine W_cond rfl (fun hz => ?_) (fun hz => ?_)
    · have he := clear_no (D := D) hmem (by rw [hae]; exact hz)
      refine W_cs (.a 1 rfl <| .k [4] rfl) ?_
      refine W_ret ?_
      exact ⟨_, _, ResL.of rfl, Pur.pure, by rw [he]; rfl⟩
    · skip
      refine W_skip ?_
      refine W_chain (.v (y_ar rfl) rfl <| .a 1 rfl <| .k [0, 7, 8, 9] rfl) ?_
      refine ⟨q.length - (k + 1), by omega, k + 1, by omega, rfl, fun x hx => ?_, rfl⟩
      rw [take_step q k 0 hlt] at hx
      rcases List.mem_append.1 hx with h | h
      · exact hdn x h
      · simp only [List.mem_singleton] at h; rw [h, hae]; exact hz
  · have hke : k = q.length := by have := ff hy; omega
    subst hke
    rw [List.take_length] at hdn
    refine W_exit ?_
    refine W_cs (.a 1 rfl <| .k [4] rfl) ?_
    refine W_ret ?_
    exact ⟨_, _, ResL.of rfl, Pur.pure, by rw [clear_iff.2 hdn]; rfl⟩
theorem fol_path {T : Topo} {D : List Bool} {n : Int} {p : List Int} (hvf : (validB T && fitsB T D) = true) (h : pathX T n p ≠ 0) : folE T D n p = pathX T n p := by unfold folE; rw [if_pos hvf, if_neg h]
theorem fol_clear {T : Topo} {D : List Bool} {n : Int} {p : List Int} (hvf : (validB T && fitsB T D) = true) (h : pathX T n p = 0) : folE T D n p = if clearB D p = true then 0 else 7 := by
  unfold folE clearB
  rw [if_pos hvf, if_pos h]
  cases p.any fun a => downN D a.toNat <;> rfl
set_option maxRecDepth 10000 in
set_option maxHeartbeats 1000000 in
theorem scheck_can (T : Topo) (D : List Bool) (p : List Int) (n : Int) (hp : p.length ≤ 1000) (hlk : T.links.length ≤ 256) : Can Try.prog 42 [topoV T, boolsV D, intsV p, num n] (· = num (folE T D n p)) := by
  obtain ⟨q1, hq1⟩ : ∃ q, validB T = q := ⟨_, rfl⟩
  obtain ⟨q2, hq2⟩ : ∃ q, fitsB T D = q := ⟨_, rfl⟩
  refine can_of Try.func42 rfl Try.ntmps42 rfl ?_
  refine W_cs (.a 2 rfl <| .k [1, 2, 3, 4] rfl) ?_
  refine W_seq ?_
  refine W_csK 20 (.raw (.bool ((!q1) || !q2))) [1, 2, 3, 4] rfl ?_ ?_
  · refine .a 1 rfl <| .c rfl (hq1 ▸ valid_can T) rfl <| .a 2 rfl <| ?_
    cases q1
    · exact .a 5 rfl <| .k [20, 1, 2, 3, 4] rfl
    · exact .a 2 rfl <| .c rfl (hq2 ▸ fits_can T D (by omega)) rfl <| .a 2 rfl <| .k [20, 1, 2, 3, 4] rfl
  refine W_cond rfl (fun hc => ?_) (fun hc => ?_)
  · have he : folE T D n p = 1 := by unfold folE; rw [hq1, hq2]; cases q1 <;> cases q2 <;> first | rfl | cases hc
    refine W_cs (.a 1 rfl <| .k [8] rfl) ?_
    refine W_ret ?_
    exact ⟨_, _, ResL.of rfl, Pur.pure, by rw [he]; rfl⟩
  · have hv : validB T = true := by rw [hq1]; cases q1; cases hc; rfl
    have hf : fitsB T D = true := by rw [hq2]; cases q2; cases q1 <;> cases hc; rfl
    have hvf : (validB T && fitsB T D) = true := by rw [hv, hf]; rfl
    refine W_skip ?_
    refine W_seq ?_
    refine W_cs (.a 3 rfl <| .c rfl (path_can T n p (by omega)) rfl <| .a 7 rfl <| .k [1, 2, 11] rfl) ?_
    refine W_cs (.a 2 rfl <| .k [1, 2, 11, 30] rfl) ?_
    refine W_cond rfl (fun hx => ?_) (fun hx => ?_)
    · have hx1 : pathX T n p ≠ 0 := tt hx
      refine W_cs (.a 2 rfl <| .k [8] rfl) ?_
      refine W_ret ?_
      exact ⟨_, _, ResL.of rfl, Pur.pure, by rw [fol_path hvf hx1]; rfl⟩
    · have hx1 : pathX T n p = 0 := Classical.byContradiction (ff hx)
      obtain ⟨_, hn, hw⟩ := pathX_zero hx1
      have ha := walk_arcs hw
      rw [fol_clear hvf hx1]
      refine W_skip ?_
      refine W_seq ?_
      refine W_cs (.a 2 rfl <| .c rfl (up_can T D p hf ha hp) rfl <| .a 1 rfl <| .k [35] rfl) ?_
      refine W_cond rfl (fun hy => ?_) (fun hy => ?_)
      · have hy1 : clearB D p = false := by simpa using hy
        refine W_cs (.a 1 rfl <| .k [8] rfl) ?_
        refine W_ret ?_
        exact ⟨_, _, ResL.of rfl, Pur.pure, by rw [hy1]; rfl⟩
      · have hy1 : clearB D p = true := by simpa using hy
        refine W_skip ?_
        refine W_cs (.a 1 rfl <| .k [8] rfl) ?_
        refine W_ret ?_
        exact ⟨_, _, ResL.of rfl, Pur.pure, by rw [hy1]; rfl⟩
section
variable {T : Topo} {D : List Bool} {n : Int} {p : List Int}
theorem fits_nil (T : Topo) : fitsB T [] = true := by simp [fitsB]
theorem Fol.bare (h : Fol T D n p) : Fol T [] n p := ⟨h.valid, fits_nil T, h.node, h.walk, fun a _ => by simp [downN]⟩
theorem folB {n : Int} {p : List Int} (h : folE T D n p = 0) : folE T [] n p = 0 := fol_zero (fol_of h).bare
end
set_option maxRecDepth 10000 in
set_option maxHeartbeats 1000000 in
theorem slist_can (T : Topo) (D : List Bool) (p : List Int) (n : Int) (hp : p.length ≤ 1000) (hlk : T.links.length ≤ 256) (h12 : T.nodes ≤ 12) : Can Try.prog 31 [topoV T, boolsV D, intsV p, num n] (· = segsE (folE T D n p) (lstL T [] n p)) := by
  refine can_of Try.func31 rfl Try.ntmps31 rfl ?_
  refine W_cs (.a 3 rfl <| .k [1, 2, 3, 4] rfl) ?_
  refine W_seq ?_
  refine W_cs (.a 4 rfl <| .c rfl (scheck_can T D p n hp hlk) rfl <| .a 1 rfl <| .k [2, 3, 4, 10] rfl) ?_
  refine W_cs (.a 2 rfl <| .k [2, 3, 4, 10, 17] rfl) ?_
  refine W_cond rfl (fun hc => ?_) (fun hc => ?_)
  · have he : folE T D n p ≠ 0 := tt hc
    refine W_cs (.a 3 rfl <| .k [8, 9] rfl) ?_
    refine W_ret ?_
    exact ⟨_, _, ResL.of rfl, Pur.tupleL (PurL.cons Pur.nils (PurL.cons Pur.pure PurL.nil)), by unfold segsE; rw [if_neg he]; rfl⟩
  · have he : folE T D n p = 0 := Classical.byContradiction (ff hc)
    have hl := elist_can T [] p n hp hlk h12
    rw [folB he] at hl
    rw [he]
    refine W_skip ?_
    refine W_cs (.a 3 rfl <| .v (y_cP rfl (PurL.cons Pur.pure <| PurL.cons Pur.nils <| PurL.cons Pur.pure <| PurL.cons Pur.pure PurL.nil) (hl)) rfl <| .a 4 rfl <| .k [8, 9] rfl) ?_
    refine W_ret ?_
    exact ⟨_, _, ResL.of rfl, Pur.pure, rfl⟩
end PW
end Go.Proofs.Ytbpgndbjbaoolaa

/- Package encode's Exact, walked. -/
namespace Go.Proofs.Ytbpgndbjbaoolaa
set_option linter.unusedVariables false
set_option linter.unusedSimpArgs false
namespace PW
open Go.RowKit Reg Mem Net

def onlyQ (K : St → Prop) : Exit → St → Prop
  | .normal, s => K s
  | _, _ => False
theorem W_seqM {P : Program} {N L : Nat} {x y : Code} {st : St} {Q : Exit → St → Prop} {Q1 : St → Prop} (h : W P N L x st (onlyQ Q1)) (k : ∀ s, Q1 s → W P N L y s Q) : W P N L (.seq x y) st Q :=
  W_seq (h.mono fun e s hq => by
    cases e <;> first | exact k s hq | exact hq.elim)
section
variable {T : Topo} {D : List Bool} {n : Int} {p : List Int}
theorem fst_stop (x : Int) : ∀ f i j, i ≤ j → j ≤ i + f → (∀ k, i ≤ k → k < j → endL T n (p.take k) ≠ x) → (j = i + f ∨ endL T n (p.take j) = x) → fstJ T n p x f i = j
  | 0, i, j, h1, h2, _, _ => by simp only [fstJ]; omega
  | f + 1, i, j, h1, h2, h4, h5 => by
    simp only [fstJ]
    by_cases e : i = j
    · subst e
      rcases h5 with h5 | h5
      · omega
      · rw [if_pos h5]
    · rw [if_neg (h4 i (Nat.le_refl _) (by omega))]
      exact fst_stop x f (i + 1) j (by omega) (by omega) (fun k h6 h7 => h4 k (by omega) h7) (by rcases h5 with h5 | h5; exact .inl (by omega); exact .inr h5)
end
theorem cell_pure (s : Seg) : PureD (some (.cells 60 (segP s))) := fun b hb => by cases hb; exact (inferInstance : IsPureL (segP s))
noncomputable def exactB (T : Topo) (D : List Bool) (l : List Seg) (n : Int) (p : List Int) : Bool := if folE T D n p = 0 then exB T D n p 0 l else false
end PW
end Go.Proofs.Ytbpgndbjbaoolaa

/- Expansions of lists: package encode's Expand, the reference's Expand and Exact. -/
namespace Go.Proofs.Ytbpgndbjbaoolaa
set_option linter.unusedVariables false
set_option linter.unusedSimpArgs false
namespace PW
open Go.RowKit Reg Mem Net

section
variable {T : Topo} {D : List Bool}
theorem Ch.arcs {d m : Nat} {q : List Int} (h : Ch T D d m q) : ∀ a ∈ q, arcB T a = true := by
  induction h with
  | nil => intro a ha; cases ha
  | @cons n a m p ha ht hu hm ho hp ih =>
    intro b hb
    rcases List.mem_cons.1 hb with rfl | hb
    · exact arcB_iff.2 ⟨by omega, by omega⟩
    · exact ih b hb
theorem spE_facts {x y : Int} (h : spE T D x y = 0) : ∃ a b : Nat, x = (a : Int) ∧ y = (b : Int) ∧ (a : Int) < T.nodes ∧ (b : Int) < T.nodes ∧ validB T = true ∧ SP T D b a (spathL T D x.toNat y.toNat) := by
  unfold spE at h
  split at h
  · rename_i he
    obtain ⟨hv, hf, hn, hd⟩ := nodeE_zero he
    rw [nodeB_iff] at hn hd
    obtain ⟨a, rfl⟩ := Int.eq_ofNat_of_zero_le hn.1
    obtain ⟨b, rfl⟩ := Int.eq_ofNat_of_zero_le hd.1
    refine ⟨a, b, rfl, rfl, hn.2, hd.2, hv, ?_⟩
    simp only [Int.toNat_natCast] at h ⊢
    exact spath_sp hv hd.2 hn.2 (by split at h <;> omega)
  · rename_i he
    exact absurd h he
theorem end_zero {s : Seg} {x : Int} (h : (endS T s x).2 = 0) : segB T s = true ∧ nodeB T x = true ∧ (s.kind = 1 ∧ (endS T s x).1 = s.num ∨ s.kind = 2 ∧ arcB T s.num = true) := by
  unfold endS at h ⊢
  split at h
  · simp at h
  · rename_i h1
    have hsg : segB T s = true := by simpa using h1
    split at h
    · simp at h
    · rename_i h2
      rw [if_neg h1, if_neg h2]
      refine ⟨hsg, by simpa using h2, ?_⟩
      split at h
      · rename_i h3
        exact .inl ⟨h3, by rw [if_pos h3]⟩
      · rename_i h3
        split at h
        · rename_i h4
          right
          unfold segB at hsg
          rw [if_neg h3, if_pos h4] at hsg
          exact ⟨h4, hsg⟩
        · simp at h
theorem exp_arcs : ∀ (l : List Seg) (x : Int), (endsL T x l).2 = 0 → (expL T D x l).1 = 0 → ∀ a ∈ (expL T D x l).2, arcB T a = true
  | [], x, _, _ => by intro a ha; simp [expL] at ha
  | s :: l, x, h1, h2 => by
    simp only [endsL] at h1
    by_cases h0 : (endS T s x).2 = 0
    · rw [if_neg (by rw [h0]; simp)] at h1
      simp only at h1
      have hz := end_zero h0
      simp only [expL] at h2 ⊢
      split at h2
      · rename_i hk
        rw [if_pos hk]
        split at h2
        · simp at h2
        · rename_i hd
          rw [if_neg hd]
          simp only at h2 ⊢
          intro a ha
          rcases List.mem_cons.1 ha with rfl | ha
          · rcases hz.2.2 with h | h
            · omega
            · exact h.2
          · exact exp_arcs l _ h1 h2 a ha
      · rename_i hk
        rw [if_neg hk]
        split at h2
        · rename_i h5; exact absurd h2 h5
        · rename_i h5
          rw [if_neg h5]
          split at h2
          · simp at h2
          · rename_i h6
            rw [if_neg h6]
            simp only at h2 ⊢
            intro a ha
            rcases List.mem_append.1 ha with ha | ha
            · obtain ⟨_, _, _, _, _, _, _, hsp⟩ := spE_facts (Classical.byContradiction h5)
              exact hsp.ch.arcs a ha
            · exact exp_arcs l _ h1 h2 a ha
    · rw [if_pos h0] at h1; exact absurd h1 h0
theorem walk_four : ∀ (l : List Int) (f : Bool) (x : Int), (∀ a ∈ l, arcB T a = true) → walkE T f x l = 0 ∨ walkE T f x l = 4
  | [], _, _, _ => .inl rfl
  | a :: l, f, x, h => by
    simp only [walkE]
    rw [if_neg (by rw [h a (by simp)]; simp)]
    split
    · exact .inr rfl
    · exact walk_four l _ _ (fun b hb => h b (by simp [hb]))
theorem ends_cons {s : Seg} {l : List Seg} {x : Int} (h : (endsL T x (s :: l)).2 = 0) : (endS T s x).2 = 0 ∧ (endsL T (endS T s x).1 l).2 = 0 ∧ (endsL T x (s :: l)).1 = (endS T s x).1 :: (endsL T (endS T s x).1 l).1 := by
  simp only [endsL] at h ⊢
  by_cases h0 : (endS T s x).2 = 0
  · rw [if_neg (by rw [h0]; simp)] at h
    rw [if_neg (by rw [h0]; simp)]
    exact ⟨h0, h, rfl⟩
  · rw [if_pos h0] at h; exact absurd h h0
theorem ends_len : ∀ (l : List Seg) (x : Int), (endsL T x l).2 = 0 → (endsL T x l).1.length = l.length
  | [], _, _ => rfl
  | s :: l, x, h => by
    obtain ⟨_, h2, h3⟩ := ends_cons h
    rw [h3, List.length_cons, ends_len l _ h2, List.length_cons]
/-- The next step of an expansion. -/
structure ExpI (T : Topo) (D : List Bool) (l : List Seg) (n : Int) (k : Nat) (x : Int) (out : List Int) : Prop where
  ends : (endsL T x (l.drop k)).2 = 0
  row : (endsL T n l).1.drop k = (endsL T x (l.drop k)).1
  err : (expL T D n l).1 = (expL T D x (l.drop k)).1
  val : (expL T D n l).1 = 0 → (expL T D n l).2 = out ++ (expL T D x (l.drop k)).2
  len : out.length ≤ 12 * k
theorem ExpI.start {l : List Seg} {n : Int} (h : (endsL T n l).2 = 0) : ExpI T D l n 0 n [] := ⟨h, rfl, rfl, fun _ => rfl, by simp⟩
theorem ExpI.get {l : List Seg} {n : Int} {k : Nat} {x : Int} {out : List Int} (h : ExpI T D l n k x out) {s : Seg} (hd : l.drop k = s :: l.drop (k + 1)) (hk : k < (endsL T n l).1.length) : (endS T s x).2 = 0 ∧ (endsL T n l).1.getD k 0 = (endS T s x).1 ∧ (endsL T n l).1.drop (k + 1) = (endsL T (endS T s x).1 (l.drop (k + 1))).1 ∧ (endsL T (endS T s x).1 (l.drop (k + 1))).2 = 0 := by
  have h1 := h.ends
  have h2 := h.row
  rw [hd] at h1 h2
  obtain ⟨e1, e2, e3⟩ := ends_cons h1
  rw [e3, drop_cons _ _ hk] at h2
  exact ⟨e1, (List.cons.inj h2).1, (List.cons.inj h2).2, e2⟩
end
theorem segs_k (l : List Seg) (k : Nat) (s : Seg) (h : l[k]? = some s) : (segsP l)[k * 2 + 0]? = some (num s.kind) := segs_get l k 0 s h (by omega)
theorem segs_n (l : List Seg) (k : Nat) (s : Seg) (h : l[k]? = some s) : (segsP l)[k * 2 + 1]? = some (num s.num) := segs_get l k 1 s h (by omega)
instance (T : Topo) (n : Int) (l : List Int) : IsFlat (pathV T n l) := by unfold pathV; infer_instance
end PW
end Go.Proofs.Ytbpgndbjbaoolaa

/- Stable segments: Segment of both, the reference's stands, List, Least. -/
namespace Go.Proofs.Ytbpgndbjbaoolaa
set_option linter.unusedVariables false
set_option linter.unusedSimpArgs false
namespace PW
open Go.RowKit Reg Mem Net

noncomputable def sgB (T : Topo) (D : List Bool) (x y : Int) : Bool := (((validB T && fitsB T D) && !decide (x = y)) && uniqB T [] x y) && clearB D (spathL T [] x.toNat y.toNat)
theorem uniq_sp {T : Topo} {D : List Bool} {x y : Int} (h : uniqB T D x y = true) : spE T D x y = 0 := by
  unfold uniqB at h
  rw [Bool.and_eq_true, decide_eq_true_eq, decide_eq_true_eq] at h
  obtain ⟨h1, h2⟩ := h
  obtain ⟨hv, hf, hn, hd⟩ := nodeE_zero h1
  rw [nodeB_iff] at hn hd
  obtain ⟨a, rfl⟩ := Int.eq_ofNat_of_zero_le hn.1
  obtain ⟨b, rfl⟩ := Int.eq_ofNat_of_zero_le hd.1
  simp only [Int.toNat_natCast] at h2
  unfold spE
  rw [if_pos h1, if_neg]
  simp only [Int.toNat_natCast]
  intro h0
  rw [cnt_unr hv hd.2 hn.2 h0] at h2
  omega
section
variable {T : Topo} {D : List Bool} {n : Int} {p : List Int}
theorem stands_cov (h : Fol T D n p) {i k x y : Nat} (hik : i < k) (hk : k ≤ p.length) (hx : endL T n (p.take i) = (x : Int)) (hy : endL T n (p.take k) = (y : Int)) : (sgB T D x y && sameB (spathL T [] x y) (partL p i k)) = covB T [] n p i k := by
  have hb := h.bare
  have ha := h.arcs
  have hv := h.valid
  obtain ⟨x', hx', hxN⟩ := end_node hv h.node ha i (by omega)
  obtain ⟨y', hy', hyN⟩ := end_node hv h.node ha k hk
  have e1 : x' = x := by omega
  have e2 : y' = y := by omega
  subst e1
  subst e2
  rw [Bool.eq_iff_iff, cov_sp hb (by omega) hk hx hy]
  unfold sgB sameB
  simp only [Int.toNat_natCast, Bool.and_eq_true, Bool.not_eq_true', decide_eq_true_eq, decide_eq_false_iff_not]
  constructor
  · rintro ⟨⟨⟨_, h3⟩, h4⟩, h5⟩
    exact ⟨uniq_sp h3, h3, h5⟩
  · rintro ⟨h1, h2, h3⟩
    refine ⟨⟨⟨⟨⟨hv, h.fits⟩, fun e => ?_⟩, h2⟩, ?_⟩, h3⟩
    · have e2 : x' = y' := by omega
      subst e2
      rw [spE_zero hv (fits_nil T) hxN hxN] at h1
      have hsp := spath_sp (D := []) hv hxN hxN (by split at h1 <;> omega)
      have h6 := hsp.self
      rw [h6] at h3
      have := part_len p (show i ≤ k by omega) hk
      rw [← h3] at this
      simp at this
      omega
    · rw [h3, clear_iff]
      exact fun a ha => h.up a (part_mem ha)
end
section
variable {P : Program} {σ : Sto} {t : Tms} {o : Oper}
theorem y_pHi {ty e i j : Nat} {z : Int} {x hi' : Operand} {L : List Int} (ho : o.op = .slice ty x none (some hi') none) (he : elK P ty = some (e, 1)) (hx : evalO t x = some (intsV (L.drop i))) (hhi : evalO t hi' = some (num z)) (hz : z = (j : Int) - i) (hij : i ≤ j) (hj : j ≤ L.length) : Yield P σ t o (intsV (partL L i j)) := by
  have hl : (L.drop i).length = L.length - i := by simp
  have := y_sliceHi (σ := σ) (h := j - i) ho he hx hhi (by rw [intsP_len]; omega) (by omega) (by omega)
  have e1 : intsV (partL L i j) = .slice (j - i) ((intsP (L.drop i)).take ((j - i) * 1)) := by
    unfold intsV
    rw [part_len L hij hj, Nat.mul_one]
    unfold intsP partL
    rw [List.map_take]
  rw [e1]
  exact this
theorem y_pLo {ty e i j : Nat} {z : Int} {x lo : Operand} {L : List Int} (ho : o.op = .slice ty x (some lo) none none) (he : elK P ty = some (e, 1)) (hx : evalO t x = some (intsV (L.drop i))) (hlo : evalO t lo = some (num z)) (hz : z = (j : Int) - i) (hij : i ≤ j) (hj : j ≤ L.length) : Yield P σ t o (intsV (L.drop j)) := by
  have hl : (L.drop i).length = L.length - i := by simp
  have := y_sliceLo (σ := σ) (l := j - i) ho he hx hlo (by rw [intsP_len]; omega) (by omega) (by omega)
  have e1 : intsV (L.drop j) = .slice ((L.drop i).length - (j - i)) (((intsP (L.drop i)).drop ((j - i) * 1)).take (((L.drop i).length - (j - i)) * 1)) := by
    have h2 : L.drop j = (L.drop i).drop (j - i) := by rw [List.drop_drop]; congr 1; omega
    rw [h2]
    unfold intsV
    rw [List.length_drop, Nat.mul_one, Nat.mul_one]
    unfold intsP
    rw [← List.map_drop, List.take_of_length_le (by simp; omega)]
  rw [e1]
  exact this
end
theorem drop_get (p : List Int) (i k : Nat) : (p.drop i).getD k 0 = p.getD (i + k) 0 := by rw [List.getD_eq_getElem?_getD, List.getElem?_drop, List.getD_eq_getElem?_getD]
end PW
end Go.Proofs.Ytbpgndbjbaoolaa

/- Stable lists: the reference's part and Check, package stable's Check. -/
namespace Go.Proofs.Ytbpgndbjbaoolaa
set_option linter.unusedVariables false
set_option linter.unusedSimpArgs false
namespace PW
open Go.RowKit Reg Mem Net

/-- The first index from j on whose node is x and up to which the path from i is covered. -/
noncomputable def fstP (T : Topo) (n : Int) (p : List Int) (x : Int) (i : Nat) : Nat → Nat → Option Nat
  | 0, _ => none
  | f + 1, j => if endL T n (p.take j) = x ∧ covB T [] n p i j = true then some j else fstP T n p x i f (j + 1)
/-- Where a stable segment leads from i. -/
noncomputable def stepP (T : Topo) (n : Int) (p : List Int) (i : Nat) (s : Seg) : Option Nat :=
  if s.kind = 2 ∧ i < p.length ∧ p.getD i 0 = s.num then some (i + 1)
  else if s.kind = 1 then fstP T n p s.num i (p.length - i) (i + 1)
  else none
noncomputable def ckB (T : Topo) (n : Int) (p : List Int) : Nat → List Seg → Bool
  | i, [] => decide (i = p.length)
  | i, s :: l => match stepP T n p i s with
    | some j => ckB T n p j l
    | none => false
def lenP (o : Option Nat) (i : Nat) : Int := match o with
  | some j => (j : Int) - i
  | none => 0
/-- No node segment leads from a node to itself. -/
def noDeg (T : Topo) : Int → List Seg → Bool
  | _, [] => true
  | x, s :: l => if s.kind = 1 ∧ s.num = x then false else noDeg T (endS T s x).1 l
section
variable {T : Topo} {n : Int} {p : List Int}
theorem fstP_some {x : Int} {i : Nat} : ∀ (f j k : Nat), fstP T n p x i f j = some k → j ≤ k ∧ k < j + f ∧ endL T n (p.take k) = x ∧ covB T [] n p i k = true ∧ ∀ m, j ≤ m → m < k → ¬ (endL T n (p.take m) = x ∧ covB T [] n p i m = true)
  | 0, j, k, h => by simp [fstP] at h
  | f + 1, j, k, h => by
    simp only [fstP] at h
    split at h
    · rename_i h1; cases h; exact ⟨Nat.le_refl _, by omega, h1.1, h1.2, fun m h2 h3 => by omega⟩
    · rename_i h1
      obtain ⟨a, b, c, d, e⟩ := fstP_some f (j + 1) k h
      refine ⟨by omega, by omega, c, d, fun m h2 h3 => ?_⟩
      by_cases hm : m = j
      · subst hm; exact h1
      · exact e m (by omega) h3
theorem fstP_is {x : Int} {i : Nat} : ∀ (f j k : Nat), j ≤ k → k < j + f → endL T n (p.take k) = x → covB T [] n p i k = true → (∀ m, j ≤ m → m < k → ¬ (endL T n (p.take m) = x ∧ covB T [] n p i m = true)) → fstP T n p x i f j = some k
  | 0, j, k, h1, h2, _, _, _ => by omega
  | f + 1, j, k, h1, h2, h3, h4, h5 => by
    simp only [fstP]
    by_cases e : j = k
    · subst e; rw [if_pos ⟨h3, h4⟩]
    · rw [if_neg (h5 j (Nat.le_refl _) (by omega))]
      exact fstP_is f (j + 1) k (by omega) (by omega) h3 h4 (fun m h6 h7 => h5 m (by omega) h7)
theorem fstP_none {x : Int} {i : Nat} : ∀ (f j : Nat), (∀ m, j ≤ m → m < j + f → ¬ (endL T n (p.take m) = x ∧ covB T [] n p i m = true)) → fstP T n p x i f j = none
  | 0, j, _ => rfl
  | f + 1, j, h => by
    simp only [fstP]
    rw [if_neg (h j (Nat.le_refl _) (by omega))]
    exact fstP_none f (j + 1) (fun m h1 h2 => h m (by omega) (by omega))
/-- A stable step is a step that moves. -/
theorem step_iff (h : Fol T [] n p) {i : Nat} (hi : i ≤ p.length) (s : Seg) (j : Nat) : stepP T n p i s = some j ↔ stepX T [] n p i s = some j ∧ ¬ (s.kind = 1 ∧ s.num = endL T n (p.take i)) := by
  unfold stepP stepX
  by_cases h1 : s.kind = 2 ∧ i < p.length ∧ p.getD i 0 = s.num
  · rw [if_pos h1, if_pos h1]
    constructor
    · intro e; exact ⟨e, fun e2 => by omega⟩
    · intro e; exact e.1
  · rw [if_neg h1, if_neg h1]
    by_cases h2 : s.kind = 1
    · rw [if_pos h2, if_pos h2]
      constructor
      · intro e
        obtain ⟨a, b, c, d, _⟩ := fstP_some _ _ _ e
        have hf := cov_first h (show i ≤ j by omega) (by omega) d
        rw [c] at hf
        rw [hf, if_pos ⟨c, d⟩]
        refine ⟨rfl, fun e2 => ?_⟩
        have := fst_is (T := T) (n := n) (p := p) s.num (p.length - i) i i (Nat.le_refl _) (by omega) e2.2.symm (fun k h3 h4 => by omega)
        omega
      · rintro ⟨e1, e2⟩
        split at e1
        · rename_i h3
          simp only [Option.some.injEq] at e1
          have hge := fst_ge (T := T) (n := n) (p := p) s.num (p.length - i) i
          have hno := fst_no (T := T) (n := n) (p := p) s.num (p.length - i) i
          rw [e1] at h3 hge hno
          have hne : i ≠ j := fun e => e2 ⟨h2, by rw [e]; exact h3.1.symm⟩
          exact fstP_is _ _ _ (by omega) (by omega) h3.1 h3.2 (fun m h4 h5 h6 => hno m (by omega) h5 h6.1)
        · cases e1
    · rw [if_neg h2, if_neg h2]
      simp
theorem step_end (h : Fol T [] n p) {i j : Nat} (hi : i ≤ p.length) {s : Seg} (hst : stepX T [] n p i s = some j) : (endS T s (endL T n (p.take i))).1 = endL T n (p.take j) ∧ (endS T s (endL T n (p.take i))).2 = 0 ∧ j ≤ p.length := by
  have ha := h.arcs
  have hv := h.valid
  obtain ⟨x, hx, hxN⟩ := end_node hv h.node ha i hi
  have hnb : nodeB T (x : Int) = true := nodeB_iff.2 ⟨by omega, hxN⟩
  rw [hx]
  have hss := hst
  unfold stepX at hst
  split at hst
  · rename_i h1
    cases hst
    have hab := ha _ (getD_mem (d := 0) h1.2.1)
    have htl := part_tail h h1.2.1 hx
    have hed := endL_step T n p i h1.2.1
    rw [h1.2.2] at hab htl hed
    have hsg : segB T s = true := by unfold segB; rw [if_neg (by omega), if_pos h1.1]; exact hab
    have hes : endS T s x = (endL T n (p.take (i + 1)), 0) := by
      unfold endS
      rw [if_neg (by rw [hsg]; simp), if_neg (by rw [hnb]; simp), if_neg (by omega), if_pos h1.1, if_neg (by rw [htl]; simp), hed]
    rw [hes]
    exact ⟨rfl, rfl, h1.2.1⟩
  · split at hst
    · rename_i h2
      split at hst
      · rename_i h3
        simp only [Option.some.injEq] at hst
        have hge := fst_ge (T := T) (n := n) (p := p) s.num (p.length - i) i
        rw [hst] at h3 hge
        obtain ⟨y, hy, hyN⟩ := end_node hv h.node ha j (by omega)
        have hsy : s.num = (y : Int) := by rw [← h3.1]; exact hy
        have hsg : segB T s = true := by unfold segB; rw [if_pos h2, hsy]; exact nodeB_iff.2 ⟨by omega, hyN⟩
        have hes : endS T s x = (s.num, 0) := by
          unfold endS
          rw [if_neg (by rw [hsg]; simp), if_neg (by rw [hnb]; simp), if_pos h2]
        rw [hes]
        exact ⟨h3.1.symm, rfl, by omega⟩
      · cases hst
    · cases hst
/-- A list is stable if and only if it is exact without the mask, and moves. -/
theorem ck_iff (h : Fol T [] n p) : ∀ (l : List Seg) (i : Nat), i ≤ p.length → ckB T n p i l = (exB T [] n p i l && noDeg T (endL T n (p.take i)) l)
  | [], i, hi => by simp [ckB, exB, noDeg]
  | s :: l, i, hi => by
    simp only [ckB, exB, noDeg]
    cases hX : stepX T [] n p i s with
    | none =>
      have hP : stepP T n p i s = none := by
        cases hP : stepP T n p i s with
        | none => rfl
        | some j => have := ((step_iff h hi s j).1 hP).1; rw [hX] at this; cases this
      rw [hP]
      rfl
    | some j =>
      obtain ⟨e1, e2, e3⟩ := step_end h hi hX
      by_cases hd : s.kind = 1 ∧ s.num = endL T n (p.take i)
      · have hP : stepP T n p i s = none := by
          cases hP : stepP T n p i s with
          | none => rfl
          | some j => exact absurd hd ((step_iff h hi s j).1 hP).2
        rw [hP, if_pos hd]
        simp
      · rw [(step_iff h hi s j).2 ⟨hX, hd⟩, if_neg hd, e1]
        simp only
        exact ck_iff h l j e3
theorem deg_lst (h : Fol T [] n p) : ∀ (f i : Nat), i ≤ p.length → noDeg T (endL T n (p.take i)) (lstF T [] n p f i) = true
  | f, i, hi => by
    by_cases hlt : i < p.length
    · cases f with
      | zero => rfl
      | succ f =>
        cases ht : topD (covB T [] n p i) i p.length with
        | none =>
          rw [lst_none hlt (fun k h1 h2 => topD_isNone _ ht k h1 h2)]
          have hst : stepX T [] n p i ⟨2, p.getD i 0⟩ = some (i + 1) := by unfold stepX; rw [if_pos ⟨rfl, hlt, rfl⟩]
          simp only [noDeg]
          rw [if_neg (by rintro ⟨h1, _⟩; omega), (step_end h hi hst).1]
          exact deg_lst h f (i + 1) (by omega)
        | some j =>
          obtain ⟨t1, t2, t3, t4⟩ := topD_is _ _ ht
          rw [lst_some hlt t1 t2 t3 t4]
          have hf := cov_first h (show i ≤ j by omega) t2 t3
          have hst : stepX T [] n p i ⟨1, endL T n (p.take j)⟩ = some j := by
            unfold stepX
            simp only
            rw [if_neg (by omega), if_pos trivial, hf, if_pos ⟨rfl, t3⟩]
          simp only [noDeg]
          rw [if_neg, (step_end h hi hst).1]
          · exact deg_lst h f j t2
          · rintro ⟨_, h2⟩
            have := fst_is (T := T) (n := n) (p := p) (endL T n (p.take j)) (p.length - i) i i (Nat.le_refl _) (by omega) h2.symm (fun k h3 h4 => by omega)
            omega
    · rw [lst_end f i (by omega)]
      rfl
end
noncomputable def ckE (T : Topo) (D : List Bool) (l : List Seg) (n : Int) (p : List Int) : Bool := if folE T D n p = 0 then ckB T n p 0 l else false
end PW
end Go.Proofs.Ytbpgndbjbaoolaa

/- Package postconv: Path. -/
namespace Go.Proofs.Ytbpgndbjbaoolaa
set_option linter.unusedVariables false
set_option linter.unusedSimpArgs false
namespace PW
open Go.RowKit Reg Mem Net Rng

set_option maxRecDepth 10000 in
set_option maxHeartbeats 1000000 in
theorem pcfound_can (p : List Int) (u : PV) : CanS Try.prog 41 [intsV p, .ptr 0 0] [some (.cells 37 [u])] (fun r σ' => r = .tuple [] ∧ σ' = [some (.cells 37 [intsV p])]) := by
  refine canS_of Try.func41 rfl Try.ntmps41 rfl ?_
  refine W_region ?_
  refine WR_a 2 rfl <| WR_k [] rfl ?_
  exact ⟨_, ResL.of rfl, rfl, rfl⟩
set_option maxRecDepth 10000 in
set_option maxHeartbeats 1000000 in
theorem pcfind_can (T : Topo) (D : List Bool) (n d : Int) : CanS Try.prog 40 [topoV T, boolsV D, num n, num d, .func 41 [.ptr 0 0]] [some (.cells 37 [.raw (.slice none 0 0)])] (fun r σ' => r = num (spE T D n d) ∧ σ' = [some (.cells 37 [if spE T D n d = 0 then intsV (spathL T D n.toNat d.toNat) else .raw (.slice none 0 0)])]) := by
  refine canS_of Try.func40 rfl Try.ntmps40 rfl ?_
  refine W_cs (.a 2 rfl <| .k [1, 2, 3, 4, 5] rfl) ?_
  refine W_cs (.a 4 rfl <| .c rfl (spath_can T D n d) rfl <| .a 5 rfl <| .k [4, 11, 12] rfl) ?_
  refine W_seq ?_
  refine W_cs (.a 2 rfl <| .k [4, 11, 12, 22] rfl) ?_
  refine W_cond rfl (fun h1 => ?_) (fun h1 => ?_)
  · have he : spE T D n d = 0 := tt h1
    refine W_region ?_
    refine WR_a 2 rfl <| WR_cS rfl rfl (CanS.mono (pcfound_can _ _) (fun r σ' h => ?_))
    obtain ⟨rfl, rfl⟩ := h
    refine WR_k [12] rfl ?_
    refine W_cs (.a 2 rfl <| .k [10] rfl) ?_
    refine W_ret ?_
    first
      | exact ⟨_, ResL.of rfl, rfl, by rw [if_neg he]⟩
      | exact ⟨_, ResL.of rfl, rfl, by simp only [if_pos he]⟩
  · have he : ¬ spE T D n d = 0 := ff h1
    refine W_skip ?_
    refine W_cs (.a 2 rfl <| .k [10] rfl) ?_
    refine W_ret ?_
    first
      | exact ⟨_, ResL.of rfl, rfl, by rw [if_neg he]⟩
      | exact ⟨_, ResL.of rfl, rfl, by simp only [if_pos he]⟩
set_option maxRecDepth 10000 in
set_option maxHeartbeats 1000000 in
theorem pcpath_can (T : Topo) (D : List Bool) (n d : Int) : Can Try.prog 30 [topoV T, boolsV D, num n, num d] (· = intsE (spE T D n d) (spathL T D n.toNat d.toNat)) := by
  obtain ⟨u, hu⟩ : ∃ u : PV, (if spE T D n d = 0 then intsV (spathL T D n.toNat d.toNat) else .raw (.slice none 0 0)) = u := ⟨_, rfl⟩
  have hf := pcfind_can T D n d
  rw [hu] at hf
  refine can_of Try.func30 rfl Try.ntmps30 rfl ?_
  refine W_cs (.a 3 rfl <| .k [1, 2, 3, 4] rfl) ?_
  refine W_rs ?_
  refine WR_a 1 rfl <| WR_k [1, 2, 3, 4, 10] rfl ?_
  refine W_rs ?_
  refine WR_a 5 rfl <| WR_cS rfl rfl (CanS.mono hf (fun r σ' h => ?_))
  obtain ⟨rfl, rfl⟩ := h
  refine WR_a 1 rfl <| WR_k [10, 11] rfl ?_
  refine W_cs (.v (y_ld rfl ((show some u = some u from rfl))) rfl <| .a 3 rfl <| .k [8, 9] rfl) ?_
  refine W_ret ?_
  refine ⟨_, _, ResL.of rfl, Pur.tupleL (PurL.cons (y := intsV (if spE T D n d = 0 then spathL T D n.toNat d.toNat else [])) ?_ (PurL.cons Pur.pure PurL.nil)), rfl⟩
  rw [← hu]
  by_cases he : spE T D n d = 0
  · rw [if_pos he, if_pos he]; exact Pur.pure
  · rw [if_neg he, if_neg he]; exact Pur.nils
end PW
end Go.Proofs.Ytbpgndbjbaoolaa

/- Stable node segments: parts, fewer failures, next arcs. Plain mathematics. -/
namespace Go.Proofs.Ytbpgndbjbaoolaa
set_option linter.unusedVariables false
set_option linter.unusedSimpArgs false
namespace PW
open Go.RowKit Reg Mem Net

section
variable {T : Topo} {D : List Bool}
theorem ch_walkF {d : Nat} : ∀ {m : Nat} {q : List Int}, Ch T D d m q → (q = [] ∨ overN T m = false) → walkE T false m q = 0
  | m, [], _, _ => rfl
  | m, a :: q, h, ho => by
    cases h with
    | @cons _ b k _ ha ht hu hm hov hp =>
      rw [walk_step (arcB_iff.2 ⟨by omega, by omega⟩) (by rw [Int.toNat_natCast]; exact ht) (.inr (by rcases ho with h | h; cases h; rw [Int.toNat_natCast]; exact h)), Int.toNat_natCast, hm]
      exact ch_walkF hp hov
theorem ch_walk {d m : Nat} {q : List Int} (h : Ch T D d m q) : walkE T true m q = 0 := by
  cases h with
  | nil => rfl
  | @cons _ b k q ha ht hu hm hov hp =>
    rw [walk_step (arcB_iff.2 ⟨by omega, by omega⟩) (by rw [Int.toNat_natCast]; exact ht) (.inl rfl), Int.toNat_natCast, hm]
    exact ch_walkF hp hov
theorem Ch.bare {d m : Nat} {q : List Int} (h : Ch T D d m q) : Ch T [] d m q := by
  induction h with
  | nil => exact .nil
  | cons ha ht hu hm ho hp ih => exact .cons ha ht (by simp [downN]) hm ho ih
theorem Ch.mask {d m : Nat} {q : List Int} (h : Ch T [] d m q) (hc : ∀ a ∈ q, downN D a.toNat = false) : Ch T D d m q := by
  induction h with
  | nil => exact .nil
  | @cons n a m p ha ht hu hm ho hp ih => exact .cons ha ht (by have := hc a (by simp); rw [Int.toNat_natCast] at this; exact this) hm ho (ih fun b hb => hc b (by simp [hb]))
/-- What a stable node segment is. -/
structure Stab (T : Topo) (D : List Bool) (x y : Nat) (p : List Int) : Prop where
  valid : validB T = true
  fits : fitsB T D = true
  ne : x ≠ y
  hx : (x : Int) < T.nodes
  hy : (y : Int) < T.nodes
  uniq : uniqB T [] x y = true
  sp : SP T [] y x p
  up : ∀ a ∈ p, downN D a.toNat = false
theorem stab_of {x y : Int} (h : sgB T D x y = true) : ∃ a b : Nat, x = (a : Int) ∧ y = (b : Int) ∧ Stab T D a b (spathL T [] a b) ∧ spE T [] x y = 0 := by
  unfold sgB at h
  simp only [Bool.and_eq_true, Bool.not_eq_true', decide_eq_false_iff_not] at h
  obtain ⟨⟨⟨⟨hv, hf⟩, hne⟩, hu⟩, hc⟩ := h
  obtain ⟨a, b, rfl, rfl, ha, hb, _, hsp⟩ := spE_facts (uniq_sp hu)
  simp only [Int.toNat_natCast] at hsp hc
  exact ⟨a, b, rfl, rfl, ⟨hv, hf, fun e => hne (by rw [e]), ha, hb, hu, hsp, clear_iff.1 hc⟩, uniq_sp hu⟩
variable {x y : Nat} {p : List Int}
theorem Stab.pos (h : Stab T D x y p) : 0 < p.length := by
  have hsp := h.sp
  cases hsp with
  | nil => exact absurd rfl h.ne
  | cons _ _ _ => simp
theorem Stab.fol (h : Stab T D x y p) : Fol T D x p := ⟨h.valid, h.fits, nodeB_iff.2 ⟨by omega, h.hx⟩, ch_walk h.sp.ch, h.up⟩
theorem Stab.cnt (h : Stab T D x y p) : cntS T [] y x = 1 := (uniq_iff h.valid (fits_nil T) h.hx h.hy).1 h.uniq
theorem Stab.cov (h : Stab T D x y p) : covB T [] x p 0 p.length = true := by
  have he : endL T (x : Int) (p.take p.length) = (y : Int) := by rw [List.take_length]; exact h.sp.ch.fin
  rw [cov_iff h.fol.bare (Nat.zero_le _) (Nat.le_refl _) (u := x) rfl he]
  have : partL p 0 p.length = p := by unfold partL; simp
  rw [this]
  exact ⟨h.sp, h.cnt⟩
/-- The node segment between two nodes of the path. -/
theorem Stab.part (h : Stab T D x y p) {i k : Nat} (hik : i ≤ k) (hk : k < p.length) : sgB T D (tailN T (p.getD i 0).toNat) (headN T (p.getD k 0).toNat) = true := by
  have hF := h.fol
  have ha := hF.arcs
  have hc := cov_sub hF.bare (i := 0) (j := p.length) (i' := i) (j' := k + 1) (Nat.zero_le _) (by omega) (by omega) (Nat.le_refl _) h.cov
  obtain ⟨u, hu, huN⟩ := end_node h.valid hF.node ha i (by omega)
  obtain ⟨v, hv, hvN⟩ := end_node h.valid hF.node ha (k + 1) (by omega)
  rw [part_tail hF (by omega) hu, ← endL_step T x p k hk, hv]
  rw [← stands_cov hF (by omega) (by omega) hu hv, Bool.and_eq_true] at hc
  exact hc.1
theorem down_set (D : List Bool) (k a : Nat) (h : downN D a = false) : downN (D.set k false) a = false := by
  unfold downN at *
  rw [List.getD_eq_getElem?_getD, List.getElem?_set] at *
  split
  · split <;> rfl
  · exact h
theorem sg_fewer {x y : Int} (h : sgB T D x y = true) (k : Nat) : sgB T (D.set k false) x y = true := by
  unfold sgB at *
  simp only [Bool.and_eq_true] at *
  obtain ⟨⟨⟨⟨hv, hf⟩, hne⟩, hu⟩, hc⟩ := h
  refine ⟨⟨⟨⟨hv, ?_⟩, hne⟩, hu⟩, ?_⟩
  · unfold fitsB at *
    simpa using hf
  · rw [clear_iff] at *
    exact fun a ha => down_set D k _ (hc a ha)
/-- The only next arc, with and without the mask. -/
theorem Stab.next (h : Stab T D x y p) {i u : Nat} (hi : i < p.length) (hu : endL T x (p.take i) = (u : Int)) : nextL T [] u y = [p.getD i 0] ∧ nextL T D u y = [p.getD i 0] ∧ (u : Int) < T.nodes := by
  have hF := h.fol
  have hv := h.valid
  have ha := hF.arcs
  obtain ⟨u', hu', huN⟩ := end_node hv hF.node ha i (by omega)
  have : u' = u := by omega
  subst this
  have hfin : endL T (x : Int) (p.take p.length) = (y : Int) := by rw [List.take_length]; exact h.sp.ch.fin
  have hch := hF.bare.ch (i := 0) (j := i) (Nat.zero_le _) (by omega) (u := x) rfl hu
  have hpp : partL p 0 i ++ partL p i p.length = p := by rw [← part_split p (Nat.zero_le _) (by omega)]; unfold partL; simp
  have hsp := h.sp
  rw [← hpp] at hsp
  obtain ⟨s1, s2⟩ := hsp.suffix hv h.hy h.cnt hch
  have hdr : partL p i p.length = p.getD i 0 :: p.drop (i + 1) := by
    unfold partL
    rw [List.take_of_length_le (by simp), drop_cons p i hi]
  rw [hdr] at s1
  have hup : ∀ c ∈ p.getD i 0 :: p.drop (i + 1), downN D c.toNat = false := fun c hc => by
    rw [← drop_cons p i hi] at hc
    exact h.up c (List.mem_of_mem_drop hc)
  have hchD := s1.ch.mask hup
  have hd0 := s1.cost hv h.hy
  generalize p.getD i 0 = a0 at *
  generalize p.drop (i + 1) = q at *
  cases s1 with
  | @cons _ a m _ hn hm hq =>
    obtain ⟨b, hb, _, _⟩ := cnt_one hv h.hy huN hn.ne s2
    have hab := next_of hn ((sound_of hv).cost a hn.arc).1
    rw [hb] at hab
    simp only [List.mem_singleton] at hab
    rw [← hab] at hb
    refine ⟨hb, ?_, huN⟩
    have hDle := hchD.le hv h.hy
    have mono : ∀ k : Nat, (k : Int) < T.nodes → 0 ≤ dN T D y k → 0 ≤ dN T [] y k ∧ dN T [] y k ≤ dN T D y k := fun k hk h0 => by
      have hs := spath_sp hv h.hy hk h0
      have := hs.ch.bare.le hv h.hy
      rw [← (hs.cost hv h.hy).1] at this
      exact this
    have hmu := mono u' huN hDle.1
    have heq : dN T D y u' = dN T [] y u' := by omega
    have hall : ∀ c ∈ nextL T D u' y, c = (a : Int) := fun c hc => by
      obtain ⟨k, rfl, hk⟩ := next_mem hc
      obtain ⟨z, hz, hzN⟩ := head_nat hv hk.arc
      have g := hk.dN hz
      have g2 := mono z hzN g.1
      have hs := spath_sp (D := []) hv h.hy hzN g2.1
      have hch2 : Ch T [] y u' ((k : Int) :: spathL T [] z y) := .cons hk.arc hk.tail (by simp [downN]) hz (by
        rcases hk.pass with e | e
        · left
          have : z = y := by omega
          subst this
          exact hs.self
        · right
          rw [hz, Int.toNat_natCast] at e
          exact e) hs.ch
      have g3 := hch2.le hv h.hy
      rw [costL_cons, ← (hs.cost hv h.hy).1, Int.toNat_natCast] at g3
      have hnr : Nearer T [] u' y k := ⟨hk.arc, hk.tail, by simp [downN], hk.ne, by rw [hz, Int.toNat_natCast]; exact g2.1, hk.pass, by
        rw [hz, Int.toNat_natCast]
        show dN T [] y u' = dN T [] y z + costN T k
        omega⟩
      have := next_of hnr ((sound_of hv).cost k hk.arc).1
      rw [hb] at this
      simpa using this
    obtain ⟨k, hk⟩ := next_ex (D := D) hv huN h.hy hn.ne hDle.1
    have hmem := next_of hk ((sound_of hv).cost k hk.arc).1
    have hso := next_sorted T D u' y
    cases hx : nextL T D u' y with
    | nil => rw [hx] at hmem; cases hmem
    | cons c l =>
      rw [hx] at hall hso
      have hc := hall c (by simp)
      subst hc
      cases l with
      | nil => rfl
      | cons c2 l =>
        have := hall c2 (by simp)
        have h3 := (List.pairwise_cons.1 hso).1 c2 (by simp)
        omega
end
end PW
end Go.Proofs.Ytbpgndbjbaoolaa

/- The example of the laws: a ring of four nodes, its distances. -/
namespace Go.Proofs.Ytbpgndbjbaoolaa
set_option linter.unusedVariables false
set_option linter.unusedSimpArgs false
namespace PW
open Go.RowKit Reg Mem Net

def ringL (k : Nat) : List Lnk := (List.range k).map fun (i : Nat) => ⟨(i : Int), (((i + 1) % 4 : Nat) : Int), 1, 1, 0, 1, 0⟩
def ringT : Topo := ⟨4, [], ringL 4⟩
def ringD (d : Nat) : List Int := match d with
  | 0 => [0, 1, 2, 1]
  | 1 => [1, 0, 1, 2]
  | 2 => [2, 1, 0, 1]
  | _ => [1, 2, 1, 0]
theorem ring_valid : validB ringT = true := by kernel_rfl
theorem ring_fits : fitsB ringT [] = true := by kernel_rfl
def wayB (T : Topo) (n : Nat) (out : List Int) (a : Nat) : Bool := decide (0 ≤ at' out (arcY T false a)) && (decide (arcY T false a = (n : Int)) || !overN T (arcY T false a).toNat)
def distB (n : Nat) (out : List Int) : Bool :=
  decide (out.length = 4) && decide (at' out (n : Int) = 0) && (List.range 4).all (fun x => decide (0 ≤ at' out (x : Int))) &&
  (List.range 8).all (fun a => !wayB ringT n out a || (decide (0 ≤ at' out (arcX ringT false a)) && decide (at' out (arcX ringT false a) ≤ at' out (arcY ringT false a) + costN ringT a))) &&
  (List.range 4).all (fun x => decide (x = n) || (List.range 8).any fun a => decide (arcX ringT false a = (x : Int)) && wayB ringT n out a && decide (at' out (x : Int) = at' out (arcY ringT false a) + costN ringT a))
theorem way_iff (n : Nat) (out : List Int) (a : Nat) : Net.Way ringT [] n false out a ↔ wayB ringT n out a = true := by
  unfold Net.Way wayB
  have : downN [] a = false := by simp [downN]
  simp [this]
theorem dist_of {n : Nat} {out : List Int} (h : distB n out = true) : IsDist ringT [] n false out := by
  simp only [distB, Bool.and_eq_true, decide_eq_true_eq, List.all_eq_true, List.mem_range, Bool.or_eq_true, Bool.not_eq_true', List.any_eq_true] at h
  obtain ⟨⟨⟨⟨h1, h2⟩, h3⟩, h4⟩, h5⟩ := h
  refine ⟨by rw [h1]; rfl, h2, fun x hx => ?_, fun a ha hw => ?_, fun x hx _ => ?_⟩
  · have := h3 x (by have : ringT.nodes = 4 := rfl; omega); omega
  · rcases h4 a (by have : ringT.links.length = 4 := rfl; omega) with h | h
    · rw [(way_iff n out a).1 hw] at h; cases h
    · exact h
  · rcases h5 x (by have : ringT.nodes = 4 := rfl; omega) with h | ⟨a, ha, ⟨h6, h7⟩, h8⟩
    · exact .inl h
    · exact .inr ⟨a, by have : ringT.links.length = 4 := rfl; omega, h6, (way_iff n out a).2 h7, h8⟩
theorem ring_dist (d : Nat) (hd : d < 4) : distL ringT [] d false = ringD d := by
  refine distL_eq (sound_of ring_valid) (dist_of ?_)
  match d, hd with
  | 0, _ => exact (show distB 0 (ringD 0) = true by kernel_rfl)
  | 1, _ => exact (show distB 1 (ringD 1) = true by kernel_rfl)
  | 2, _ => exact (show distB 2 (ringD 2) = true by kernel_rfl)
  | 3, _ => exact (show distB 3 (ringD 3) = true by kernel_rfl)
theorem lnksP_snoc (l : List Lnk) (e : Lnk) : lnksP l ++ lnkP e = lnksP (l ++ [e]) := by simp [lnksP]
theorem ringL_step (k : Nat) : ringL (k + 1) = ringL k ++ [⟨(k : Int), (((k + 1) % 4 : Nat) : Int), 1, 1, 0, 1, 0⟩] := by simp [ringL, List.range_succ]
/-- A pair of constants. -/
theorem y_build2 {P : Program} {σ : Sto} {t : Tms} {o : Oper} {ty : TypeId} {v0 v1 c0 c1 : Value} (ho : o.op = .build ty #[(0, .const v0), (1, .const v1)]) (hb : P.built ty [(0, v0), (1, v1)] = some #[c0, c1]) : Yield P σ t o (.agg [.raw c0, .raw c1]) := by
  intro F base E ρ w hρ hS hT
  have hrun := run_build (P := P) w ty #[(0, v0), (1, v1)] #[c0, c1] hb
  have h0 : ρ (.const v0) = v0 := hρ.const v0
  have h1 : ρ (.const v1) = v1 := hρ.const v1
  have hr : (execOp ρ o).run P w = .ok (.value (.agg #[c0, c1])) w := by
    simp only [execOp, ho, Sem.run_bind, List.map_toArray, List.map_cons, List.map_nil, h0, h1, hrun, Result.andThen_ok, Sem.run_pure]
  rw [hr]
  refine upon_val (.agg #[c0, c1] _ rfl (fun i x u k1 k2 => ?_))
  match i, k1, k2 with
  | 0, k1, k2 => simp at k1 k2; subst k1; subst k2; exact .raw _
  | 1, k1, k2 => simp at k1 k2; subst k1; subst k2; exact .raw _
  | _ + 2, k1, k2 => simp at k2
end PW
end Go.Proofs.Ytbpgndbjbaoolaa

/- Texts of segments with small numbers: the reference of layers 9 and 18. -/
namespace Go.Proofs.Ytbpgndbjbaoolaa
set_option linter.unusedVariables false
set_option linter.unusedSimpArgs false
namespace PW
open Go.RowKit Reg Mem Net

abbrev strB (l : List UInt8) : PV := .raw (.string ⟨l.toArray⟩)
theorem bytes_no (a b : UInt8) : ((⟨#[a, b]⟩ : ByteArray).toList == (⟨#[]⟩ : ByteArray).toList) = false := by
  have h : ∀ (ba : ByteArray) i r, ByteArray.toList.loop ba i r = if i < ba.size then ByteArray.toList.loop ba (i + 1) (ba.get! i :: r) else r.reverse := fun ba i r => by rw [ByteArray.toList.loop]
  have h2 : (⟨#[]⟩ : ByteArray).toList = [] := by
    unfold ByteArray.toList
    rw [h, if_neg (by show ¬ 0 < 0; omega)]
    rfl
  have h3 : (⟨#[a, b]⟩ : ByteArray).toList = [a, b] := by
    unfold ByteArray.toList
    rw [h, if_pos (by show 0 < 2; omega), h, if_pos (by show 1 < 2; omega), h, if_neg (by show ¬ 2 < 2; omega)]
    rfl
  rw [h2, h3]
  rfl
theorem cat_bytes (a b : List UInt8) : (⟨a.toArray⟩ : ByteArray) ++ ⟨b.toArray⟩ = ⟨(a ++ b).toArray⟩ := by
  apply ByteArray.ext
  simp
theorem y_catB {P : Program} {σ : Sto} {t : Tms} {o : Oper} {x y : Operand} {ty tz : TypeId} {a b : List UInt8} (ho : o.op = .binOp .add ty x y tz) (hx : evalO t x = some (strB a)) (hy : evalO t y = some (strB b)) (hn : a.length + b.length ≤ 1000000) : Yield P σ t o (strB (a ++ b)) :=
  y_cat ho hx hy (cat_bytes a b) (by show a.toArray.size + b.toArray.size ≤ _; simp; omega)
theorem y_oneByte {P : Program} {σ : Sto} {t : Tms} {o : Oper} {src dst e : TypeId} {x : Operand} {c : UInt8} (ho : o.op = .convert src dst x) (hs : P.underlying src = some (.slice e)) (hd : P.underlying dst = some .string) (he : P.underlying e = some (.int .u8)) (hx : evalO t x = some (.slice 1 [.raw (.int .u8 c.toNat)])) : Yield P σ t o (strB [c]) := by
  intro F base E ρ w hρ _ hT
  have h1 := evalO_rep hρ hT hx
  generalize hz : ρ x = z at h1
  cases h1 with
  | slice b off _ cap cs _ h0 h1 h2 hb hM hc hl hr =>
    match cs, hl, hc, hr with
    | [v], _, hc, hr =>
      have hv := rep_raw (hr 0 v _ rfl rfl)
      subst hv
      have hlc := run_loadCellsFrom (P := P) ⟨b, off, none⟩ rfl [.int .u8 c.toNat] 0 #[] w (fun j x hx => by rw [Nat.zero_add]; exact hc j x hx)
      have hrun : (convert src dst (.slice (some ⟨b, off, none⟩) 1 cap)).run P w = .ok (.string ⟨[c].toArray⟩) w := by
        simp only [convert, Sem.run_bind, run_underlying hs, run_underlying hd, run_underlying he, Result.andThen_ok, Conv.bytesToString, loadCells]
        rw [show (1 : Nat) = [Value.int .u8 c.toNat].length from rfl, hlc]
        simp
        rfl
      simp only [execOp, ho, hz, Sem.run_bind, hrun]
      exact upon_val (.raw _)
theorem y_addU {P : Program} {σ : Sto} {t : Tms} {o : Oper} {x y : Operand} {ty tz : TypeId} {a b c : Int} (ho : o.op = .binOp .add ty x y tz) (hx : evalO t x = some (.raw (.int .u64 a))) (hy : evalO t y = some (.raw (.int .u64 b))) (hc : IntKind.u64.wrap (a + b) = c) : Yield P σ t o (.raw (.int .u64 c)) :=
  y_int ho hx hy fun w => by simp [binOp, Op.intArith, hc]
def dig (n : Nat) : UInt8 := UInt8.ofNat (48 + n)
theorem dig_nat {n : Nat} (h : n < 10) : (dig n).toNat = 48 + n := by unfold dig; rw [UInt8.toNat_ofNat']; omega
set_option maxRecDepth 10000 in
set_option maxHeartbeats 1000000 in
theorem digits_can (n : Nat) (hn : n < 10) : Can Try.prog 44 [.raw (.int .u64 n)] (· = strB [dig n]) := by
  refine can_of Try.func44 rfl Try.ntmps44 rfl ?_
  refine W_cs (.a 1 rfl <| .k [0] rfl) ?_
  refine W_seq ?_
  refine W_cs (.a 1 rfl <| .v (y_lss rfl rfl rfl rfl) rfl <| .k [0, 4] rfl) ?_
  refine W_cond rfl (fun hc => ?_) (fun hc => ?_)
  · refine W_cs (.a 1 rfl <| .v (y_addU (c := ((dig n).toNat : Int)) rfl rfl rfl (by rw [IntKind.wrap_u64, dig_nat hn]; omega)) rfl <| .v (y_conv rfl Try.underlying85 Try.underlying5 rfl (u8_wrap _ (by rw [dig_nat hn]; omega))) rfl <| .a 1 rfl <| .v (y_oneByte rfl Try.underlying102 Try.underlying9 Try.underlying5 rfl) rfl <| .a 1 rfl <| .k [2] rfl) ?_
    refine W_ret ?_
    exact ⟨_, _, ResL.of rfl, Pur.pure, rfl⟩
  · exact absurd (ff hc) (by omega)
set_option maxRecDepth 10000 in
set_option maxHeartbeats 1000000 in
theorem number_can (n : Nat) (hn : n < 10) : Can Try.prog 33 [num n] (· = strB [dig n]) := by
  refine can_of Try.func33 rfl Try.ntmps33 rfl ?_
  refine W_cs (.a 1 rfl <| .k [0] rfl) ?_
  refine W_seq ?_
  refine W_cs (.a 2 rfl <| .k [0, 4] rfl) ?_
  refine W_cond rfl (fun hc => ?_) (fun hc => ?_)
  · exact absurd (tt hc) (by omega)
  · refine W_skip ?_
    refine W_cs (.a 1 rfl <| .v (y_conv (c := (n : Int)) rfl Try.underlying3 Try.underlying85 rfl (by rw [IntKind.wrap_u64]; omega)) rfl <| .c rfl (digits_can n hn) rfl <| .a 1 rfl <| .k [2] rfl) ?_
    refine W_ret ?_
    exact ⟨_, _, ResL.of rfl, Pur.pure, rfl⟩
theorem y_build5 {P : Program} {σ : Sto} {t : Tms} {o : Oper} {ty : TypeId} {v0 v1 v2 v3 v4 : Value} (ho : o.op = .build ty #[(0, .const v0), (1, .const v1), (2, .const v2), (3, .const v3), (4, .const v4)]) (hb : P.built ty [(0, v0), (1, v1), (2, v2), (3, v3), (4, v4)] = some #[v0, v1, v2, v3, v4]) : Yield P σ t o (.agg [.raw v0, .raw v1, .raw v2, .raw v3, .raw v4]) := by
  intro F base E ρ w hρ hS hT
  have hrun := run_build (P := P) w ty #[(0, v0), (1, v1), (2, v2), (3, v3), (4, v4)] #[v0, v1, v2, v3, v4] hb
  have hr : (execOp ρ o).run P w = .ok (.value (.agg #[v0, v1, v2, v3, v4])) w := by
    simp only [execOp, ho, Sem.run_bind, List.map_toArray, List.map_cons, List.map_nil, hρ.const, hrun, Result.andThen_ok, Sem.run_pure]
  rw [hr]
  refine upon_val (.agg #[v0, v1, v2, v3, v4] _ rfl (fun i x u k1 k2 => ?_))
  match i, k1, k2 with
  | 0, k1, k2 => simp at k1 k2; subst k1; subst k2; exact .raw _
  | 1, k1, k2 => simp at k1 k2; subst k1; subst k2; exact .raw _
  | 2, k1, k2 => simp at k1 k2; subst k1; subst k2; exact .raw _
  | 3, k1, k2 => simp at k1 k2; subst k1; subst k2; exact .raw _
  | 4, k1, k2 => simp at k1 k2; subst k1; subst k2; exact .raw _
  | _ + 5, k1, k2 => simp at k2
abbrev kindP : List PV := [strB [], strB [110], strB [97], strB [103], strB [98]]
set_option maxRecDepth 10000 in
set_option maxHeartbeats 1000000 in
theorem stext_can (n : Nat) (hn : n < 10) : Can Try.prog 21 [segV ⟨1, n⟩] (· = strB [110, dig n]) := by
  obtain ⟨q1, hq1⟩ : ∃ q, decide ((n : Int) < 0) = q := ⟨_, rfl⟩
  obtain ⟨q2, hq2⟩ : ∃ q, decide ((999999999 : Int) < (n : Int)) = q := ⟨_, rfl⟩
  refine can_of Try.func21 rfl Try.ntmps21 rfl ?_
  refine W_cs (.a 2 rfl <| .k [1] rfl) ?_
  refine W_seq ?_
  refine W_csK 21 (.raw (.bool (q1 || q2))) [1] rfl ?_ ?_
  · refine .a 11 rfl <| .v (y_q rfl (hq1)) rfl <| .a 2 rfl <| ?_
    cases q1
    · exact .a 2 rfl <| .v (y_q rfl (hq2)) rfl <| .a 1 rfl <| .k [21, 1] rfl
    · exact .a 4 rfl <| .k [21, 1] rfl
  refine W_cond rfl (fun hc => ?_) (fun hc => ?_)
  · have e1 : q1 = false := by rw [← hq1]; exact decide_eq_false (by omega)
    have e2 : q2 = false := by rw [← hq2]; exact decide_eq_false (by omega)
    rw [e1, e2] at hc
    cases hc
  · refine W_skip ?_
    refine W_rs ?_
    refine WR_v (y_build5 rfl (by kernel_rfl)) rfl <| WR_a 2 rfl <| WR_k [1, 3] rfl ?_
    refine W_sto (σ' := [some (.cells 73 kindP)]) rfl ?_
    refine W_sealPtr 3 0 0 rfl rfl ?_
    refine W_ren [] (.cons 1 rfl Ren.pure <| .cons 3 rfl (Ren.pure (p := .pin kindP 0)) .nil) .nil rfl rfl ?_
    refine W_drs mixed (by kernel_rfl) (.a 2 rfl <| .v [3, 24] (y_ix (1) rfl (show (0 : Int) ≤ 1 by decide) (show (1 : Int) < 5 by decide) rfl) rfl rfl <| .v [25] (y_ld rfl ((show kindP[1]? = some (strB [110]) from rfl))) rfl rfl <| .a 2 rfl <| .v [28] (y_c rfl (number_can n hn)) rfl rfl <| .v [26, 29] (y_catB rfl rfl rfl (by simp)) rfl rfl <| .a 1 rfl <| .k [2] rfl) ?_
    refine W_ret ?_
    exact ⟨_, _, ResL.of rfl, Pur.pure, rfl⟩
/-- The text of a list of node segments. -/
def txtL : List Nat → List UInt8
  | [] => []
  | n :: l => [110, dig n] ++ (if l = [] then [] else 32 :: txtL l)
def txtK (l : List Nat) (k : Nat) : List UInt8 := ((List.range k).flatMap fun i => (if 0 < i then [32] else []) ++ [110, dig (l.getD i 0)])
theorem txtK_step (l : List Nat) (k : Nat) : txtK l (k + 1) = txtK l k ++ ((if 0 < k then [32] else []) ++ [110, dig (l.getD k 0)]) := by
  unfold txtK
  rw [List.range_succ, List.flatMap_append]
  simp
theorem txtK_len (l : List Nat) (k : Nat) : (txtK l k).length ≤ 3 * k := by
  induction k with
  | zero => simp [txtK]
  | succ k ih => rw [txtK_step]; simp only [List.length_append]; split <;> simp <;> omega
def nodeS (l : List Nat) : List Seg := l.map fun (n : Nat) => (⟨1, (n : Int)⟩ : Seg)
set_option maxRecDepth 10000 in
set_option maxHeartbeats 1000000 in
theorem tlist_can (l : List Nat) (hl : ∀ n ∈ l, n < 10) (hll : l.length ≤ 1000) : Can Try.prog 12 [segsV (nodeS l)] (· = strB (txtK l l.length)) := by
  have hsl : (nodeS l).length = l.length := by simp [nodeS]
  refine can_of Try.func12 rfl Try.ntmps12 rfl ?_
  refine W_cs (.a 1 rfl <| .k [0] rfl) ?_
  refine W_cs (.a 1 rfl <| .k [0, 3] rfl) ?_
  refine W_seq ?_
  refine W_cs (.a 1 rfl <| .k [0, 3, 4] rfl) ?_
  refine W_block ?_
  refine W_k [0, 3, 4] rfl ?_
  refine W_loop (fun r st => ∃ k : Nat, k ≤ l.length ∧ r = l.length - k ∧ st = ⟨[(0, segsV (nodeS l)), (3, strB (txtK l k)), (4, num k)], []⟩) l.length ⟨0, by omega, by omega, rfl⟩ ?_
  rintro r st ⟨k, hk, rfl, rfl⟩
  have htl := txtK_len l k
  refine W_seq ?_
  refine W_cs (.a 4 rfl <| .k [0, 3, 4, 8] rfl) ?_
  refine W_cond rfl (fun h1 => ?_) (fun h1 => ?_)
  · have hlt : k < l.length := by have := tt h1; omega
    have hg : (nodeS l)[k]? = some ⟨1, ((l.getD k 0 : Nat) : Int)⟩ := by simp [nodeS, hlt]
    have h10 := hl _ (getD_mem (d := 0) hlt)
    have hst := txtK_step l k
    refine W_skip ?_
    refine W_seq ?_
    refine W_block ?_
    refine W_seq ?_
    refine W_cs (.a 2 rfl <| .v (y_ix ((k * 2)) rfl) rfl <| .v (y_la rfl (segs_drop _ k _ hg) rfl) rfl <| .c rfl (stext_can _ h10) rfl <| .v (y_strEql (q := false) rfl rfl rfl (bytes_no _ _)) rfl <| .k [0, 3, 4, 16] rfl) ?_
    refine W_cond rfl (fun hc => ?_) (fun hc => ?_)
    · cases hc
    · refine W_skip ?_
      refine W_seq ?_
      refine W_cs (.a 2 rfl <| .k [0, 3, 4, 18] rfl) ?_
      refine W_cond rfl (fun h2 => ?_) (fun h2 => ?_)
      · have h3 : 0 < k := by have := tt h2; omega
        rw [if_pos h3] at hst
        refine W_chain (.a 1 rfl <| .v (y_catB (b := [32]) rfl rfl rfl (by simp; omega)) rfl <| .a 1 rfl <| .k [0, 3, 4] rfl) ?_
        refine W_chain (.a 3 rfl <| .v (y_ix ((k * 2)) rfl) rfl <| .v (y_la rfl (segs_drop _ k _ hg) rfl) rfl <| .c rfl (stext_can _ h10) rfl <| .v (y_catB rfl rfl rfl (by simp; omega)) rfl <| .a 1 rfl <| .k [0, 3, 4] rfl) ?_
        refine W_chain (.a 1 rfl <| .v (y_ar rfl) rfl <| .a 1 rfl <| .k [0, 3, 4] rfl) ?_
        refine ⟨l.length - (k + 1), by omega, k + 1, by omega, rfl, ?_⟩
        rw [hst]
        first
          | rfl
          | (rw [← List.append_assoc]; rfl)
          | (rw [List.nil_append]; rfl)
      · have h3 : ¬ 0 < k := by have := ff h2; omega
        rw [if_neg h3] at hst
        refine W_skip ?_
        refine W_chain (.a 3 rfl <| .v (y_ix ((k * 2)) rfl) rfl <| .v (y_la rfl (segs_drop _ k _ hg) rfl) rfl <| .c rfl (stext_can _ h10) rfl <| .v (y_catB rfl rfl rfl (by simp; omega)) rfl <| .a 1 rfl <| .k [0, 3, 4] rfl) ?_
        refine W_chain (.a 1 rfl <| .v (y_ar rfl) rfl <| .a 1 rfl <| .k [0, 3, 4] rfl) ?_
        refine ⟨l.length - (k + 1), by omega, k + 1, by omega, rfl, ?_⟩
        rw [hst]
        first
          | rfl
          | (rw [← List.append_assoc]; rfl)
          | (rw [List.nil_append]; rfl)
  · have hke : k = l.length := by have := ff h1; omega
    subst hke
    refine W_exit ?_
    refine W_cs (.a 2 rfl <| .k [2] rfl) ?_
    refine W_ret ?_
    exact ⟨_, _, ResL.of rfl, Pur.pure, rfl⟩
end PW
end Go.Proofs.Ytbpgndbjbaoolaa

/- New results of calls that read rows of their caller's; the examples of layer 28. -/
namespace Go.Proofs.Ytbpgndbjbaoolaa
set_option linter.unusedVariables false
set_option linter.unusedSimpArgs false
namespace PW
open Go.RowKit Reg Mem Net

section
variable {P : Program} {σ : Sto} {t : Tms} {o : Oper}
theorem own_new {base : Nat} {σ1 : Sto} {E1 E : Env} {w : World} (hS : Sat (fun _ => False) base σ1 E1 w) {i e s n : Nat} {xs : List PV} (hi : σ1[i]? = some (some (.row e s n xs))) {v : Value} (hv : Rep E1 w v (.own i)) [hx : IsFlatL xs] (hE : ∀ b, E.M b → b < base) : Rep E w v (.slice n xs) := by
  cases hv with
  | own _ hiL _ h _ =>
    obtain ⟨cs, k1, k2⟩ := hS.blk i _ hi
    rw [h] at k1
    have k3 := k1
    rcases k1.2 with ⟨rfl, h0⟩ | ⟨b, cap, cur, rfl, hb, hg, hn, hc, hs', ht⟩
    · subst h0
      have : xs = [] := by
        have := k3.1; simp at this; subst this
        exact List.eq_nil_of_length_eq_zero k2.1.symm
      subst this
      exact .nils
    · by_cases h0 : n = 0
      · subst h0
        have : xs = [] := by
          have := k3.1; simp at this; subst this
          exact List.eq_nil_of_length_eq_zero k2.1.symm
        subst this
        exact .empty _ _ hc
      · refine .slice b 0 n cap cs xs (by omega) hn hc (Array.getElem?_eq_some_iff.1 hg).1 (fun hM => by have := hE b hM; omega) (fun j x hx => ?_) k2.1 (fun j x u h1 h2 => (hx.out j u h2).out _ _ _ _ _ (k2.2 j x u h1 h2))
        have := k3.cells (g := b) rfl j x hx
        rw [Addr.add_lit] at this
        exact this
/-- A call that only reads local blocks; its result is a row of its own making. -/
theorem y_cF {Φ : Fac} [hP : Has P Φ] {f n : Nat} {ps qs xs : List PV} {z : Value} (h : callK Φ t o.op = some (f, ps)) (hq : PurL σ ps qs) (hc : CanS P f qs [] (fun r σ1 => ∃ i e s, r = .tuple [.own i, .raw z] ∧ σ1[i]? = some (some (.row e s n xs)))) [hx : IsFlatL xs] : Yield P σ t o (.tuple [.slice n xs, .raw z]) := by
  obtain ⟨x, args, ats, cap, ps', ho, hf, hx', ha, rfl⟩ := callK_spec hP.ok h
  intro F base E ρ w hρ hS hT
  have h1 := evalO_rep hρ hT hx'
  have h2 := evalL_rep hρ hT ha
  generalize hz : ρ x = z at h1
  cases h1 with
  | func _ cs _ hl hr =>
    rw [run_callValue hf ho hz w]
    refine ⟨Ext.refl _, ?_⟩
    have h3 : RepL E w (args.map ρ ++ cs).toList (ps' ++ cap) := by
      rw [Array.toList_append, Array.toList_map]
      exact h2.append ⟨by simpa using hl, fun i x u k1 k2 => hr i x u (by simpa using k1) k2⟩
    refine (hc (fun _ => False) w.heap.size (EF fun _ => False) w _ (Sat.start _ w (fun _ h => h.elim) (hS.gl.sub fun _ h => h.elim)) (hq.rep hS (fun _ h => h.elim) (fun _ h => h.elim) h3)).mono ?_
    rintro e w' ⟨v, r, σ1, E1, rfl, ⟨i, e, s, rfl, hi⟩, hS1, _, hb, hv⟩
    refine ⟨_, rfl, hb, ?_⟩
    cases hv with
    | tuple vs _ hl hr =>
      refine .tuple vs _ hl (fun j c u k1 k2 => ?_)
      match j, k2 with
      | 0, k2 =>
        simp at k2
        subst k2
        exact own_new hS1 hi (hr 0 c _ k1 rfl) (fun b hb => hS.lt hb)
      | 1, k2 =>
        simp at k2
        subst k2
        have := hr 1 c _ k1 rfl
        cases this
        exact .raw _
      | _ + 2, k2 => simp at k2
theorem CanS.nils {f : FuncId} {a : PV} {l : List PV} {R : PV → Sto → Prop} (h : CanS P f (a :: boolsV [] :: l) σ R) : CanS P f (a :: .raw (.slice none 0 0) :: l) σ R := fun F base E w vs hS hR => by
  refine h F base E w vs hS ⟨hR.1, fun i c u h1 h2 => ?_⟩
  match i, h2 with
  | 0, h2 => exact hR.2 0 c u h1 h2
  | 1, h2 =>
    simp at h2
    subst h2
    have := hR.2 1 c _ h1 rfl
    cases this
    exact .nils
  | i + 2, h2 => exact hR.2 (i + 2) c u h1 h2
end
set_option maxRecDepth 10000 in
set_option maxHeartbeats 2000000 in
theorem elistS_can (T : Topo) (D : List Bool) (p : List Int) (n : Int) (he : folE T D n p = 0) (hp : p.length ≤ 1000) (hlk : T.links.length ≤ 256) (h12 : T.nodes ≤ 12) : CanS Try.prog 43 [topoV T, boolsV D, intsV p, num n] [] (fun r σ1 => r = .tuple [.own 5, num 0] ∧ σ1[5]? = some (srow (lstL T D n p))) := by
  refine canS_of Try.func43 rfl Try.ntmps43 rfl ?_
  refine W_cs (.a 3 rfl <| .k [1, 2, 3, 4] rfl) ?_
  refine W_scope ?_
  refine W_rs ?_
  refine WR_a 4 rfl <| WR_cS rfl rfl (CanS.mono (follow_one T D p n hp hlk) (fun r σ' h => ?_))
  obtain ⟨x, rfl, hx⟩ := h
  refine WR_a 5 rfl <| WR_k [2, 4, 10, 11] rfl ?_
  refine W_seq ?_
  refine W_cs (.a 2 rfl <| .k [2, 4, 10, 11, 24] rfl) ?_
  refine W_cond rfl (fun hc => ?_) (fun hc => ?_)
  · exact absurd he (tt hc)
  · obtain ⟨rfl, rfl⟩ := hx he
    have hF := fol_of he
    have hv := hF.valid
    have hS := sound_of hv
    have hN := hS.nodes
    have ha := hF.arcs
    obtain ⟨N, hNN⟩ : ∃ N : Nat, T.nodes = (N : Int) := ⟨T.nodes.toNat, by omega⟩
    rw [he]
    clear hc
    refine W_skip ?_
    refine W_cs (.a 1 rfl <| .k [2, 4, 10, 12] rfl) ?_
    refine W_adopt 12 60 2 rfl ?_
    refine W_cs (.a 1 rfl <| .k [2, 4, 10, 12, 13] rfl) ?_
    refine W_seq ?_
    refine W_label ?_
    refine W_seq ?_
    refine W_block ?_
    refine W_k [2, 4, 10, 12, 13] rfl ?_
    refine W_loop (fun r st => ∃ (l : List Seg) (i f : Nat) (dm : List (Int × PV)) (um : List ((Int × Int) × PV)), i ≤ p.length ∧ p.length - i ≤ f ∧ l.length ≤ i ∧ r = p.length - i ∧ lstL T D n p = l ++ lstF T D n p f i ∧ MemD T D dm ∧ MemU T D um ∧ st = ⟨[(2, intsV p), (4, .pin (topoP T) 0), (10, .ptr 4 0), (12, .own 5), (13, num i)], trk T D p (ndL T n p) (csL T p) dm um ++ [srow l]⟩) p.length ⟨[], 0, p.length, [], [], by omega, by omega, by simp, by omega, rfl, (fun _ _ h => by cases h), (fun _ _ h => by cases h), rfl⟩ ?_
    rintro r st ⟨l, i, f, dm, um, hi, hif, hli, rfl, hl, hdm, hum, rfl⟩
    refine W_seq ?_
    refine W_cs (.a 4 rfl <| .k [2, 4, 10, 12, 13, 29] rfl) ?_
    refine W_cond rfl (fun h1 => ?_) (fun h1 => ?_)
    · have hlt : i < p.length := by have := tt h1; omega
      refine W_skip ?_
      refine W_block ?_
      refine W_seq ?_
      obtain ⟨m, hm⟩ : ∃ m : Nat, min (p.length : Int) ((i : Int) + (N : Int) - 1) = (m : Int) := ⟨(min (p.length : Int) ((i : Int) + (N : Int) - 1)).toNat, by omega⟩
      have hfar : ∀ k, m < k → k ≤ p.length → covB T D n p i k = false := fun k h2 h3 => by
        cases hcv : covB T D n p i k with
        | false => rfl
        | true =>
          have := cov_far hF (i := i) (j := k) (by omega) h3 hcv
          omega
      refine W_cs (.a 4 rfl <| .v (y_ld rfl ((show some (num T.nodes) = some (num (N : Int)) by rw [hNN]))) rfl <| .v (y_ar rfl) rfl <| .v (y_ar rfl) rfl <| .v (y_min rfl rfl rfl (hm)) rfl <| .a 1 rfl <| .k [2, 4, 10, 12, 13, 14] rfl) ?_
      refine W_block ?_
      refine W_k [2, 4, 10, 12, 13, 14] rfl ?_
      refine W_loop (fun r st => ∃ (j : Nat) (dm : List (Int × PV)) (um : List ((Int × Int) × PV)), i ≤ j ∧ j ≤ p.length ∧ r = j ∧ (∀ k, j < k → k ≤ p.length → covB T D n p i k = false) ∧ MemD T D dm ∧ MemU T D um ∧ st = ⟨[(2, intsV p), (4, .pin (topoP T) 0), (10, .ptr 4 0), (12, .own 5), (13, num i), (14, num j)], trk T D p (ndL T n p) (csL T p) dm um ++ [srow l]⟩) m ⟨m, dm, um, by omega, by omega, rfl, hfar, hdm, hum, rfl⟩ ?_
      clear hdm hum
      rintro r st ⟨j, dm, um, hij, hj, rfl, hno, hdm, hum, rfl⟩
      refine W_seq ?_
      refine W_cs (.a 3 rfl <| .k [2, 4, 10, 12, 13, 14, 40] rfl) ?_
      refine W_cond rfl (fun h2 => ?_) (fun h2 => ?_)
      · have hlt2 : i < r := by have := tt h2; omega
        refine W_skip ?_
        refine W_seq ?_
        refine W_block ?_
        refine W_rs ?_
        refine WR_a 3 rfl <| WR_cS rfl rfl (CanS.mono (covered_can T D p n dm um (srow l) (srow_pure l) hv hF.fits h12 hF.node ha hp i r (by omega) hj hdm hum) (fun _ σ' h => ?_))
        obtain ⟨rfl, dm1, um1, hdm1, hum1, rfl⟩ := h
        refine WR_k [2, 4, 10, 12, 13, 14, 46] rfl ?_
        refine W_cond rfl (fun h3 => ?_) (fun h3 => ?_)
        · have hgj := ndL_get T n p r hj
          have hl1 := ndL_len T n p
          refine W_rs ?_
          refine WR_a 6 rfl <| WR_v (y_ix (r) rfl) rfl <| WR_v (y_ld rfl ((ints_get _ r (by omega)).trans (by rw [hgj]))) rfl <| WR_a 2 rfl <| WR_l (l_append rfl (fok.rk.get rfl) rfl rfl rfl rfl (by unfold maxLen; omega)) rfl <| WR_a 1 rfl ?_
          refine WR_ren [0, 1, 2, 3, 4, 6] (.c 2 <| .c 4 <| .c 10 <| .c 12 <| .c 14 <| .nil) (.kept rfl (.row RenL.pure) <| .kept rfl (.row RenL.pure) <| .same (MemD.pure hdm1) rfl <| .same (MemU.pure hum1) rfl <| .kept rfl (.cells (RenL.c <| RenL.c <| RenL.c <| RenL.c <| RenL.c <| RenL.c <| RenL.c <| RenL.c <| RenL.c <| RenL.nil)) <| .kept rfl (.rowP rfl (segsP_snoc _ ⟨1, endL T n (p.take r)⟩)) <| .nil) rfl rfl (WR_nil ?_)
          refine W_cs (.a 2 rfl <| .k [2, 4, 10, 12, 13] rfl) ?_
          refine W_exit ?_
          cases f with
          | zero => omega
          | succ f =>
            first
              | (refine ⟨p.length - r, by omega, l ++ [⟨1, endL T n (p.take r)⟩], r, f, dm1, um1, by omega, by omega, by simp; omega, rfl, ?_, hdm1, hum1, ?_⟩
                 · rw [hl, lst_some hlt hlt2 hj h3 hno, List.append_assoc]; rfl
                 · unfold srow; simp only [List.length_append, List.length_singleton]; rfl)
              | (refine ⟨p.length - (i + 1), by omega, l ++ [⟨2, p.getD i 0⟩], i + 1, f, dm, um, by omega, by omega, by simp; omega, rfl, ?_, hdm, hum, ?_⟩
                 · rw [hl, lst_none hlt hno2, List.append_assoc]; rfl
                 · unfold srow; simp only [List.length_append, List.length_singleton]; rfl)
        · skip
          refine W_skip ?_
          refine W_chain (.a 1 rfl <| .v (y_ar rfl) rfl <| .a 1 rfl <| .k [2, 4, 10, 12, 13, 14] rfl) ?_
          refine ⟨r - 1, by omega, r - 1, dm1, um1, by omega, by omega, rfl, fun k h4 h5 => ?_, hdm1, hum1, ?_⟩
          · by_cases e : k = r
            · rw [e]; exact h3
            · exact hno k (by omega) h5
          · rw [show ((r - 1 : Nat) : Int) = (r : Int) - 1 by omega]
      · have hno2 : ∀ k, i < k → k ≤ p.length → covB T D n p i k = false := fun k h3 h4 => hno k (by have := ff h2; omega) h4
        refine W_exit ?_
        refine W_rs ?_
        refine WR_a 3 rfl <| WR_v (y_ix (i) rfl) rfl <| WR_v (y_ld rfl (ints_get _ i hlt)) rfl <| WR_a 2 rfl <| WR_l (l_append rfl (fok.rk.get rfl) rfl rfl rfl rfl (by unfold maxLen; omega)) rfl <| WR_a 1 rfl ?_
        refine WR_ren [0, 1, 2, 3, 4, 6] (.c 2 <| .c 4 <| .c 10 <| .c 12 <| .c 13 <| .nil) (.kept rfl (.row RenL.pure) <| .kept rfl (.row RenL.pure) <| .same (MemD.pure hdm) rfl <| .same (MemU.pure hum) rfl <| .kept rfl (.cells (RenL.c <| RenL.c <| RenL.c <| RenL.c <| RenL.c <| RenL.c <| RenL.c <| RenL.c <| RenL.c <| RenL.nil)) <| .kept rfl (.rowP rfl (segsP_snoc _ ⟨2, p.getD i 0⟩)) <| .nil) rfl rfl (WR_nil ?_)
        refine W_chain (.a 1 rfl <| .v (y_ar rfl) rfl <| .a 1 rfl <| .k [2, 4, 10, 12, 13] rfl) ?_
        cases f with
        | zero => omega
        | succ f =>
          first
            | (refine ⟨p.length - r, by omega, l ++ [⟨1, endL T n (p.take r)⟩], r, f, dm1, um1, by omega, by omega, by simp; omega, rfl, ?_, hdm1, hum1, ?_⟩
               · rw [hl, lst_some hlt hlt2 hj h3 hno, List.append_assoc]; rfl
               · unfold srow; simp only [List.length_append, List.length_singleton]; rfl)
            | (refine ⟨p.length - (i + 1), by omega, l ++ [⟨2, p.getD i 0⟩], i + 1, f, dm, um, by omega, by omega, by simp; omega, rfl, ?_, hdm, hum, ?_⟩
               · rw [hl, lst_none hlt hno2, List.append_assoc]; rfl
               · unfold srow; simp only [List.length_append, List.length_singleton]; rfl)
    · have hie : i = p.length := by have := ff h1; omega
      rw [lst_end f i (by omega), List.append_nil] at hl
      refine W_exit ?_
      refine W_cs (.a 3 rfl <| .k [8, 9] rfl) ?_
      refine W_ret ?_
      exact ⟨_, ResL.of rfl, rfl, by rw [hl]; rfl⟩
set_option maxRecDepth 10000 in
set_option maxHeartbeats 1000000 in
theorem slistS_can (T : Topo) (D : List Bool) (p : List Int) (n : Int) (he : folE T D n p = 0) (hp : p.length ≤ 1000) (hlk : T.links.length ≤ 256) (h12 : T.nodes ≤ 12) : CanS Try.prog 31 [topoV T, boolsV D, intsV p, num n] [] (fun r σ1 => ∃ i e s, r = .tuple [.own i, num 0] ∧ σ1[i]? = some (some (.row e s (lstL T [] n p).length (segsP (lstL T [] n p))))) := by
  have hl := CanS.nils (elistS_can T [] p n (folB he) hp hlk h12)
  refine canS_of Try.func31 rfl Try.ntmps31 rfl ?_
  refine W_cs (.a 3 rfl <| .k [1, 2, 3, 4] rfl) ?_
  refine W_seq ?_
  refine W_cs (.a 4 rfl <| .c rfl (scheck_can T D p n hp hlk) rfl <| .a 1 rfl <| .k [2, 3, 4, 10] rfl) ?_
  refine W_cs (.a 2 rfl <| .k [2, 3, 4, 10, 17] rfl) ?_
  refine W_cond rfl (fun hc => ?_) (fun hc => ?_)
  · exact absurd he (tt hc)
  · skip
    refine W_skip ?_
    refine W_rs ?_
    refine WR_a 3 rfl <| WR_cS rfl rfl (CanS.mono hl (fun r σ' h => ?_))
    obtain ⟨rfl, hx⟩ := h
    refine WR_a 4 rfl <| WR_k [8, 9] rfl ?_
    refine W_ret ?_
    exact ⟨_, ResL.of rfl, 5, _, _, rfl, hx⟩
end PW
end Go.Proofs.Ytbpgndbjbaoolaa

/- The laws on lists of segments: awake, large. -/
namespace Go.Proofs.Ytbpgndbjbaoolaa
set_option linter.unusedVariables false
set_option linter.unusedSimpArgs false
namespace PW
open Go.RowKit Reg Mem Net

def nextC (T : Topo) (D : List Bool) (L : List Int) (m d : Nat) : List Int := if m = d ∨ L.getD m 0 < 0 then [] else passL T D L (L.getD m 0) d (outL T m)
def cntC (T : Topo) (D : List Bool) (L : List Int) (d : Nat) : Nat → Nat → Int
  | 0, m => if m = d then 1 else 0
  | f + 1, m => if m = d then 1 else (nextC T D L m d).foldl (fun c a => min 2 (c + cntC T D L d f (headN T a.toNat).toNat)) 0
theorem cntF_C (T : Topo) (D : List Bool) (d : Nat) : ∀ f m, cntF T D d f m = cntC T D (distL T D d false) d f m
  | 0, m => rfl
  | f + 1, m => by
    simp only [cntF, cntC]
    split
    · rfl
    · exact foldl_congr fun c a _ => by rw [cntF_C T D d f]
def covC (y u : Nat) (c : Int) : Bool := decide ((ringD y).getD u 0 = c) && (decide (nodeE ringT [] (u : Int) (y : Int) = 0) && decide (cntC ringT [] (ringD y) y ((ringD y).getD u 0).toNat u = 1))
theorem cov_ring {p : List Int} {i j u y : Nat} {c : Int} (hu : endL ringT 0 (p.take i) = (u : Int)) (hy : endL ringT 0 (p.take j) = (y : Int)) (h4 : y < 4) (hc : costL ringT (p.take j) - costL ringT (p.take i) = c) : covB ringT [] 0 p i j = covC y u c := by
  unfold covB uniqB cntS dN covC
  rw [hu, hy, hc]
  simp only [Int.toNat_natCast, cntF_C, ring_dist y h4]
theorem c02 : covC 2 0 2 = false := by kernel_rfl
theorem c01 : covC 1 0 1 = true := by kernel_rfl
theorem c12 : covC 2 1 1 = true := by kernel_rfl
theorem c03 : covC 3 0 3 = false := by kernel_rfl
theorem c13 : covC 3 1 2 = false := by kernel_rfl
theorem c23 : covC 3 2 1 = true := by kernel_rfl
theorem ring_lst2 : lstL ringT [] 0 [0, 2] = nodeS [1, 2] := by
  have e01 : covB ringT [] 0 [0, 2] 0 1 = true := (cov_ring (u := 0) (y := 1) (c := 1) (by kernel_rfl) (by kernel_rfl) (by omega) (by kernel_rfl)).trans c01
  have e02 : covB ringT [] 0 [0, 2] 0 2 = false := (cov_ring (u := 0) (y := 2) (c := 2) (by kernel_rfl) (by kernel_rfl) (by omega) (by kernel_rfl)).trans c02
  have e12 : covB ringT [] 0 [0, 2] 1 2 = true := (cov_ring (u := 1) (y := 2) (c := 1) (by kernel_rfl) (by kernel_rfl) (by omega) (by kernel_rfl)).trans c12
  have h1 : lstF ringT [] 0 [0, 2] 2 0 = _ := lst_some (f := 1) (i := 0) (j := 1) (by decide) (by omega) (by decide) e01 (fun k h1 h2 => by
    have : k = 2 := by simp at h2; omega
    subst this; exact e02)
  have h2 : lstF ringT [] 0 [0, 2] 1 1 = _ := lst_some (f := 0) (i := 1) (j := 2) (by decide) (by omega) (by decide) e12 (fun k h1 h2 => by simp at h2; omega)
  show lstF ringT [] 0 [0, 2] 2 0 = _
  rw [h1, h2]
  kernel_rfl
theorem ring_lst3 : lstL ringT [] 0 [0, 2, 4] = nodeS [1, 2, 3] := by
  have e01 : covB ringT [] 0 [0, 2, 4] 0 1 = true := (cov_ring (u := 0) (y := 1) (c := 1) (by kernel_rfl) (by kernel_rfl) (by omega) (by kernel_rfl)).trans c01
  have e02 : covB ringT [] 0 [0, 2, 4] 0 2 = false := (cov_ring (u := 0) (y := 2) (c := 2) (by kernel_rfl) (by kernel_rfl) (by omega) (by kernel_rfl)).trans c02
  have e03 : covB ringT [] 0 [0, 2, 4] 0 3 = false := (cov_ring (u := 0) (y := 3) (c := 3) (by kernel_rfl) (by kernel_rfl) (by omega) (by kernel_rfl)).trans c03
  have e12 : covB ringT [] 0 [0, 2, 4] 1 2 = true := (cov_ring (u := 1) (y := 2) (c := 1) (by kernel_rfl) (by kernel_rfl) (by omega) (by kernel_rfl)).trans c12
  have e13 : covB ringT [] 0 [0, 2, 4] 1 3 = false := (cov_ring (u := 1) (y := 3) (c := 2) (by kernel_rfl) (by kernel_rfl) (by omega) (by kernel_rfl)).trans c13
  have e23 : covB ringT [] 0 [0, 2, 4] 2 3 = true := (cov_ring (u := 2) (y := 3) (c := 1) (by kernel_rfl) (by kernel_rfl) (by omega) (by kernel_rfl)).trans c23
  have h1 : lstF ringT [] 0 [0, 2, 4] 3 0 = _ := lst_some (f := 2) (i := 0) (j := 1) (by decide) (by omega) (by decide) e01 (fun k h1 h2 => by
    have : k = 2 ∨ k = 3 := by simp at h2; omega
    rcases this with rfl | rfl
    · exact e02
    · exact e03)
  have h2 : lstF ringT [] 0 [0, 2, 4] 2 1 = _ := lst_some (f := 1) (i := 1) (j := 2) (by decide) (by omega) (by decide) e12 (fun k h1 h2 => by
    have : k = 3 := by simp at h2; omega
    subst this; exact e13)
  have h3 : lstF ringT [] 0 [0, 2, 4] 1 2 = _ := lst_some (f := 0) (i := 2) (j := 3) (by decide) (by omega) (by decide) e23 (fun k h1 h2 => by simp at h2; omega)
  show lstF ringT [] 0 [0, 2, 4] 3 0 = _
  rw [h1, h2, h3]
  kernel_rfl
end PW
end Go.Proofs.Ytbpgndbjbaoolaa

/- The examples of layer 28, walked. -/
namespace Go.Proofs.Ytbpgndbjbaoolaa
set_option linter.unusedVariables false
set_option linter.unusedSimpArgs false
namespace PW
open Go.RowKit Reg Mem Net

def ringM : List Bool := [true, true, false, false, false, false, false, false]
def ring5L : List Lnk := ⟨0, 1, 5, 5, 0, 1, 0⟩ :: (ringL 4).drop 1
def ring5T : Topo := ⟨4, [], ring5L⟩
theorem ring5_valid : validB ring5T = true := by kernel_rfl
def dist5B (n : Nat) (out : List Int) : Bool :=
  decide (out.length = 4) && decide (at' out (n : Int) = 0) && (List.range 4).all (fun x => decide (0 ≤ at' out (x : Int))) &&
  (List.range 8).all (fun a => !wayB ring5T n out a || (decide (0 ≤ at' out (arcX ring5T false a)) && decide (at' out (arcX ring5T false a) ≤ at' out (arcY ring5T false a) + costN ring5T a))) &&
  (List.range 4).all (fun x => decide (x = n) || (List.range 8).any fun a => decide (arcX ring5T false a = (x : Int)) && wayB ring5T n out a && decide (at' out (x : Int) = at' out (arcY ring5T false a) + costN ring5T a))
theorem way5_iff (n : Nat) (out : List Int) (a : Nat) : Net.Way ring5T [] n false out a ↔ wayB ring5T n out a = true := by
  unfold Net.Way wayB
  have : downN [] a = false := by simp [downN]
  simp [this]
theorem dist5_of {n : Nat} {out : List Int} (h : dist5B n out = true) : IsDist ring5T [] n false out := by
  simp only [dist5B, Bool.and_eq_true, decide_eq_true_eq, List.all_eq_true, List.mem_range, Bool.or_eq_true, Bool.not_eq_true', List.any_eq_true] at h
  obtain ⟨⟨⟨⟨h1, h2⟩, h3⟩, h4⟩, h5⟩ := h
  refine ⟨by rw [h1]; rfl, h2, fun x hx => ?_, fun a ha hw => ?_, fun x hx _ => ?_⟩
  · have := h3 x (by have : ring5T.nodes = 4 := rfl; omega); omega
  · rcases h4 a (by have : ring5T.links.length = 4 := rfl; omega) with h | h
    · rw [(way5_iff n out a).1 hw] at h; cases h
    · exact h
  · rcases h5 x (by have : ring5T.nodes = 4 := rfl; omega) with h | ⟨a, ha, ⟨h6, h7⟩, h8⟩
    · exact .inl h
    · exact .inr ⟨a, by have : ring5T.links.length = 4 := rfl; omega, h6, (way5_iff n out a).2 h7, h8⟩
theorem ring5_dist : distL ring5T [] 1 false = [3, 0, 1, 2] := distL_eq (sound_of ring5_valid) (dist5_of (show dist5B 1 [3, 0, 1, 2] = true by kernel_rfl))
def cov5 (L : List Int) (y u : Nat) (c : Int) : Bool := decide (L.getD u 0 = c) && (decide (nodeE ring5T [] (u : Int) (y : Int) = 0) && decide (cntC ring5T [] L y (L.getD u 0).toNat u = 1))
theorem cov_ring5 : covB ring5T [] 0 [7, 5, 3] 0 3 = true := by
  have hu : endL ring5T 0 ([7, 5, 3].take 0) = ((0 : Nat) : Int) := by kernel_rfl
  have hy : endL ring5T 0 ([7, 5, 3].take 3) = ((1 : Nat) : Int) := by kernel_rfl
  have hc : costL ring5T ([7, 5, 3].take 3) - costL ring5T ([7, 5, 3].take 0) = 3 := by kernel_rfl
  unfold covB uniqB cntS dN
  rw [hu, hy, hc]
  simp only [Int.toNat_natCast, cntF_C, ring5_dist]
  exact (show cov5 [3, 0, 1, 2] 1 0 3 = true by kernel_rfl)
theorem ring_lstA : lstL ringT [] 0 [7, 5, 3] = nodeS [3, 2, 1] := by
  have e01 : covB ringT [] 0 [7, 5, 3] 0 1 = true := (cov_ring (u := 0) (y := 3) (c := 1) (by kernel_rfl) (by kernel_rfl) (by omega) (by kernel_rfl)).trans (show covC 3 0 1 = true by kernel_rfl)
  have e02 : covB ringT [] 0 [7, 5, 3] 0 2 = false := (cov_ring (u := 0) (y := 2) (c := 2) (by kernel_rfl) (by kernel_rfl) (by omega) (by kernel_rfl)).trans (show covC 2 0 2 = false by kernel_rfl)
  have e03 : covB ringT [] 0 [7, 5, 3] 0 3 = false := (cov_ring (u := 0) (y := 1) (c := 3) (by kernel_rfl) (by kernel_rfl) (by omega) (by kernel_rfl)).trans (show covC 1 0 3 = false by kernel_rfl)
  have e12 : covB ringT [] 0 [7, 5, 3] 1 2 = true := (cov_ring (u := 3) (y := 2) (c := 1) (by kernel_rfl) (by kernel_rfl) (by omega) (by kernel_rfl)).trans (show covC 2 3 1 = true by kernel_rfl)
  have e13 : covB ringT [] 0 [7, 5, 3] 1 3 = false := (cov_ring (u := 3) (y := 1) (c := 2) (by kernel_rfl) (by kernel_rfl) (by omega) (by kernel_rfl)).trans (show covC 1 3 2 = false by kernel_rfl)
  have e23 : covB ringT [] 0 [7, 5, 3] 2 3 = true := (cov_ring (u := 2) (y := 1) (c := 1) (by kernel_rfl) (by kernel_rfl) (by omega) (by kernel_rfl)).trans (show covC 1 2 1 = true by kernel_rfl)
  have h1 : lstF ringT [] 0 [7, 5, 3] 3 0 = _ := lst_some (f := 2) (i := 0) (j := 1) (by decide) (by omega) (by decide) e01 (fun k h1 h2 => by
    have : k = 2 ∨ k = 3 := by simp at h2; omega
    rcases this with rfl | rfl
    · exact e02
    · exact e03)
  have h2 : lstF ringT [] 0 [7, 5, 3] 2 1 = _ := lst_some (f := 1) (i := 1) (j := 2) (by decide) (by omega) (by decide) e12 (fun k h1 h2 => by
    have : k = 3 := by simp at h2; omega
    subst this; exact e13)
  have h3 : lstF ringT [] 0 [7, 5, 3] 1 2 = _ := lst_some (f := 0) (i := 2) (j := 3) (by decide) (by omega) (by decide) e23 (fun k h1 h2 => by simp at h2; omega)
  show lstF ringT [] 0 [7, 5, 3] 3 0 = _
  rw [h1, h2, h3]
  kernel_rfl
theorem ring_lstB : lstL ring5T [] 0 [7, 5, 3] = nodeS [1] := by
  have h1 : lstF ring5T [] 0 [7, 5, 3] 3 0 = _ := lst_some (f := 2) (i := 0) (j := 3) (by decide) (by omega) (by decide) cov_ring5 (fun k h1 h2 => by simp at h2; omega)
  show lstF ring5T [] 0 [7, 5, 3] 3 0 = _
  rw [h1, lst_end _ _ (by decide)]
  kernel_rfl
instance (l : List Seg) : IsFlatL (segsP l) := ⟨fun i u h => by
  obtain ⟨s, _, hs⟩ := List.mem_flatMap.1 (List.mem_of_getElem? h)
  simp only [segP, List.mem_cons, List.not_mem_nil, or_false] at hs
  rcases hs with rfl | rfl
  · infer_instance
  · infer_instance⟩
end PW
end Go.Proofs.Ytbpgndbjbaoolaa

/- The arguments of the laws of layer 28: a query, a way. -/
namespace Go.Proofs.Ytbpgndbjbaoolaa
set_option linter.unusedVariables false
set_option linter.unusedSimpArgs false
namespace PW
open Go.RowKit Reg Mem Net Go.WideShapes
/-- A topology with a mask and two nodes. -/
structure Qry where
  T : Topo
  D : List Bool
  x : Int
  y : Int
def qryP (c : Qry) : List PV := topoP c.T ++ [boolsV c.D, num c.x, num c.y]
def qryV (c : Qry) : PV := .agg (qryP c)
instance (c : Qry) : IsPureL (qryP c) := by unfold qryP; unfold topoP; simp only [List.cons_append, List.nil_append]; infer_instance
instance (c : Qry) : IsPure (qryV c) := by unfold qryV; infer_instance
/-- A path in a topology with a mask. -/
structure Wy where
  T : Topo
  D : List Bool
  p : List Int
  n : Int
def wyP (c : Wy) : List PV := topoP c.T ++ [boolsV c.D, intsV c.p, num c.n]
def wyV (c : Wy) : PV := .agg (wyP c)
instance (c : Wy) : IsPureL (wyP c) := by unfold wyP; unfold topoP; simp only [List.cons_append, List.nil_append]; infer_instance
instance (c : Wy) : IsPure (wyV c) := by unfold wyV; infer_instance
section
variable {H : Type} {enc : TypeId × Value → H} {W : World}
end
end PW
end Go.Proofs.Ytbpgndbjbaoolaa

/- The laws of layer 28, walked: List, Least, Encode, Segment. -/
namespace Go.Proofs.Ytbpgndbjbaoolaa
set_option linter.unusedVariables false
set_option linter.unusedSimpArgs false
namespace PW
open Go.RowKit Reg Mem Net

def smallQ (c : Qry) : Prop := c.T.nodes ≤ 12 ∧ c.T.links.length ≤ 20 ∧ c.D.length ≤ 60
def largeQ (c : Qry) : Bool := (decide ((12 : Int) < c.T.nodes) || decide ((20 : Int) < c.T.links.length)) || decide ((60 : Int) < c.D.length)
theorem largeQ_small {c : Qry} (h : largeQ c = false) : smallQ c := by
  unfold largeQ at h
  simp only [Bool.or_eq_false_iff, decide_eq_false_iff_not] at h
  unfold smallQ
  omega
def smallW (c : Wy) : Prop := c.T.nodes ≤ 12 ∧ c.T.links.length ≤ 20 ∧ c.D.length ≤ 60 ∧ c.p.length ≤ 20
def longW (c : Wy) : Bool := ((decide ((12 : Int) < c.T.nodes) || decide ((20 : Int) < c.T.links.length)) || decide ((60 : Int) < c.D.length)) || decide ((20 : Int) < c.p.length)
theorem longW_small {c : Wy} (h : longW c = false) : smallW c := by
  unfold longW at h
  simp only [Bool.or_eq_false_iff, decide_eq_false_iff_not] at h
  unfold smallW
  omega
end PW
end Go.Proofs.Ytbpgndbjbaoolaa

/- Package stable's Check; the laws of layer 28 on parts, routes and detours, walked. -/
namespace Go.Proofs.Ytbpgndbjbaoolaa
set_option linter.unusedVariables false
set_option linter.unusedSimpArgs false
namespace PW
open Go.RowKit Reg Mem Net

theorem Ch.ups {T : Topo} {D : List Bool} {d m : Nat} {q : List Int} (h : Ch T D d m q) : ∀ a ∈ q, downN D a.toNat = false := by
  induction h with
  | nil => intro z hz; cases hz
  | @cons n a m p ha ht hu hm ho hp ih =>
    intro z hz
    rcases List.mem_cons.1 hz with rfl | hz
    · rw [Int.toNat_natCast]; exact hu
    · exact ih z hz
theorem lst_pos {T : Topo} {D : List Bool} {n : Int} {p : List Int} (hp : 0 < p.length) : 0 < (lstL T D n p).length := by
  unfold lstL
  obtain ⟨f, hf⟩ : ∃ f, p.length = f + 1 := ⟨p.length - 1, by omega⟩
  rw [hf]
  simp only [lstF]
  rw [if_pos (by omega)]
  cases topD (covB T D n p 0) 0 p.length <;> simp
end PW
end Go.Proofs.Ytbpgndbjbaoolaa
