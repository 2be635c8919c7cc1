/- Texts of the proof, part 11. -/
import Derived.Test.YtbpgndbjbaoolaaGreatCardPPB10
/- Parts of covered parts are covered; the greedy list is the shortest. Plain mathematics. -/
namespace Go.Proofs.YtbpgndbjbaoolaaGreat
set_option linter.unusedVariables false
set_option linter.unusedSimpArgs false
namespace PW
open Go.RowKit Reg Mem Net
section
variable {T : Topo} {D : List Bool} {d : Nat}
/-- Where there is not only one shortest path, there are two. -/
theorem cnt_two (hv : validB T = true) (hd : (d : Int) < T.nodes) : ∀ (K m : Nat), (m : Int) < T.nodes → 0 ≤ dN T D d m → dN T D d m ≤ K → cntS T D d m ≠ 1 → ∃ p q, SP T D d m p ∧ SP T D d m q ∧ p ≠ q
  | K, m, hmN, h0, hK, hc => by
    by_cases hmd : m = d
    · subst hmd; exact absurd (cnt_self m) hc
    · obtain ⟨k, hk⟩ := next_ex (D := D) hv hmN hd hmd h0
      have hmem := next_of hk ((sound_of hv).cost k hk.arc).1
      cases hx : nextL T D m d with
      | nil => rw [hx] at hmem; cases hmem
      | cons a l =>
        obtain ⟨b, rfl, hb⟩ := next_mem (T := T) (D := D) (n := m) (d := d) (a := a) (by rw [hx]; simp)
        obtain ⟨x, hxh, hxN⟩ := head_nat hv hb.arc
        have gx := hb.dN hxh
        have cx := (sound_of hv).cost b hb.arc
        cases l with
        | nil =>
          cases K with
          | zero => omega
          | succ K =>
            have hcx : cntS T D d x ≠ 1 := fun h => hc (cnt_of_one hv hd hmN hmd hx hxh h)
            obtain ⟨p, q, h1, h2, h3⟩ := cnt_two hv hd K x hxN gx.1 (by omega) hcx
            exact ⟨b :: p, b :: q, .cons hb hxh h1, .cons hb hxh h2, fun e => h3 (List.cons.inj e).2⟩
        | cons a2 l =>
          obtain ⟨b2, rfl, hb2⟩ := next_mem (T := T) (D := D) (n := m) (d := d) (a := a2) (by rw [hx]; simp)
          obtain ⟨x2, hxh2, hxN2⟩ := head_nat hv hb2.arc
          have gx2 := hb2.dN hxh2
          refine ⟨b :: spathL T D x d, b2 :: spathL T D x2 d, .cons hb hxh (spath_sp hv hd hxN gx.1), .cons hb2 hxh2 (spath_sp hv hd hxN2 gx2.1), fun e => ?_⟩
          have he := (List.cons.inj e).1
          have hlt := next_sorted T D m d
          rw [hx] at hlt
          have := (List.pairwise_cons.1 hlt).1 (b2 : Int) (by simp)
          omega
/-- Paths one after the other. -/
theorem Ch.append {e n : Nat} {p q : List Int} (h : Ch T D e n p) (hq : Ch T D d e q) (ho : q = [] ∨ overN T e = false) : Ch T D d n (p ++ q) := by
  induction h with
  | nil => exact hq
  | @cons n a m p ha ht hu hm hov hp ih =>
    refine .cons ha ht hu hm ?_ ih
    rcases hov with h | h
    · subst h
      have := hp.to rfl
      subst this
      rcases ho with h | h
      · subst h; exact .inl rfl
      · exact .inr h
    · exact .inr h
/-- The end of a shortest path is one, and the only one if the whole is. -/
theorem SP.suffix (hv : validB T = true) (hd : (d : Int) < T.nodes) {e : Nat} : ∀ {n : Nat} {p q : List Int}, SP T D d n (p ++ q) → cntS T D d n = 1 → Ch T D e n p → SP T D d e q ∧ cntS T D d e = 1
  | n, [], q, h, hc, hch => by
    have := hch.to rfl
    subst this
    exact ⟨h, hc⟩
  | n, a :: p, q, h, hc, hch => by
    cases h with
    | @cons _ b m _ h1 hm hp =>
      cases hch with
      | @cons _ b2 m2 _ _ _ _ hm2 _ hch2 =>
        have : m2 = m := by rw [hm] at hm2; omega
        subst this
        obtain ⟨b3, h3, _, h4⟩ := cnt_one hv hd (h1.node hv) h1.ne hc
        have e1 := next_of h1 ((sound_of hv).cost b h1.arc).1
        rw [h3] at e1
        simp only [List.mem_singleton] at e1
        have : b3 = b := by omega
        subst this
        exact SP.suffix hv hd hp (h4 m2 hm) hch2
/-- The beginning of an only shortest path is one. -/
theorem SP.pre (hv : validB T = true) (hd : (d : Int) < T.nodes) {e n : Nat} {p q : List Int} (he : (e : Int) < T.nodes) (h : SP T D d n (p ++ q)) (hc : cntS T D d n = 1) (hp : Ch T D e n p) (hq : Ch T D d e q) (ho : q = [] ∨ overN T e = false) : SP T D e n p ∧ cntS T D e n = 1 := by
  have hcost := (h.cost hv hd).1
  rw [costL_append] at hcost
  have hle := hp.le hv he
  have hn := hp.node hv he
  have hspe : SP T D e n p := by
    refine hp.sp hv he ?_
    have hs := spath_sp hv he hn hle.1
    have hc2 := (hs.cost hv he).1
    have := ((hs.ch).append hq ho).le hv hd
    rw [costL_append] at this
    omega
  refine ⟨hspe, Classical.byContradiction fun h1 => ?_⟩
  obtain ⟨p1, p2, g1, g2, g3⟩ := cnt_two hv he (dN T D e n).toNat n hn hle.1 (by omega) h1
  have key : ∀ r, SP T D e n r → SP T D d n (r ++ q) := fun r hr => by
    refine ((hr.ch).append hq ho).sp hv hd ?_
    rw [costL_append, hcost, ← (hr.cost hv he).1, (hspe.cost hv he).1]
  have := (key p1 g1).unique hv hd (key p2 g2) hc
  exact g3 (List.append_cancel_right this)
theorem Ch.mid {e : Nat} : ∀ {n : Nat} {p q : List Int}, Ch T D d n (p ++ q) → p ≠ [] → Ch T D e n p → q = [] ∨ overN T e = false
  | n, [], q, _, h, _ => absurd rfl h
  | n, a :: p, q, h, _, hch => by
    cases h with
    | @cons _ b m _ _ _ _ hm hov hp =>
      cases hch with
      | @cons _ b2 m2 _ _ _ _ hm2 _ hch2 =>
        have : m2 = m := by rw [hm] at hm2; omega
        subst this
        cases p with
        | nil =>
          have := hch2.to rfl
          subst this
          exact hov
        | cons c p => exact Ch.mid hp (by simp) hch2
variable {n : Int} {p : List Int}
theorem part_split (p : List Int) {i j k : Nat} (h1 : i ≤ j) (h2 : j ≤ k) : partL p i k = partL p i j ++ partL p j k := by
  have e1 := take_part p (show i ≤ k by omega)
  have e2 := take_part p h2
  rw [take_part p h1, List.append_assoc] at e2
  rw [e1] at e2
  exact List.append_cancel_left e2
theorem cov_sub (h : Fol T D n p) {i j i' j' : Nat} (h1 : i ≤ i') (h2 : i' < j') (h3 : j' ≤ j) (hj : j ≤ p.length) (hc : covB T D n p i j = true) : covB T D n p i' j' = true := by
  have ha := h.arcs
  have hv := h.valid
  obtain ⟨u, hu, huN⟩ := end_node hv h.node ha i (by omega)
  obtain ⟨y, hy, hyN⟩ := end_node hv h.node ha j hj
  obtain ⟨u', hu', huN'⟩ := end_node hv h.node ha i' (by omega)
  obtain ⟨y', hy', hyN'⟩ := end_node hv h.node ha j' (by omega)
  obtain ⟨c1, c2⟩ := (cov_iff h (by omega) hj hu hy).1 hc
  rw [part_split p h1 (show i' ≤ j by omega)] at c1
  obtain ⟨c3, c4⟩ := c1.suffix hv hyN c2 (h.ch h1 (by omega) hu hu')
  rw [part_split p (show i' ≤ j' by omega) h3] at c3
  have hp := h.ch (show i' ≤ j' by omega) (by omega) hu' hy'
  have hq := h.ch h3 hj hy' hy
  have ho := c3.ch.mid (e := y') (by
    intro e
    have := part_len p (show i' ≤ j' by omega) (by omega)
    rw [e] at this
    simp at this
    omega) hp
  exact (cov_iff h (by omega) (by omega) hu' hy').2 (c3.pre hv hyN hyN' c4 hp hq ho)
end
end PW
end Go.Proofs.YtbpgndbjbaoolaaGreat

/- The reference of layer 20: Check, Covers, List. -/
namespace Go.Proofs.YtbpgndbjbaoolaaGreat
set_option linter.unusedVariables false
set_option linter.unusedSimpArgs false
namespace PW
open Go.RowKit Reg Mem Net

section
variable {T : Topo} {D : List Bool} {n : Int} {p : List Int}
theorem part_first (p : List Int) {i k : Nat} (hik : i < k) (hk : k ≤ p.length) : (partL p i k).getD 0 0 = p.getD i 0 := by
  unfold partL
  rw [List.getD_eq_getElem?_getD, List.getElem?_take, if_pos (by omega), List.getElem?_drop, List.getD_eq_getElem?_getD, Nat.add_zero]
theorem part_get (p : List Int) {i k m : Nat} (hm : m < k - i) : (partL p i k).getD m 0 = p.getD (i + m) 0 := by
  unfold partL
  rw [List.getD_eq_getElem?_getD, List.getElem?_take, if_pos hm, List.getElem?_drop, List.getD_eq_getElem?_getD]
theorem part_mem {i k : Nat} {a : Int} (h : a ∈ partL p i k) : a ∈ p := List.mem_of_mem_drop (List.mem_of_mem_take h)
theorem part_tail (h : Fol T D n p) {i : Nat} (hi : i < p.length) {x : Nat} (hx : endL T n (p.take i) = (x : Int)) : tailN T (p.getD i 0).toNat = (x : Int) := by
  have ha := h.arcs
  obtain ⟨y, hy, hyN⟩ := end_node h.valid h.node ha (i + 1) hi
  have hch := h.ch (i := i) (j := i + 1) (by omega) hi hx hy
  have hp : partL p i (i + 1) = [p.getD i 0] := by
    unfold partL
    rw [drop_cons p i hi, show i + 1 - i = 1 by omega]
    rfl
  rw [hp] at hch
  generalize p.getD i 0 = a at hch
  cases hch with
  | cons _ h2 _ _ _ _ => exact h2
end
section
variable {T : Topo} {D : List Bool} {n : Int} {p : List Int}
end
end PW
end Go.Proofs.YtbpgndbjbaoolaaGreat

/- The ends of segments: package segment's Valid, End, the reference's. -/
namespace Go.Proofs.YtbpgndbjbaoolaaGreat
set_option linter.unusedVariables false
set_option linter.unusedSimpArgs false
namespace PW
open Go.RowKit Reg Mem Net

/-- The end of a segment from a node of a valid topology, or the error. -/
def endS (T : Topo) (s : Seg) (n : Int) : Int × Int := if segB T s = false then (0, 1) else if nodeB T n = false then (0, 2) else if s.kind = 1 then (s.num, 0) else if s.kind = 2 then (if tailN T s.num.toNat ≠ n then (0, 4) else (headN T s.num.toNat, 0)) else (0, 7)
/-- The ends of a list of segments from a node, or the first error. -/
def endsL (T : Topo) : Int → List Seg → List Int × Int
  | _, [] => ([], 0)
  | n, s :: l => if (endS T s n).2 ≠ 0 then ([], (endS T s n).2) else ((endS T s n).1 :: (endsL T (endS T s n).1 l).1, (endsL T (endS T s n).1 l).2)
theorem segs_cons (l : List Seg) (k : Nat) (h : k < l.length) : ∃ s, l[k]? = some s ∧ l.drop k = s :: l.drop (k + 1) := ⟨l[k], List.getElem?_eq_getElem h, List.drop_eq_getElem_cons h⟩
end PW
end Go.Proofs.YtbpgndbjbaoolaaGreat

/- Exact lists and expansions, as plain mathematics. -/
namespace Go.Proofs.YtbpgndbjbaoolaaGreat
set_option linter.unusedVariables false
set_option linter.unusedSimpArgs false
namespace PW
open Go.RowKit Reg Mem Net

/-- The first index from i on whose node is x, or the last index. -/
def fstJ (T : Topo) (n : Int) (p : List Int) (x : Int) : Nat → Nat → Nat
  | 0, i => i
  | f + 1, i => if endL T n (p.take i) = x then i else fstJ T n p x f (i + 1)
/-- Where a segment leads from i. -/
noncomputable def stepX (T : Topo) (D : List Bool) (n : Int) (p : List Int) (i : Nat) (s : Seg) : Option Nat :=
  if s.kind = 2 ∧ i < p.length ∧ p.getD i 0 = s.num then some (i + 1)
  else if s.kind = 1 then (if endL T n (p.take (fstJ T n p s.num (p.length - i) i)) = s.num ∧ covB T D n p i (fstJ T n p s.num (p.length - i) i) = true then some (fstJ T n p s.num (p.length - i) i) else none)
  else none
/-- Whether a list is exact for the path from i on. -/
noncomputable def exB (T : Topo) (D : List Bool) (n : Int) (p : List Int) : Nat → List Seg → Bool
  | i, [] => decide (i = p.length)
  | i, s :: l => match stepX T D n p i s with
    | some j => exB T D n p j l
    | none => false
/-- The path of a list from a node, or the error. -/
noncomputable def expL (T : Topo) (D : List Bool) : Int → List Seg → Int × List Int
  | _, [] => (0, [])
  | x, s :: l => if s.kind = 2 then (if downN D s.num.toNat = true then (7, []) else ((expL T D (endS T s x).1 l).1, s.num :: (expL T D (endS T s x).1 l).2))
    else if spE T D x (endS T s x).1 ≠ 0 then (spE T D x (endS T s x).1, [])
    else if uniqB T D x (endS T s x).1 = false then (9, [])
    else ((expL T D (endS T s x).1 l).1, spathL T D x.toNat (endS T s x).1.toNat ++ (expL T D (endS T s x).1 l).2)
section
variable {T : Topo} {D : List Bool} {n : Int} {p : List Int}
theorem fst_ge (x : Int) : ∀ f i, i ≤ fstJ T n p x f i ∧ fstJ T n p x f i ≤ i + f
  | 0, i => by simp [fstJ]
  | f + 1, i => by
    simp only [fstJ]
    split
    · omega
    · have := fst_ge x f (i + 1); omega
theorem fst_no (x : Int) : ∀ f i k, i ≤ k → k < fstJ T n p x f i → endL T n (p.take k) ≠ x
  | 0, i, k, h1, h2 => by simp only [fstJ] at h2; omega
  | f + 1, i, k, h1, h2 => by
    simp only [fstJ] at h2
    split at h2
    · omega
    · rename_i h3
      by_cases e : k = i
      · subst e; exact h3
      · exact fst_no x f (i + 1) k (by omega) h2
theorem fst_is (x : Int) : ∀ f i j, i ≤ j → j ≤ i + f → endL T n (p.take j) = x → (∀ k, i ≤ k → k < j → endL T n (p.take k) ≠ x) → fstJ T n p x f i = j
  | 0, i, j, h1, h2, _, _ => by simp only [fstJ]; omega
  | f + 1, i, j, h1, h2, h3, h4 => by
    simp only [fstJ]
    by_cases e : i = j
    · subst e; rw [if_pos h3]
    · rw [if_neg (h4 i (Nat.le_refl _) (by omega))]
      exact fst_is x f (i + 1) j (by omega) (by omega) h3 (fun k h5 h6 => h4 k (by omega) h6)
theorem Ch.fin {d : Nat} {m : Nat} {q : List Int} (h : Ch T D d m q) : endL T (m : Int) q = (d : Int) := by
  induction h with
  | nil => rfl
  | @cons n a m p ha ht hu hm ho hp ih => simp only [endL, Int.toNat_natCast, hm]; exact ih
/-- A covered part ends where its end's node is met first. -/
theorem cov_first (h : Fol T D n p) {i j : Nat} (hij : i ≤ j) (hj : j ≤ p.length) (hc : covB T D n p i j = true) : fstJ T n p (endL T n (p.take j)) (p.length - i) i = j := by
  have ha := h.arcs
  have hv := h.valid
  refine fst_is _ _ _ _ hij (by omega) rfl fun k h1 h2 he => ?_
  obtain ⟨u, hu, huN⟩ := end_node hv h.node ha i (by omega)
  obtain ⟨y, hy, hyN⟩ := end_node hv h.node ha j hj
  obtain ⟨z, hz, hzN⟩ := end_node hv h.node ha k (by omega)
  have hzy : z = y := by omega
  subst hzy
  obtain ⟨c1, c2⟩ := (cov_iff h hij hj hu hy).1 hc
  rw [part_split p h1 (show k ≤ j by omega)] at c1
  obtain ⟨c3, c4⟩ := c1.suffix hv hyN c2 (h.ch h1 (by omega) hu hz)
  have := c3.self
  have hl := part_len p (show k ≤ j by omega) hj
  rw [this] at hl
  simp at hl
  omega
theorem spE_zero {x y : Nat} (hv : validB T = true) (hf : fitsB T D = true) (hx : (x : Int) < T.nodes) (hy : (y : Int) < T.nodes) : spE T D x y = if dN T D y x < 0 then 11 else 0 := by
  have hne : nodeE T D (x : Int) (y : Int) = 0 := by
    unfold nodeE
    rw [if_pos (chk_of hv hf hy), nodeB_iff.2 ⟨by omega, hx⟩]
    rfl
  unfold spE; rw [if_pos hne]; simp only [Int.toNat_natCast]
theorem uniq_iff {x y : Nat} (hv : validB T = true) (hf : fitsB T D = true) (hx : (x : Int) < T.nodes) (hy : (y : Int) < T.nodes) : uniqB T D x y = true ↔ cntS T D y x = 1 := by
  have hne : nodeE T D (x : Int) (y : Int) = 0 := by
    unfold nodeE
    rw [if_pos (chk_of hv hf hy), nodeB_iff.2 ⟨by omega, hx⟩]
    rfl
  unfold uniqB
  rw [hne]
  simp
/-- A part that is covered is the shortest path, and the other way round. -/
theorem cov_sp (h : Fol T D n p) {i j x y : Nat} (hij : i ≤ j) (hj : j ≤ p.length) (hx : endL T n (p.take i) = (x : Int)) (hy : endL T n (p.take j) = (y : Int)) : covB T D n p i j = true ↔ spE T D x y = 0 ∧ uniqB T D x y = true ∧ spathL T D x y = partL p i j := by
  have ha := h.arcs
  have hv := h.valid
  obtain ⟨x', hx', hxN⟩ := end_node hv h.node ha i (by omega)
  obtain ⟨y', hy', hyN⟩ := end_node hv h.node ha j hj
  have e1 : x' = x := by omega
  have e2 : y' = y := by omega
  subst e1
  subst e2
  rw [cov_iff h hij hj hx hy, spE_zero hv h.fits hxN hyN, uniq_iff hv h.fits hxN hyN]
  constructor
  · rintro ⟨h1, h2⟩
    have h0 := (h1.cost hv hyN).2
    exact ⟨by rw [if_neg (by omega)], h2, (spath_sp hv hyN hxN h0).unique hv hyN h1 h2⟩
  · rintro ⟨h1, h2, h3⟩
    have h0 : 0 ≤ dN T D y' x' := by
      split at h1
      · omega
      · omega
    exact ⟨by rw [← h3]; exact spath_sp hv hyN hxN h0, h2⟩
/-- Only what is covered is stepped over. -/
theorem step_some {i j : Nat} {s : Seg} (hi : i ≤ p.length) (hst : stepX T D n p i s = some j) : (j = i + 1 ∧ i < p.length) ∨ (i ≤ j ∧ j ≤ p.length ∧ covB T D n p i j = true) := by
  unfold stepX at hst
  split at hst
  · rename_i h1
    cases hst
    exact .inl ⟨rfl, h1.2.1⟩
  · split at hst
    · split at hst
      · rename_i h3
        simp only [Option.some.injEq] at hst
        rw [hst] at h3
        have hge := fst_ge (T := T) (n := n) (p := p) s.num (p.length - i) i
        rw [hst] at hge
        exact .inr ⟨hge.1, by omega, h3.2⟩
      · cases hst
    · cases hst
/-- The list of the path is exact. -/
theorem ex_lst (h : Fol T D n p) : ∀ (f i : Nat), i ≤ p.length → p.length - i ≤ f → exB T D n p i (lstF T D n p f i) = true
  | f, i, hi, hf => by
    by_cases hlt : i < p.length
    · cases f with
      | zero => omega
      | succ f =>
        cases ht : topD (covB T D n p i) i p.length with
        | none =>
          rw [lst_none hlt (fun k h1 h2 => topD_isNone _ ht k h1 h2)]
          simp only [exB]
          have hst : stepX T D n p i ⟨2, p.getD i 0⟩ = some (i + 1) := by unfold stepX; rw [if_pos ⟨rfl, hlt, rfl⟩]
          rw [hst]
          exact ex_lst h f (i + 1) (by omega) (by omega)
        | some j =>
          obtain ⟨t1, t2, t3, t4⟩ := topD_is _ _ ht
          rw [lst_some hlt t1 t2 t3 t4]
          simp only [exB]
          have hst : stepX T D n p i ⟨1, endL T n (p.take j)⟩ = some j := by
            unfold stepX
            simp only
            rw [if_neg (by omega), if_pos trivial, cov_first h (by omega) t2 t3, if_pos ⟨rfl, t3⟩]
          rw [hst]
          exact ex_lst h f j t2 (by omega)
    · rw [lst_end f i (by omega)]
      simp only [exB, decide_eq_true_eq]
      omega
theorem lst_len : ∀ f i, (lstF T D n p f i).length ≤ f := fun f => by
  induction f with
  | zero => intro i; simp [lstF]
  | succ f ih =>
    intro i
    simp only [lstF]
    split
    · split
      · have := ih ‹Nat›; simp only [List.length_cons]; omega
      · have := ih (i + 1); simp only [List.length_cons]; omega
    · simp
theorem fol_zero (h : Fol T D n p) : folE T D n p = 0 := by
  unfold folE
  have h2 : pathX T n p = 0 := by unfold pathX; rw [if_pos h.valid, if_pos h.node]; exact h.walk
  rw [if_pos (by rw [h.valid, h.fits]; rfl), if_pos h2, if_neg]
  intro e
  obtain ⟨x, h3, h4⟩ := List.any_eq_true.1 e
  rw [h.up x h3] at h4
  cases h4
end
end PW
end Go.Proofs.YtbpgndbjbaoolaaGreat

/- Stable segments: package stable, the reference of layer 28. -/
namespace Go.Proofs.YtbpgndbjbaoolaaGreat
set_option linter.unusedVariables false
set_option linter.unusedSimpArgs false
namespace PW
open Go.RowKit Reg Mem Net

/-- No arc of a path is down. -/
def clearB (D : List Bool) (q : List Int) : Bool := !q.any fun a => downN D a.toNat
theorem clear_iff {D : List Bool} {q : List Int} : clearB D q = true ↔ ∀ a ∈ q, downN D a.toNat = false := by
  unfold clearB
  rw [Bool.not_eq_true', List.any_eq_false]
  constructor
  · intro h a ha
    have := h a ha
    simpa using this
  · intro h a ha
    rw [h a ha]
    simp
theorem clear_no {D : List Bool} {q : List Int} {a : Int} (ha : a ∈ q) (h : downN D a.toNat = true) : clearB D q = false := by
  unfold clearB
  rw [Bool.not_eq_false', List.any_eq_true]
  exact ⟨a, ha, h⟩
set_option maxRecDepth 10000 in
set_option maxHeartbeats 1000000 in
theorem up_can (T : Topo) (D : List Bool) (q : List Int) (hf : fitsB T D = true) (ha : ∀ a ∈ q, arcB T a = true) (hq : q.length ≤ 1000) : Can Tryz.prog 148 [boolsV D, intsV q] (· = flag (clearB D q)) := by
  refine can_of Tryz.func148 rfl Tryz.ntmps148 rfl ?_
  refine W_cs (.a 1 rfl <| .k [0, 1] rfl) ?_
  refine W_seq ?_
  refine W_cs (.a 3 rfl <| .k [0, 7, 8, 9] rfl) ?_
  refine W_block ?_
  refine W_k [0, 7, 8, 9] rfl ?_
  refine W_loop (fun r st => ∃ k : Nat, k ≤ q.length ∧ r = q.length - k ∧ (∀ a ∈ q.take k, downN D a.toNat = false) ∧ st = ⟨[(0, boolsV D), (7, intsV q), (8, num q.length), (9, num k)], []⟩) q.length ⟨0, by omega, by omega, by simp, rfl⟩ ?_
  rintro r st ⟨k, hk, rfl, hdn, rfl⟩
  refine W_cs (.a 1 rfl <| .k [0, 7, 8, 9, 10] rfl) ?_
  refine W_seq ?_
  refine W_cond rfl (fun hy => ?_) (fun hy => ?_)
  · have hlt : k < q.length := by have := tt hy; omega
    have hmem := getD_mem (d := 0) hlt
    have hab := ha _ hmem
    simp only [arcB, decide_eq_true_eq] at hab
    obtain ⟨a, hae⟩ : ∃ a : Nat, q.getD k 0 = (a : Int) := ⟨(q.getD k 0).toNat, by omega⟩
    have hD : D.length = 0 ∨ a < D.length := by simp only [fitsB, decide_eq_true_eq] at hf; omega
    refine W_skip ?_
    refine W_seq ?_
    refine W_block ?_
    refine W_cs (.v (y_ix (k) rfl) rfl <| .v (y_ld rfl ((ints_get q k hlt).trans (by rw [hae]))) rfl <| .a 1 rfl <| .k [0, 6, 7, 8, 9] rfl) ?_
    refine W_cs (.a 2 rfl <| .c rfl (down_can D a hD) rfl <| .k [0, 7, 8, 9, 15] rfl) ?_
    refine W_cond rfl (fun hz => ?_) (fun hz => ?_)
    · have he := clear_no (D := D) hmem (by rw [hae]; exact hz)
      refine W_cs (.a 1 rfl <| .k [4] rfl) ?_
      refine W_ret ?_
      exact ⟨_, _, ResL.of rfl, Pur.pure, by rw [he]; rfl⟩
    · skip
      refine W_skip ?_
      refine W_chain (.v (y_ar rfl) rfl <| .a 1 rfl <| .k [0, 7, 8, 9] rfl) ?_
      refine ⟨q.length - (k + 1), by omega, k + 1, by omega, rfl, fun x hx => ?_, rfl⟩
      rw [take_step q k 0 hlt] at hx
      rcases List.mem_append.1 hx with h | h
      · exact hdn x h
      · simp only [List.mem_singleton] at h; rw [h, hae]; exact hz
  · have hke : k = q.length := by have := ff hy; omega
    subst hke
    rw [List.take_length] at hdn
    refine W_exit ?_
    refine W_cs (.a 1 rfl <| .k [4] rfl) ?_
    refine W_ret ?_
    exact ⟨_, _, ResL.of rfl, Pur.pure, by rw [clear_iff.2 hdn]; rfl⟩
set_option maxRecDepth 10000 in
set_option maxHeartbeats 1000000 in
theorem rclear_can (T : Topo) (D : List Bool) (q : List Int) (hf : fitsB T D = true) (ha : ∀ a ∈ q, arcB T a = true) (hq : q.length ≤ 1000) : Can Tryz.prog 63 [boolsV D, intsV q] (· = flag (clearB D q)) := by
  refine can_of Tryz.func63 rfl Tryz.ntmps63 rfl ?_
  refine W_cs (.a 1 rfl <| .k [0, 1] rfl) ?_
  refine W_seq ?_
  refine W_cs (.a 1 rfl <| .k [0, 1, 5] rfl) ?_
  refine W_block ?_
  refine W_k [0, 1, 5] rfl ?_
  refine W_loop (fun r st => ∃ k : Nat, k ≤ q.length ∧ r = q.length - k ∧ (∀ a ∈ q.take k, downN D a.toNat = false) ∧ st = ⟨[(0, boolsV D), (1, intsV q), (5, num k)], []⟩) q.length ⟨0, by omega, by omega, by simp, rfl⟩ ?_
  rintro r st ⟨k, hk, rfl, hdn, rfl⟩
  refine W_seq ?_
  refine W_cs (.a 4 rfl <| .k [0, 1, 5, 9] rfl) ?_
  refine W_cond rfl (fun hy => ?_) (fun hy => ?_)
  · have hlt : k < q.length := by have := tt hy; omega
    have hmem := getD_mem (d := 0) hlt
    have hab := ha _ hmem
    simp only [arcB, decide_eq_true_eq] at hab
    obtain ⟨a, hae⟩ : ∃ a : Nat, q.getD k 0 = (a : Int) := ⟨(q.getD k 0).toNat, by omega⟩
    have hD : D.length = 0 ∨ a < D.length := by simp only [fitsB, decide_eq_true_eq] at hf; omega
    refine W_skip ?_
    refine W_seq ?_
    refine W_block ?_
    refine W_cs (.a 3 rfl <| .v (y_ix (k) rfl) rfl <| .v (y_ld rfl ((ints_get q k hlt).trans (by rw [hae]))) rfl <| .c rfl (rup_can D a hD) rfl <| .a 1 rfl <| .k [0, 1, 5, 18] rfl) ?_
    refine W_cond rfl (fun hz => ?_) (fun hz => ?_)
    · have hz1 : downN D a = true := by simpa using hz
      have he := clear_no (D := D) hmem (by rw [hae]; exact hz1)
      refine W_cs (.a 1 rfl <| .k [4] rfl) ?_
      refine W_ret ?_
      exact ⟨_, _, ResL.of rfl, Pur.pure, by rw [he]; rfl⟩
    · have hz1 : downN D a = false := by simpa using hz
      refine W_skip ?_
      refine W_chain (.a 1 rfl <| .v (y_ar rfl) rfl <| .a 1 rfl <| .k [0, 1, 5] rfl) ?_
      refine ⟨q.length - (k + 1), by omega, k + 1, by omega, rfl, fun x hx => ?_, rfl⟩
      rw [take_step q k 0 hlt] at hx
      rcases List.mem_append.1 hx with h | h
      · exact hdn x h
      · simp only [List.mem_singleton] at h; rw [h, hae]; exact hz1
  · have hke : k = q.length := by have := ff hy; omega
    subst hke
    rw [List.take_length] at hdn
    refine W_exit ?_
    refine W_cs (.a 1 rfl <| .k [4] rfl) ?_
    refine W_ret ?_
    exact ⟨_, _, ResL.of rfl, Pur.pure, by rw [clear_iff.2 hdn]; rfl⟩
theorem fol_path {T : Topo} {D : List Bool} {n : Int} {p : List Int} (hvf : (validB T && fitsB T D) = true) (h : pathX T n p ≠ 0) : folE T D n p = pathX T n p := by unfold folE; rw [if_pos hvf, if_neg h]
theorem fol_clear {T : Topo} {D : List Bool} {n : Int} {p : List Int} (hvf : (validB T && fitsB T D) = true) (h : pathX T n p = 0) : folE T D n p = if clearB D p = true then 0 else 7 := by
  unfold folE clearB
  rw [if_pos hvf, if_pos h]
  cases p.any fun a => downN D a.toNat <;> rfl
set_option maxRecDepth 10000 in
set_option maxHeartbeats 1000000 in
theorem scheck_can (T : Topo) (D : List Bool) (p : List Int) (n : Int) (hp : p.length ≤ 1000) (hlk : T.links.length ≤ 256) : Can Tryz.prog 114 [topoV T, boolsV D, intsV p, num n] (· = num (folE T D n p)) := by
  obtain ⟨q1, hq1⟩ : ∃ q, validB T = q := ⟨_, rfl⟩
  obtain ⟨q2, hq2⟩ : ∃ q, fitsB T D = q := ⟨_, rfl⟩
  refine can_of Tryz.func114 rfl Tryz.ntmps114 rfl ?_
  refine W_cs (.a 2 rfl <| .k [1, 2, 3, 4] rfl) ?_
  refine W_seq ?_
  refine W_csK 20 (.raw (.bool ((!q1) || !q2))) [1, 2, 3, 4] rfl ?_ ?_
  · refine .a 1 rfl <| .c rfl (hq1 ▸ valid_can T) rfl <| .a 2 rfl <| ?_
    cases q1
    · exact .a 5 rfl <| .k [20, 1, 2, 3, 4] rfl
    · exact .a 2 rfl <| .c rfl (hq2 ▸ fits_can T D (by omega)) rfl <| .a 2 rfl <| .k [20, 1, 2, 3, 4] rfl
  refine W_cond rfl (fun hc => ?_) (fun hc => ?_)
  · have he : folE T D n p = 1 := by unfold folE; rw [hq1, hq2]; cases q1 <;> cases q2 <;> first | rfl | cases hc
    refine W_cs (.a 1 rfl <| .k [8] rfl) ?_
    refine W_ret ?_
    exact ⟨_, _, ResL.of rfl, Pur.pure, by rw [he]; rfl⟩
  · have hv : validB T = true := by rw [hq1]; cases q1; cases hc; rfl
    have hf : fitsB T D = true := by rw [hq2]; cases q2; cases q1 <;> cases hc; rfl
    have hvf : (validB T && fitsB T D) = true := by rw [hv, hf]; rfl
    refine W_skip ?_
    refine W_seq ?_
    refine W_cs (.a 3 rfl <| .c rfl (path_can T n p (by omega)) rfl <| .a 7 rfl <| .k [1, 2, 11] rfl) ?_
    refine W_cs (.a 2 rfl <| .k [1, 2, 11, 30] rfl) ?_
    refine W_cond rfl (fun hx => ?_) (fun hx => ?_)
    · have hx1 : pathX T n p ≠ 0 := tt hx
      refine W_cs (.a 2 rfl <| .k [8] rfl) ?_
      refine W_ret ?_
      exact ⟨_, _, ResL.of rfl, Pur.pure, by rw [fol_path hvf hx1]; rfl⟩
    · have hx1 : pathX T n p = 0 := Classical.byContradiction (ff hx)
      obtain ⟨_, hn, hw⟩ := pathX_zero hx1
      have ha := walk_arcs hw
      rw [fol_clear hvf hx1]
      refine W_skip ?_
      refine W_seq ?_
      refine W_cs (.a 2 rfl <| .c rfl (up_can T D p hf ha hp) rfl <| .a 1 rfl <| .k [35] rfl) ?_
      refine W_cond rfl (fun hy => ?_) (fun hy => ?_)
      · have hy1 : clearB D p = false := by simpa using hy
        refine W_cs (.a 1 rfl <| .k [8] rfl) ?_
        refine W_ret ?_
        exact ⟨_, _, ResL.of rfl, Pur.pure, by rw [hy1]; rfl⟩
      · have hy1 : clearB D p = true := by simpa using hy
        refine W_skip ?_
        refine W_cs (.a 1 rfl <| .k [8] rfl) ?_
        refine W_ret ?_
        exact ⟨_, _, ResL.of rfl, Pur.pure, by rw [hy1]; rfl⟩
set_option maxRecDepth 10000 in
set_option maxHeartbeats 1000000 in
theorem rscheck_can (T : Topo) (D : List Bool) (p : List Int) (n : Int) (hp : p.length ≤ 1000) : Can Tryz.prog 67 [topoV T, boolsV D, intsV p, num n] (· = num (folE T D n p)) := by
  obtain ⟨q1, hq1⟩ : ∃ q, (validB T && fitsB T D) = q := ⟨_, rfl⟩
  refine can_of Tryz.func67 rfl Tryz.ntmps67 rfl ?_
  refine W_cs (.a 2 rfl <| .k [1, 2, 3, 4] rfl) ?_
  refine W_seq ?_
  refine W_cs (.a 2 rfl <| .c rfl (hq1 ▸ rfits_can T D) rfl <| .a 1 rfl <| .k [1, 2, 3, 4, 15] rfl) ?_
  refine W_cond rfl (fun hc => ?_) (fun hc => ?_)
  · have h1 : q1 = false := by cases q1; rfl; cases hc
    have he : folE T D n p = 1 := by unfold folE; rw [hq1, h1]; rfl
    refine W_cs (.a 1 rfl <| .k [8] rfl) ?_
    refine W_ret ?_
    exact ⟨_, _, ResL.of rfl, Pur.pure, by rw [he]; rfl⟩
  · have h1 : q1 = true := by cases q1; cases hc; rfl
    subst h1
    obtain ⟨hv, hf⟩ := Bool.and_eq_true_iff.1 hq1
    refine W_skip ?_
    refine W_cs (.a 3 rfl <| .c rfl (rpath_can T n p (by omega)) rfl <| .a 7 rfl <| .k [1, 2, 11] rfl) ?_
    refine W_seq ?_
    refine W_cs (.a 2 rfl <| .k [1, 2, 11, 25] rfl) ?_
    refine W_cond rfl (fun hx => ?_) (fun hx => ?_)
    · have hx1 : pathX T n p ≠ 0 := tt hx
      refine W_cs (.a 2 rfl <| .k [8] rfl) ?_
      refine W_ret ?_
      exact ⟨_, _, ResL.of rfl, Pur.pure, by rw [fol_path hq1 hx1]; rfl⟩
    · have hx1 : pathX T n p = 0 := Classical.byContradiction (ff hx)
      obtain ⟨_, hn, hw⟩ := pathX_zero hx1
      have ha := walk_arcs hw
      rw [fol_clear hq1 hx1]
      refine W_skip ?_
      refine W_seq ?_
      refine W_cs (.a 2 rfl <| .c rfl (rclear_can T D p hf ha hp) rfl <| .a 1 rfl <| .k [30] rfl) ?_
      refine W_cond rfl (fun hy => ?_) (fun hy => ?_)
      · have hy1 : clearB D p = false := by simpa using hy
        refine W_cs (.a 1 rfl <| .k [8] rfl) ?_
        refine W_ret ?_
        exact ⟨_, _, ResL.of rfl, Pur.pure, by rw [hy1]; rfl⟩
      · have hy1 : clearB D p = true := by simpa using hy
        refine W_skip ?_
        refine W_cs (.a 1 rfl <| .k [8] rfl) ?_
        refine W_ret ?_
        exact ⟨_, _, ResL.of rfl, Pur.pure, by rw [hy1]; rfl⟩
section
variable {T : Topo} {D : List Bool} {n : Int} {p : List Int}
theorem fits_nil (T : Topo) : fitsB T [] = true := by simp [fitsB]
theorem Fol.bare (h : Fol T D n p) : Fol T [] n p := ⟨h.valid, fits_nil T, h.node, h.walk, fun a _ => by simp [downN]⟩
theorem folB {n : Int} {p : List Int} (h : folE T D n p = 0) : folE T [] n p = 0 := fol_zero (fol_of h).bare
end
set_option maxRecDepth 10000 in
set_option maxHeartbeats 1000000 in
theorem slist_can (T : Topo) (D : List Bool) (p : List Int) (n : Int) (hp : p.length ≤ 1000) (hlk : T.links.length ≤ 256) (h12 : T.nodes ≤ 12) : Can Tryz.prog 72 [topoV T, boolsV D, intsV p, num n] (· = segsE (folE T D n p) (lstL T [] n p)) := by
  refine can_of Tryz.func72 rfl Tryz.ntmps72 rfl ?_
  refine W_cs (.a 3 rfl <| .k [1, 2, 3, 4] rfl) ?_
  refine W_seq ?_
  refine W_cs (.a 4 rfl <| .c rfl (scheck_can T D p n hp hlk) rfl <| .a 1 rfl <| .k [2, 3, 4, 10] rfl) ?_
  refine W_cs (.a 2 rfl <| .k [2, 3, 4, 10, 17] rfl) ?_
  refine W_cond rfl (fun hc => ?_) (fun hc => ?_)
  · have he : folE T D n p ≠ 0 := tt hc
    refine W_cs (.a 3 rfl <| .k [8, 9] rfl) ?_
    refine W_ret ?_
    exact ⟨_, _, ResL.of rfl, Pur.tupleL (PurL.cons Pur.nils (PurL.cons Pur.pure PurL.nil)), by unfold segsE; rw [if_neg he]; rfl⟩
  · have he : folE T D n p = 0 := Classical.byContradiction (ff hc)
    have hl := elist_can T [] p n hp hlk h12
    rw [folB he] at hl
    rw [he]
    refine W_skip ?_
    refine W_cs (.a 3 rfl <| .v (y_cP rfl (PurL.cons Pur.pure <| PurL.cons Pur.nils <| PurL.cons Pur.pure <| PurL.cons Pur.pure PurL.nil) (hl)) rfl <| .a 4 rfl <| .k [8, 9] rfl) ?_
    refine W_ret ?_
    exact ⟨_, _, ResL.of rfl, Pur.pure, rfl⟩
end PW
end Go.Proofs.YtbpgndbjbaoolaaGreat

/- Package encode's Exact, walked. -/
namespace Go.Proofs.YtbpgndbjbaoolaaGreat
set_option linter.unusedVariables false
set_option linter.unusedSimpArgs false
namespace PW
open Go.RowKit Reg Mem Net

def onlyQ (K : St → Prop) : Exit → St → Prop
  | .normal, s => K s
  | _, _ => False
theorem W_seqM {P : Program} {N L : Nat} {x y : Code} {st : St} {Q : Exit → St → Prop} {Q1 : St → Prop} (h : W P N L x st (onlyQ Q1)) (k : ∀ s, Q1 s → W P N L y s Q) : W P N L (.seq x y) st Q :=
  W_seq (h.mono fun e s hq => by
    cases e <;> first | exact k s hq | exact hq.elim)
section
variable {T : Topo} {D : List Bool} {n : Int} {p : List Int}
end
end PW
end Go.Proofs.YtbpgndbjbaoolaaGreat

/- Expansions of lists: package encode's Expand, the reference's Expand and Exact. -/
namespace Go.Proofs.YtbpgndbjbaoolaaGreat
set_option linter.unusedVariables false
set_option linter.unusedSimpArgs false
namespace PW
open Go.RowKit Reg Mem Net

section
variable {T : Topo} {D : List Bool}
theorem Ch.arcs {d m : Nat} {q : List Int} (h : Ch T D d m q) : ∀ a ∈ q, arcB T a = true := by
  induction h with
  | nil => intro a ha; cases ha
  | @cons n a m p ha ht hu hm ho hp ih =>
    intro b hb
    rcases List.mem_cons.1 hb with rfl | hb
    · exact arcB_iff.2 ⟨by omega, by omega⟩
    · exact ih b hb
theorem spE_facts {x y : Int} (h : spE T D x y = 0) : ∃ a b : Nat, x = (a : Int) ∧ y = (b : Int) ∧ (a : Int) < T.nodes ∧ (b : Int) < T.nodes ∧ validB T = true ∧ SP T D b a (spathL T D x.toNat y.toNat) := by
  unfold spE at h
  split at h
  · rename_i he
    obtain ⟨hv, hf, hn, hd⟩ := nodeE_zero he
    rw [nodeB_iff] at hn hd
    obtain ⟨a, rfl⟩ := Int.eq_ofNat_of_zero_le hn.1
    obtain ⟨b, rfl⟩ := Int.eq_ofNat_of_zero_le hd.1
    refine ⟨a, b, rfl, rfl, hn.2, hd.2, hv, ?_⟩
    simp only [Int.toNat_natCast] at h ⊢
    exact spath_sp hv hd.2 hn.2 (by split at h <;> omega)
  · rename_i he
    exact absurd h he
theorem ends_cons {s : Seg} {l : List Seg} {x : Int} (h : (endsL T x (s :: l)).2 = 0) : (endS T s x).2 = 0 ∧ (endsL T (endS T s x).1 l).2 = 0 ∧ (endsL T x (s :: l)).1 = (endS T s x).1 :: (endsL T (endS T s x).1 l).1 := by
  simp only [endsL] at h ⊢
  by_cases h0 : (endS T s x).2 = 0
  · rw [if_neg (by rw [h0]; simp)] at h
    rw [if_neg (by rw [h0]; simp)]
    exact ⟨h0, h, rfl⟩
  · rw [if_pos h0] at h; exact absurd h h0
/-- The next step of an expansion. -/
structure ExpI (T : Topo) (D : List Bool) (l : List Seg) (n : Int) (k : Nat) (x : Int) (out : List Int) : Prop where
  ends : (endsL T x (l.drop k)).2 = 0
  row : (endsL T n l).1.drop k = (endsL T x (l.drop k)).1
  err : (expL T D n l).1 = (expL T D x (l.drop k)).1
  val : (expL T D n l).1 = 0 → (expL T D n l).2 = out ++ (expL T D x (l.drop k)).2
  len : out.length ≤ 12 * k
theorem ExpI.start {l : List Seg} {n : Int} (h : (endsL T n l).2 = 0) : ExpI T D l n 0 n [] := ⟨h, rfl, rfl, fun _ => rfl, by simp⟩
theorem ExpI.get {l : List Seg} {n : Int} {k : Nat} {x : Int} {out : List Int} (h : ExpI T D l n k x out) {s : Seg} (hd : l.drop k = s :: l.drop (k + 1)) (hk : k < (endsL T n l).1.length) : (endS T s x).2 = 0 ∧ (endsL T n l).1.getD k 0 = (endS T s x).1 ∧ (endsL T n l).1.drop (k + 1) = (endsL T (endS T s x).1 (l.drop (k + 1))).1 ∧ (endsL T (endS T s x).1 (l.drop (k + 1))).2 = 0 := by
  have h1 := h.ends
  have h2 := h.row
  rw [hd] at h1 h2
  obtain ⟨e1, e2, e3⟩ := ends_cons h1
  rw [e3, drop_cons _ _ hk] at h2
  exact ⟨e1, (List.cons.inj h2).1, (List.cons.inj h2).2, e2⟩
end
instance (T : Topo) (n : Int) (l : List Int) : IsFlat (pathV T n l) := by unfold pathV; infer_instance
end PW
end Go.Proofs.YtbpgndbjbaoolaaGreat

/- Stable segments: Segment of both, the reference's stands, List, Least. -/
namespace Go.Proofs.YtbpgndbjbaoolaaGreat
set_option linter.unusedVariables false
set_option linter.unusedSimpArgs false
namespace PW
open Go.RowKit Reg Mem Net

noncomputable def sgB (T : Topo) (D : List Bool) (x y : Int) : Bool := (((validB T && fitsB T D) && !decide (x = y)) && uniqB T [] x y) && clearB D (spathL T [] x.toNat y.toNat)
theorem uniq_sp {T : Topo} {D : List Bool} {x y : Int} (h : uniqB T D x y = true) : spE T D x y = 0 := by
  unfold uniqB at h
  rw [Bool.and_eq_true, decide_eq_true_eq, decide_eq_true_eq] at h
  obtain ⟨h1, h2⟩ := h
  obtain ⟨hv, hf, hn, hd⟩ := nodeE_zero h1
  rw [nodeB_iff] at hn hd
  obtain ⟨a, rfl⟩ := Int.eq_ofNat_of_zero_le hn.1
  obtain ⟨b, rfl⟩ := Int.eq_ofNat_of_zero_le hd.1
  simp only [Int.toNat_natCast] at h2
  unfold spE
  rw [if_pos h1, if_neg]
  simp only [Int.toNat_natCast]
  intro h0
  rw [cnt_unr hv hd.2 hn.2 h0] at h2
  omega
set_option maxRecDepth 10000 in
set_option maxHeartbeats 1000000 in
theorem rsseg_can (T : Topo) (D : List Bool) (x y : Int) (h12 : T.nodes ≤ 12) : Can Tryz.prog 28 [topoV T, boolsV D, num x, num y] (· = flag (sgB T D x y)) := by
  obtain ⟨q1, hq1⟩ : ∃ q, (validB T && fitsB T D) = q := ⟨_, rfl⟩
  obtain ⟨q3, hq3⟩ : ∃ q, decide (x = y) = q := ⟨_, rfl⟩
  obtain ⟨q4, hq4⟩ : ∃ q, uniqB T [] x y = q := ⟨_, rfl⟩
  have hS : sgB T D x y = (((q1 && !q3) && q4) && clearB D (spathL T [] x.toNat y.toNat)) := by unfold sgB; rw [hq1, hq3, hq4]
  rw [hS]
  refine can_of Tryz.func28 rfl Tryz.ntmps28 rfl ?_
  refine W_cs (.a 2 rfl <| .k [1, 2, 3, 4] rfl) ?_
  refine W_seq ?_
  refine W_csK 26 (.raw (.bool (((!q1) || q3) || !q4))) [1, 2, 3, 4] rfl ?_ ?_
  · refine .a 2 rfl <| .c rfl (hq1 ▸ rfits_can T D) rfl <| .a 2 rfl <| ?_
    cases q1
    · exact .a 11 rfl <| .k [26, 1, 2, 3, 4] rfl
    · refine .a 2 rfl <| .v (y_q rfl (hq3)) rfl <| .a 2 rfl <| ?_
      cases q3
      · exact .a 3 rfl <| .v (y_cP rfl (PurL.cons Pur.pure <| PurL.cons Pur.nils <| PurL.cons Pur.pure <| PurL.cons Pur.pure PurL.nil) (hq4 ▸ runique_can T [] x y h12)) rfl <| .a 2 rfl <| .k [26, 1, 2, 3, 4] rfl
      · exact .a 6 rfl <| .k [26, 1, 2, 3, 4] rfl
  refine W_cond rfl (fun hc => ?_) (fun hc => ?_)
  · skip
    refine W_cs (.a 1 rfl <| .k [8] rfl) ?_
    refine W_ret ?_
    exact ⟨_, _, ResL.of rfl, Pur.pure, by cases q1 <;> cases q3 <;> cases q4 <;> first | rfl | cases hc⟩
  · have h4 : q1 = true ∧ q3 = false ∧ q4 = true := by cases q1 <;> cases q3 <;> cases q4 <;> first | exact ⟨rfl, rfl, rfl⟩ | cases hc
    obtain ⟨rfl, rfl, rfl⟩ := h4
    obtain ⟨hv, hf⟩ := Bool.and_eq_true_iff.1 hq1
    have hsp := rspath_can T [] x y
    have hs0 := uniq_sp hq4
    rw [hs0] at hsp
    obtain ⟨xa, yb, hxa, hyb, hxN, hyN, _, hpath⟩ := spE_facts hs0
    have hlt := hpath.len_lt hv hyN
    have hu := rclear_can T D (spathL T [] x.toNat y.toNat) hf hpath.ch.arcs (by omega)
    obtain ⟨p1, hp1⟩ : ∃ q, decide ((0 : Int) = 0) = q := ⟨_, rfl⟩
    have hpt : p1 = true := by rw [← hp1]; rfl
    obtain ⟨p2, hp2⟩ : ∃ q, clearB D (spathL T [] x.toNat y.toNat) = q := ⟨_, rfl⟩
    rw [hp2] at hu ⊢
    refine W_skip ?_
    refine W_cs (.a 3 rfl <| .v (y_cP rfl (PurL.cons Pur.pure <| PurL.cons Pur.nils <| PurL.cons Pur.pure <| PurL.cons Pur.pure PurL.nil) (hsp)) rfl <| .a 5 rfl <| .k [1, 9, 10] rfl) ?_
    refine W_csK 8 (.raw (.bool (p1 && p2))) [] rfl ?_ ?_
    · refine .a 1 rfl <| .v (y_q rfl (hp1)) rfl <| .a 1 rfl <| ?_
      cases p1
      · exact .a 5 rfl <| .k [8] rfl
      · exact .a 2 rfl <| .c rfl (hu) rfl <| .a 2 rfl <| .k [8] rfl
    refine W_ret ?_
    exact ⟨_, _, ResL.of rfl, Pur.pure, by rw [hpt]; rfl⟩
section
variable {T : Topo} {D : List Bool} {n : Int} {p : List Int}
theorem stands_cov (h : Fol T D n p) {i k x y : Nat} (hik : i < k) (hk : k ≤ p.length) (hx : endL T n (p.take i) = (x : Int)) (hy : endL T n (p.take k) = (y : Int)) : (sgB T D x y && sameB (spathL T [] x y) (partL p i k)) = covB T [] n p i k := by
  have hb := h.bare
  have ha := h.arcs
  have hv := h.valid
  obtain ⟨x', hx', hxN⟩ := end_node hv h.node ha i (by omega)
  obtain ⟨y', hy', hyN⟩ := end_node hv h.node ha k hk
  have e1 : x' = x := by omega
  have e2 : y' = y := by omega
  subst e1
  subst e2
  rw [Bool.eq_iff_iff, cov_sp hb (by omega) hk hx hy]
  unfold sgB sameB
  simp only [Int.toNat_natCast, Bool.and_eq_true, Bool.not_eq_true', decide_eq_true_eq, decide_eq_false_iff_not]
  constructor
  · rintro ⟨⟨⟨_, h3⟩, h4⟩, h5⟩
    exact ⟨uniq_sp h3, h3, h5⟩
  · rintro ⟨h1, h2, h3⟩
    refine ⟨⟨⟨⟨⟨hv, h.fits⟩, fun e => ?_⟩, h2⟩, ?_⟩, h3⟩
    · have e2 : x' = y' := by omega
      subst e2
      rw [spE_zero hv (fits_nil T) hxN hxN] at h1
      have hsp := spath_sp (D := []) hv hxN hxN (by split at h1 <;> omega)
      have h6 := hsp.self
      rw [h6] at h3
      have := part_len p (show i ≤ k by omega) hk
      rw [← h3] at this
      simp at this
      omega
    · rw [h3, clear_iff]
      exact fun a ha => h.up a (part_mem ha)
end
set_option maxRecDepth 10000 in
set_option maxHeartbeats 1000000 in
theorem stands_can (T : Topo) (D : List Bool) (n : Int) (p : List Int) (h : Fol T D n p) (h12 : T.nodes ≤ 12) (hp : p.length ≤ 1000) {i k : Nat} (hik : i < k) (hk : k ≤ p.length) : Can Tryz.prog 111 [topoV T, boolsV D, intsV (partL p i k)] (· = flag (covB T [] n p i k)) := by
  have ha := h.arcs
  have hv := h.valid
  obtain ⟨x, hx, hxN⟩ := end_node hv h.node ha i (by omega)
  obtain ⟨y, hy, hyN⟩ := end_node hv h.node ha k hk
  rw [← stands_cov h hik hk hx hy]
  have hpl := part_len p (show i ≤ k by omega) hk
  obtain ⟨q, hq⟩ : ∃ q, partL p i k = q := ⟨_, rfl⟩
  have htl := part_tail h (show i < p.length by omega) hx
  have hed := endL_step T n p (k - 1) (by omega)
  rw [show k - 1 + 1 = k by omega, hy] at hed
  have h1 : q.getD 0 0 = p.getD i 0 := by rw [← hq, part_first p hik hk]
  have h2 : q.getD (q.length - 1) 0 = p.getD (k - 1) 0 := by rw [← hq, hpl, part_get p (by omega)]; congr 1; omega
  have hqa : ∀ a ∈ q, arcB T a = true := fun a h => ha a (part_mem (by rw [hq]; exact h))
  rw [hq] at hpl ⊢
  have ht := rtailI_can T hv _ (hqa _ (getD_mem (d := 0) (show 0 < q.length by omega)))
  have hh := rheadI_can T hv _ (hqa _ (getD_mem (d := 0) (show q.length - 1 < q.length by omega)))
  rw [h1, htl] at ht
  rw [h2, ← hed] at hh
  obtain ⟨s, hs⟩ : ∃ s, sgB T D x y = s := ⟨_, rfl⟩
  rw [hs]
  refine can_of Tryz.func111 rfl Tryz.ntmps111 rfl ?_
  refine W_cs (.a 2 rfl <| .k [1, 2, 3] rfl) ?_
  refine W_drs mixed (by kernel_rfl) (.a 2 rfl <| .v [12] (y_ix (0) rfl) rfl rfl <| .v [13] (y_ld rfl ((ints_get q 0 (by omega)).trans (by rw [h1]))) rfl rfl <| .v [11, 14] (y_c rfl (ht)) rfl rfl <| .a 4 rfl <| .v [19] (y_ar rfl) rfl rfl <| .v [17, 20] (y_ix ((q.length - 1)) rfl) rfl rfl <| .v [21] (y_ld rfl ((ints_get q (q.length - 1) (by omega)).trans (by rw [h2]))) rfl rfl <| .v [16, 22] (y_c rfl (hh)) rfl rfl <| .a 2 rfl <| .k [1, 2, 3, 7, 8] rfl) ?_
  refine W_seq ?_
  refine W_cs (.a 4 rfl <| .c rfl (hs ▸ rsseg_can T D x y h12) rfl <| .a 1 rfl <| .k [2, 3, 7, 8, 29] rfl) ?_
  refine W_cond rfl (fun hc => ?_) (fun hc => ?_)
  · have h3 : s = false := by simpa using hc
    subst h3
    refine W_cs (.a 1 rfl <| .k [6] rfl) ?_
    refine W_ret ?_
    exact ⟨_, _, ResL.of rfl, Pur.pure, rfl⟩
  · have h3 : s = true := by simpa using hc
    subst h3
    have hu : uniqB T [] x y = true := by
      unfold sgB at hs
      simp only [Bool.and_eq_true] at hs
      exact hs.1.2
    have hsp := rspath_can T [] (x : Int) (y : Int)
    rw [uniq_sp hu] at hsp
    simp only [Int.toNat_natCast] at hsp
    refine W_skip ?_
    refine W_cs (.a 3 rfl <| .v (y_cP rfl (PurL.cons Pur.pure <| PurL.cons Pur.nils <| PurL.cons Pur.pure <| PurL.cons Pur.pure PurL.nil) (hsp)) rfl <| .a 5 rfl <| .k [2, 9] rfl) ?_
    refine W_cs (.a 2 rfl <| .c rfl (rsame_can (spathL T [] x y) q) rfl <| .a 1 rfl <| .k [6] rfl) ?_
    refine W_ret ?_
    exact ⟨_, _, ResL.of rfl, Pur.pure, rfl⟩
section
variable {P : Program} {σ : Sto} {t : Tms} {o : Oper}
theorem y_pHi {ty e i j : Nat} {z : Int} {x hi' : Operand} {L : List Int} (ho : o.op = .slice ty x none (some hi') none) (he : elK P ty = some (e, 1)) (hx : evalO t x = some (intsV (L.drop i))) (hhi : evalO t hi' = some (num z)) (hz : z = (j : Int) - i) (hij : i ≤ j) (hj : j ≤ L.length) : Yield P σ t o (intsV (partL L i j)) := by
  have hl : (L.drop i).length = L.length - i := by simp
  have := y_sliceHi (σ := σ) (h := j - i) ho he hx hhi (by rw [intsP_len]; omega) (by omega) (by omega)
  have e1 : intsV (partL L i j) = .slice (j - i) ((intsP (L.drop i)).take ((j - i) * 1)) := by
    unfold intsV
    rw [part_len L hij hj, Nat.mul_one]
    unfold intsP partL
    rw [List.map_take]
  rw [e1]
  exact this
theorem y_pLo {ty e i j : Nat} {z : Int} {x lo : Operand} {L : List Int} (ho : o.op = .slice ty x (some lo) none none) (he : elK P ty = some (e, 1)) (hx : evalO t x = some (intsV (L.drop i))) (hlo : evalO t lo = some (num z)) (hz : z = (j : Int) - i) (hij : i ≤ j) (hj : j ≤ L.length) : Yield P σ t o (intsV (L.drop j)) := by
  have hl : (L.drop i).length = L.length - i := by simp
  have := y_sliceLo (σ := σ) (l := j - i) ho he hx hlo (by rw [intsP_len]; omega) (by omega) (by omega)
  have e1 : intsV (L.drop j) = .slice ((L.drop i).length - (j - i)) (((intsP (L.drop i)).drop ((j - i) * 1)).take (((L.drop i).length - (j - i)) * 1)) := by
    have h2 : L.drop j = (L.drop i).drop (j - i) := by rw [List.drop_drop]; congr 1; omega
    rw [h2]
    unfold intsV
    rw [List.length_drop, Nat.mul_one, Nat.mul_one]
    unfold intsP
    rw [← List.map_drop, List.take_of_length_le (by simp; omega)]
  rw [e1]
  exact this
end
theorem drop_get (p : List Int) (i k : Nat) : (p.drop i).getD k 0 = p.getD (i + k) 0 := by rw [List.getD_eq_getElem?_getD, List.getElem?_drop, List.getD_eq_getElem?_getD]
end PW
end Go.Proofs.YtbpgndbjbaoolaaGreat

/- Stable lists: the reference's part and Check, package stable's Check. -/
namespace Go.Proofs.YtbpgndbjbaoolaaGreat
set_option linter.unusedVariables false
set_option linter.unusedSimpArgs false
namespace PW
open Go.RowKit Reg Mem Net

/-- The first index from j on whose node is x and up to which the path from i is covered. -/
noncomputable def fstP (T : Topo) (n : Int) (p : List Int) (x : Int) (i : Nat) : Nat → Nat → Option Nat
  | 0, _ => none
  | f + 1, j => if endL T n (p.take j) = x ∧ covB T [] n p i j = true then some j else fstP T n p x i f (j + 1)
/-- Where a stable segment leads from i. -/
noncomputable def stepP (T : Topo) (n : Int) (p : List Int) (i : Nat) (s : Seg) : Option Nat :=
  if s.kind = 2 ∧ i < p.length ∧ p.getD i 0 = s.num then some (i + 1)
  else if s.kind = 1 then fstP T n p s.num i (p.length - i) (i + 1)
  else none
noncomputable def ckB (T : Topo) (n : Int) (p : List Int) : Nat → List Seg → Bool
  | i, [] => decide (i = p.length)
  | i, s :: l => match stepP T n p i s with
    | some j => ckB T n p j l
    | none => false
def lenP (o : Option Nat) (i : Nat) : Int := match o with
  | some j => (j : Int) - i
  | none => 0
/-- No node segment leads from a node to itself. -/
def noDeg (T : Topo) : Int → List Seg → Bool
  | _, [] => true
  | x, s :: l => if s.kind = 1 ∧ s.num = x then false else noDeg T (endS T s x).1 l
section
variable {T : Topo} {n : Int} {p : List Int}
theorem fstP_some {x : Int} {i : Nat} : ∀ (f j k : Nat), fstP T n p x i f j = some k → j ≤ k ∧ k < j + f ∧ endL T n (p.take k) = x ∧ covB T [] n p i k = true ∧ ∀ m, j ≤ m → m < k → ¬ (endL T n (p.take m) = x ∧ covB T [] n p i m = true)
  | 0, j, k, h => by simp [fstP] at h
  | f + 1, j, k, h => by
    simp only [fstP] at h
    split at h
    · rename_i h1; cases h; exact ⟨Nat.le_refl _, by omega, h1.1, h1.2, fun m h2 h3 => by omega⟩
    · rename_i h1
      obtain ⟨a, b, c, d, e⟩ := fstP_some f (j + 1) k h
      refine ⟨by omega, by omega, c, d, fun m h2 h3 => ?_⟩
      by_cases hm : m = j
      · subst hm; exact h1
      · exact e m (by omega) h3
theorem fstP_is {x : Int} {i : Nat} : ∀ (f j k : Nat), j ≤ k → k < j + f → endL T n (p.take k) = x → covB T [] n p i k = true → (∀ m, j ≤ m → m < k → ¬ (endL T n (p.take m) = x ∧ covB T [] n p i m = true)) → fstP T n p x i f j = some k
  | 0, j, k, h1, h2, _, _, _ => by omega
  | f + 1, j, k, h1, h2, h3, h4, h5 => by
    simp only [fstP]
    by_cases e : j = k
    · subst e; rw [if_pos ⟨h3, h4⟩]
    · rw [if_neg (h5 j (Nat.le_refl _) (by omega))]
      exact fstP_is f (j + 1) k (by omega) (by omega) h3 h4 (fun m h6 h7 => h5 m (by omega) h7)
theorem fstP_none {x : Int} {i : Nat} : ∀ (f j : Nat), (∀ m, j ≤ m → m < j + f → ¬ (endL T n (p.take m) = x ∧ covB T [] n p i m = true)) → fstP T n p x i f j = none
  | 0, j, _ => rfl
  | f + 1, j, h => by
    simp only [fstP]
    rw [if_neg (h j (Nat.le_refl _) (by omega))]
    exact fstP_none f (j + 1) (fun m h1 h2 => h m (by omega) (by omega))
/-- A stable step is a step that moves. -/
theorem step_iff (h : Fol T [] n p) {i : Nat} (hi : i ≤ p.length) (s : Seg) (j : Nat) : stepP T n p i s = some j ↔ stepX T [] n p i s = some j ∧ ¬ (s.kind = 1 ∧ s.num = endL T n (p.take i)) := by
  unfold stepP stepX
  by_cases h1 : s.kind = 2 ∧ i < p.length ∧ p.getD i 0 = s.num
  · rw [if_pos h1, if_pos h1]
    constructor
    · intro e; exact ⟨e, fun e2 => by omega⟩
    · intro e; exact e.1
  · rw [if_neg h1, if_neg h1]
    by_cases h2 : s.kind = 1
    · rw [if_pos h2, if_pos h2]
      constructor
      · intro e
        obtain ⟨a, b, c, d, _⟩ := fstP_some _ _ _ e
        have hf := cov_first h (show i ≤ j by omega) (by omega) d
        rw [c] at hf
        rw [hf, if_pos ⟨c, d⟩]
        refine ⟨rfl, fun e2 => ?_⟩
        have := fst_is (T := T) (n := n) (p := p) s.num (p.length - i) i i (Nat.le_refl _) (by omega) e2.2.symm (fun k h3 h4 => by omega)
        omega
      · rintro ⟨e1, e2⟩
        split at e1
        · rename_i h3
          simp only [Option.some.injEq] at e1
          have hge := fst_ge (T := T) (n := n) (p := p) s.num (p.length - i) i
          have hno := fst_no (T := T) (n := n) (p := p) s.num (p.length - i) i
          rw [e1] at h3 hge hno
          have hne : i ≠ j := fun e => e2 ⟨h2, by rw [e]; exact h3.1.symm⟩
          exact fstP_is _ _ _ (by omega) (by omega) h3.1 h3.2 (fun m h4 h5 h6 => hno m (by omega) h5 h6.1)
        · cases e1
    · rw [if_neg h2, if_neg h2]
      simp
theorem step_end (h : Fol T [] n p) {i j : Nat} (hi : i ≤ p.length) {s : Seg} (hst : stepX T [] n p i s = some j) : (endS T s (endL T n (p.take i))).1 = endL T n (p.take j) ∧ (endS T s (endL T n (p.take i))).2 = 0 ∧ j ≤ p.length := by
  have ha := h.arcs
  have hv := h.valid
  obtain ⟨x, hx, hxN⟩ := end_node hv h.node ha i hi
  have hnb : nodeB T (x : Int) = true := nodeB_iff.2 ⟨by omega, hxN⟩
  rw [hx]
  have hss := hst
  unfold stepX at hst
  split at hst
  · rename_i h1
    cases hst
    have hab := ha _ (getD_mem (d := 0) h1.2.1)
    have htl := part_tail h h1.2.1 hx
    have hed := endL_step T n p i h1.2.1
    rw [h1.2.2] at hab htl hed
    have hsg : segB T s = true := by unfold segB; rw [if_neg (by omega), if_pos h1.1]; exact hab
    have hes : endS T s x = (endL T n (p.take (i + 1)), 0) := by
      unfold endS
      rw [if_neg (by rw [hsg]; simp), if_neg (by rw [hnb]; simp), if_neg (by omega), if_pos h1.1, if_neg (by rw [htl]; simp), hed]
    rw [hes]
    exact ⟨rfl, rfl, h1.2.1⟩
  · split at hst
    · rename_i h2
      split at hst
      · rename_i h3
        simp only [Option.some.injEq] at hst
        have hge := fst_ge (T := T) (n := n) (p := p) s.num (p.length - i) i
        rw [hst] at h3 hge
        obtain ⟨y, hy, hyN⟩ := end_node hv h.node ha j (by omega)
        have hsy : s.num = (y : Int) := by rw [← h3.1]; exact hy
        have hsg : segB T s = true := by unfold segB; rw [if_pos h2, hsy]; exact nodeB_iff.2 ⟨by omega, hyN⟩
        have hes : endS T s x = (s.num, 0) := by
          unfold endS
          rw [if_neg (by rw [hsg]; simp), if_neg (by rw [hnb]; simp), if_pos h2]
        rw [hes]
        exact ⟨h3.1.symm, rfl, by omega⟩
      · cases hst
    · cases hst
/-- A list is stable if and only if it is exact without the mask, and moves. -/
theorem ck_iff (h : Fol T [] n p) : ∀ (l : List Seg) (i : Nat), i ≤ p.length → ckB T n p i l = (exB T [] n p i l && noDeg T (endL T n (p.take i)) l)
  | [], i, hi => by simp [ckB, exB, noDeg]
  | s :: l, i, hi => by
    simp only [ckB, exB, noDeg]
    cases hX : stepX T [] n p i s with
    | none =>
      have hP : stepP T n p i s = none := by
        cases hP : stepP T n p i s with
        | none => rfl
        | some j => have := ((step_iff h hi s j).1 hP).1; rw [hX] at this; cases this
      rw [hP]
      rfl
    | some j =>
      obtain ⟨e1, e2, e3⟩ := step_end h hi hX
      by_cases hd : s.kind = 1 ∧ s.num = endL T n (p.take i)
      · have hP : stepP T n p i s = none := by
          cases hP : stepP T n p i s with
          | none => rfl
          | some j => exact absurd hd ((step_iff h hi s j).1 hP).2
        rw [hP, if_pos hd]
        simp
      · rw [(step_iff h hi s j).2 ⟨hX, hd⟩, if_neg hd, e1]
        simp only
        exact ck_iff h l j e3
theorem deg_lst (h : Fol T [] n p) : ∀ (f i : Nat), i ≤ p.length → noDeg T (endL T n (p.take i)) (lstF T [] n p f i) = true
  | f, i, hi => by
    by_cases hlt : i < p.length
    · cases f with
      | zero => rfl
      | succ f =>
        cases ht : topD (covB T [] n p i) i p.length with
        | none =>
          rw [lst_none hlt (fun k h1 h2 => topD_isNone _ ht k h1 h2)]
          have hst : stepX T [] n p i ⟨2, p.getD i 0⟩ = some (i + 1) := by unfold stepX; rw [if_pos ⟨rfl, hlt, rfl⟩]
          simp only [noDeg]
          rw [if_neg (by rintro ⟨h1, _⟩; omega), (step_end h hi hst).1]
          exact deg_lst h f (i + 1) (by omega)
        | some j =>
          obtain ⟨t1, t2, t3, t4⟩ := topD_is _ _ ht
          rw [lst_some hlt t1 t2 t3 t4]
          have hf := cov_first h (show i ≤ j by omega) t2 t3
          have hst : stepX T [] n p i ⟨1, endL T n (p.take j)⟩ = some j := by
            unfold stepX
            simp only
            rw [if_neg (by omega), if_pos trivial, hf, if_pos ⟨rfl, t3⟩]
          simp only [noDeg]
          rw [if_neg, (step_end h hi hst).1]
          · exact deg_lst h f j t2
          · rintro ⟨_, h2⟩
            have := fst_is (T := T) (n := n) (p := p) (endL T n (p.take j)) (p.length - i) i i (Nat.le_refl _) (by omega) h2.symm (fun k h3 h4 => by omega)
            omega
    · rw [lst_end f i (by omega)]
      rfl
end
set_option maxRecDepth 10000 in
set_option maxHeartbeats 2000000 in
theorem rpart_can (T : Topo) (D : List Bool) (n : Int) (p : List Int) (hF : Fol T D n p) (h12 : T.nodes ≤ 12) (hp : p.length ≤ 1000) (s : Seg) {i : Nat} (hi : i ≤ p.length) : Can Tryz.prog 68 [topoV T, boolsV D, segV s, intsV (p.drop i)] (· = num (lenP (stepP T n p i s) i)) := by
  have hv := hF.valid
  have ha := hF.arcs
  have hdl : (p.drop i).length = p.length - i := by simp
  obtain ⟨q1, hq1⟩ : ∃ q, decide (s.kind = 2) = q := ⟨_, rfl⟩
  obtain ⟨q2, hq2⟩ : ∃ q, decide ((0 : Int) < (p.drop i).length) = q := ⟨_, rfl⟩
  obtain ⟨q3, hq3⟩ : ∃ q, decide (p.getD i 0 = s.num) = q := ⟨_, rfl⟩
  refine can_of Tryz.func68 rfl Tryz.ntmps68 rfl ?_
  refine W_cs (.a 3 rfl <| .k [1, 3, 4, 6] rfl) ?_
  refine W_seq ?_
  refine W_drsK mixed (by kernel_rfl) 25 (.raw (.bool ((q1 && q2) && q3))) [1, 3, 4, 6] rfl ?_ ?_
  · refine .a 2 rfl <| .v [11] (y_q rfl (hq1)) rfl rfl <| .a 1 rfl <| ?_
    cases q1
    · exact .a 12 rfl <| .k [25, 1, 3, 4, 6] rfl
    · refine .a 2 rfl <| .v [15] (y_q rfl (hq2)) rfl rfl <| .a 2 rfl <| ?_
      cases q2
      · exact .a 7 rfl <| .k [25, 1, 3, 4, 6] rfl
      · exact .a 1 rfl <| .v [19] (y_ix (0) rfl (by omega) (by have := tt hq2; omega)) rfl rfl <| .v [20] (y_ld rfl ((ints_get (p.drop i) 0 (by have := tt hq2; omega)).trans (by rw [drop_get, Nat.add_zero]))) rfl rfl <| .a 2 rfl <| .v [21, 23] (y_q rfl (hq3)) rfl rfl <| .a 1 rfl <| .k [25, 1, 3, 4, 6] rfl
  refine W_cond rfl (fun h2 => ?_) (fun h2 => ?_)
  · have hst : stepP T n p i s = some (i + 1) := by
      simp only [Bool.and_eq_true] at h2
      obtain ⟨⟨rfl, rfl⟩, rfl⟩ := h2
      unfold stepP
      rw [if_pos ⟨tt hq1, by have := tt hq2; omega, tt hq3⟩]
    refine W_cs (.a 1 rfl <| .k [8] rfl) ?_
    refine W_ret ?_
    exact ⟨_, _, ResL.of rfl, Pur.pure, by rw [hst]; simp only [lenP]; rw [show ((i + 1 : Nat) : Int) - i = 1 by omega]; rfl⟩
  · have hn2 : ¬ (s.kind = 2 ∧ i < p.length ∧ p.getD i 0 = s.num) := by
      rintro ⟨e1, e2, e3⟩
      rw [decide_eq_true e1] at hq1
      rw [decide_eq_true (by omega)] at hq2
      rw [decide_eq_true e3] at hq3
      subst hq1
      subst hq2
      subst hq3
      cases h2
    clear hq1 hq2 hq3
    obtain ⟨g1, hg1⟩ : ∃ q, decide (s.kind = 1) = q := ⟨_, rfl⟩
    refine W_skip ?_
    refine W_seq ?_
    refine W_cs (.a 1 rfl <| .k [1, 3, 4, 6, 9] rfl) ?_
    refine W_block ?_
    refine W_k [1, 3, 4, 6, 9] rfl ?_
    refine W_loop (fun r st => ∃ m : Nat, i ≤ m ∧ m ≤ p.length ∧ r = p.length - m ∧ (∀ k, i + 1 ≤ k → k ≤ m → ¬ (endL T n (p.take k) = s.num ∧ covB T [] n p i k = true)) ∧ st = ⟨[(1, boolsV D), (3, intsV (p.drop i)), (4, .pin (topoP T) 0), (6, .pin (segP s) 0), (9, num ((m : Int) + 1 - i))], []⟩) (p.length - i) ⟨i, by omega, hi, rfl, fun k h3 h4 => by omega, by rw [show (i : Int) + 1 - i = 1 by omega]⟩ ?_
    rintro r st ⟨m, him, hm, rfl, hno, rfl⟩
    obtain ⟨g2, hg2⟩ : ∃ q, decide ((m : Int) + 1 - i ≤ ((p.drop i).length : Int)) = q := ⟨_, rfl⟩
    refine W_seq ?_
    refine W_csK 34 (.raw (.bool (g1 && g2))) [1, 3, 4, 6, 9] rfl ?_ ?_
    · refine .a 2 rfl <| .v (y_q rfl (hg1)) rfl <| .a 1 rfl <| ?_
      cases g1
      · exact .a 5 rfl <| .k [34, 1, 3, 4, 6, 9] rfl
      · exact .a 3 rfl <| .v (y_q rfl (hg2)) rfl <| .a 1 rfl <| .k [34, 1, 3, 4, 6, 9] rfl
    refine W_cond rfl (fun h3 => ?_) (fun h3 => ?_)
    · simp only [Bool.and_eq_true] at h3
      obtain ⟨rfl, rfl⟩ := h3
      have hk1 : s.kind = 1 := tt hg1
      have hlt2 : m + 1 ≤ p.length := by have := tt hg2; omega
      have hed := endL_step T n p m (by omega)
      have hhd := rheadI_can T hv (p.getD m 0) (ha _ (getD_mem (by omega)))
      rw [← hed] at hhd
      have hgd : (p.drop i).getD (m - i) 0 = p.getD m 0 := by rw [drop_get]; congr 1; omega
      obtain ⟨c1, hc1⟩ : ∃ q, decide (endL T n (p.take (m + 1)) = s.num) = q := ⟨_, rfl⟩
      obtain ⟨c2, hc2⟩ : ∃ q, covB T [] n p i (m + 1) = q := ⟨_, rfl⟩
      have hco := stands_can T D n p hF h12 hp (i := i) (k := m + 1) (by omega) hlt2
      rw [hc2] at hco
      refine W_skip ?_
      refine W_seq ?_
      refine W_block ?_
      refine W_drsK mixed (by kernel_rfl) 54 (.raw (.bool (c1 && c2))) [1, 3, 4, 6, 9] rfl ?_ ?_
      · refine .a 3 rfl <| .v [39] (y_ar rfl (hc := (show (m : Int) + 1 - i - 1 = ((m - i : Nat) : Int) by omega))) rfl rfl <| .v [38, 40] (y_ix ((m - i)) rfl) rfl rfl <| .v [41] (y_ld rfl ((ints_get (p.drop i) (m - i) (by omega)).trans (by rw [hgd]))) rfl rfl <| .v [37, 42] (y_c rfl (hhd)) rfl rfl <| .a 2 rfl <| .v [43, 45] (y_q rfl (hc1)) rfl rfl <| .a 1 rfl <| ?_
        cases c1
        · exact .a 7 rfl <| .k [54, 1, 3, 4, 6, 9] rfl
        · exact .a 4 rfl <| .v [50, 51] (y_pHi (j := m + 1) rfl (fok.el.get rfl) rfl rfl (by omega) (by omega) hlt2) rfl rfl <| .v [48, 49, 52] (y_c rfl (hco)) rfl rfl <| .a 1 rfl <| .k [54, 1, 3, 4, 6, 9] rfl
      refine W_cond rfl (fun h4 => ?_) (fun h4 => ?_)
      · simp only [Bool.and_eq_true] at h4
        obtain ⟨rfl, rfl⟩ := h4
        have hst : stepP T n p i s = some (m + 1) := by
          unfold stepP
          rw [if_neg hn2, if_pos hk1]
          exact fstP_is _ _ _ (by omega) (by omega) (tt hc1) hc2 (fun k h5 h6 => hno k h5 (by omega))
        refine W_cs (.a 2 rfl <| .k [8] rfl) ?_
        refine W_ret ?_
        exact ⟨_, _, ResL.of rfl, Pur.pure, by rw [hst]; simp only [lenP]; rw [show ((m + 1 : Nat) : Int) - i = (m : Int) + 1 - i by omega]; rfl⟩
      · have hno2 : ¬ (endL T n (p.take (m + 1)) = s.num ∧ covB T [] n p i (m + 1) = true) := by
          rintro ⟨e1, e2⟩
          rw [decide_eq_true e1] at hc1
          rw [e2] at hc2
          subst hc1
          subst hc2
          cases h4
        refine W_skip ?_
        refine W_chain (.a 1 rfl <| .v (y_ar rfl) rfl <| .a 1 rfl <| .k [1, 3, 4, 6, 9] rfl) ?_
        refine ⟨p.length - (m + 1), by omega, m + 1, by omega, hlt2, rfl, fun k h5 h6 => ?_, ?_⟩
        · by_cases e : k = m + 1
          · subst e; exact hno2
          · exact hno k h5 (by omega)
        · rw [show ((m + 1 : Nat) : Int) + 1 - i = (m : Int) + 1 - i + 1 by omega]
    · have hst : stepP T n p i s = none := by
        unfold stepP
        rw [if_neg hn2]
        by_cases hk : s.kind = 1
        · rw [if_pos hk]
          rw [decide_eq_true hk] at hg1
          subst hg1
          rw [Bool.true_and] at h3
          subst h3
          have := ff hg2
          exact fstP_none _ _ (fun k h4 h5 => hno k h4 (by omega))
        · rw [if_neg hk]
      refine W_exit ?_
      refine W_cs (.a 1 rfl <| .k [8] rfl) ?_
      refine W_ret ?_
      exact ⟨_, _, ResL.of rfl, Pur.pure, by rw [hst]; rfl⟩
noncomputable def ckE (T : Topo) (D : List Bool) (l : List Seg) (n : Int) (p : List Int) : Bool := if folE T D n p = 0 then ckB T n p 0 l else false
set_option maxRecDepth 10000 in
set_option maxHeartbeats 2000000 in
theorem rck_can (T : Topo) (D : List Bool) (l : List Seg) (n : Int) (p : List Int) (hp : p.length ≤ 1000) (h12 : T.nodes ≤ 12) (hl : l.length ≤ 1000) : Can Tryz.prog 32 [topoV T, boolsV D, segsV l, num n, intsV p] (· = flag (ckE T D l n p)) := by
  refine can_of Tryz.func32 rfl Tryz.ntmps32 rfl ?_
  refine W_cs (.a 2 rfl <| .k [1, 2, 3, 4, 5] rfl) ?_
  refine W_seq ?_
  refine W_cs (.a 4 rfl <| .c rfl (rscheck_can T D p n hp) rfl <| .a 1 rfl <| .k [1, 2, 4, 5, 18] rfl) ?_
  refine W_cond rfl (fun hc => ?_) (fun hc => ?_)
  · have he : folE T D n p ≠ 0 := tt hc
    refine W_cs (.a 1 rfl <| .k [10] rfl) ?_
    refine W_ret ?_
    exact ⟨_, _, ResL.of rfl, Pur.pure, by unfold ckE; rw [if_neg he]; rfl⟩
  · have he : folE T D n p = 0 := Classical.byContradiction (ff hc)
    have hF := fol_of he
    have hX : ckE T D l n p = ckB T n p 0 l := by unfold ckE; rw [if_pos he]
    rw [hX]
    clear hc
    refine W_skip ?_
    refine W_seq ?_
    refine W_cs (.a 1 rfl <| .k [1, 2, 4, 5, 11] rfl) ?_
    refine W_block ?_
    refine W_k [1, 2, 4, 5, 11] rfl ?_
    refine W_loop (fun r st => ∃ (k i : Nat), k ≤ l.length ∧ i ≤ p.length ∧ r = l.length - k ∧ ckB T n p 0 l = ckB T n p i (l.drop k) ∧ st = ⟨[(1, boolsV D), (2, segsV l), (4, intsV (p.drop i)), (5, .pin (topoP T) 0), (11, num k)], []⟩) l.length ⟨0, 0, by omega, by omega, by omega, rfl, rfl⟩ ?_
    rintro r st ⟨k, i, hk, hi, rfl, hex, rfl⟩
    have hdl : (p.drop i).length = p.length - i := by simp
    refine W_seq ?_
    refine W_cs (.a 4 rfl <| .k [1, 2, 4, 5, 11, 22] rfl) ?_
    refine W_cond rfl (fun h1 => ?_) (fun h1 => ?_)
    · have hlt : k < l.length := by have := tt h1; omega
      obtain ⟨s, hs, hdr⟩ := segs_cons l k hlt
      rw [hdr] at hex
      simp only [ckB] at hex
      have hpa := rpart_can T D n p hF h12 hp s hi
      obtain ⟨o, ho⟩ : ∃ o, stepP T n p i s = o := ⟨_, rfl⟩
      obtain ⟨z, hz⟩ : ∃ z : Int, lenP o i = z := ⟨_, rfl⟩
      rw [ho] at hpa hex
      rw [hz] at hpa
      have hzo : z = 0 ↔ o = none := by
        cases o with
        | none => simp only [lenP] at hz; simp [hz]
        | some j =>
          have h2 := (step_iff hF.bare hi s j).1 ho
          have h3 := step_some hi h2.1
          have hne : j ≠ i := fun e => by
            rcases h3 with h3 | h3
            · omega
            · have h4 := ((step_iff hF.bare hi s j).1 ho)
              have h5 := step_end hF.bare hi h4.1
              unfold stepP at ho
              split at ho
              · cases ho; omega
              · split at ho
                · have := fstP_some _ _ _ ho; omega
                · cases ho
          simp only [lenP] at hz
          constructor
          · intro e; omega
          · intro e; cases e
      refine W_skip ?_
      refine W_seq ?_
      refine W_block ?_
      refine W_drs mixed (by kernel_rfl) (.a 4 rfl <| .v [27, 28] (y_ix ((k * 2)) rfl) rfl rfl <| .v [29] (y_la rfl (segs_drop l k s hs) rfl) rfl rfl <| .a 1 rfl <| .v [25, 26, 30, 31] (y_c rfl (hpa)) rfl rfl <| .a 1 rfl <| .k [1, 2, 4, 5, 11, 12] rfl) ?_
      refine W_seq ?_
      refine W_cs (.a 2 rfl <| .k [1, 2, 4, 5, 11, 12, 34] rfl) ?_
      refine W_cond rfl (fun h2 => ?_) (fun h2 => ?_)
      · have hon := hzo.1 (tt h2)
        subst hon
        simp only at hex
        refine W_cs (.a 1 rfl <| .k [10] rfl) ?_
        refine W_ret ?_
        exact ⟨_, _, ResL.of rfl, Pur.pure, by rw [hex]; rfl⟩
      · obtain ⟨j, rfl⟩ : ∃ j, o = some j := by
          cases o with
          | none => exact absurd (hzo.2 rfl) (ff h2)
          | some j => exact ⟨j, rfl⟩
        simp only at hex
        simp only [lenP] at hz
        have hjj := step_some hi ((step_iff hF.bare hi s j).1 ho).1
        have hij : i ≤ j ∧ j ≤ p.length := by omega
        refine W_skip ?_
        refine W_chain (.a 2 rfl <| .v (y_pLo (j := j) rfl (fok.el.get rfl) rfl rfl hz.symm hij.1 hij.2) rfl <| .a 1 rfl <| .k [1, 2, 4, 5, 11] rfl) ?_
        refine W_chain (.a 1 rfl <| .v (y_ar rfl) rfl <| .a 1 rfl <| .k [1, 2, 4, 5, 11] rfl) ?_
        exact ⟨l.length - (k + 1), by omega, k + 1, j, by omega, hij.2, rfl, hex, rfl⟩
    · have hke : k = l.length := by have := ff h1; omega
      subst hke
      rw [List.drop_length] at hex
      simp only [ckB] at hex
      refine W_exit ?_
      refine W_cs (.a 4 rfl <| .k [10] rfl) ?_
      refine W_ret ?_
      refine ⟨_, _, ResL.of rfl, Pur.pure, ?_⟩
      rw [hex]
      exact congrArg (fun b => flag b) (decide_eq_decide.2 (by omega))
end PW
end Go.Proofs.YtbpgndbjbaoolaaGreat

/- Package postconv: Path. -/
namespace Go.Proofs.YtbpgndbjbaoolaaGreat
set_option linter.unusedVariables false
set_option linter.unusedSimpArgs false
namespace PW
open Go.RowKit Reg Mem Net Rng

set_option maxRecDepth 10000 in
set_option maxHeartbeats 1000000 in
theorem pcfound_can (p : List Int) (u : PV) : CanS Tryz.prog 113 [intsV p, .ptr 0 0] [some (.cells 33 [u])] (fun r σ' => r = .tuple [] ∧ σ' = [some (.cells 33 [intsV p])]) := by
  refine canS_of Tryz.func113 rfl Tryz.ntmps113 rfl ?_
  refine W_region ?_
  refine WR_a 2 rfl <| WR_k [] rfl ?_
  exact ⟨_, ResL.of rfl, rfl, rfl⟩
set_option maxRecDepth 10000 in
set_option maxHeartbeats 1000000 in
theorem pcfind_can (T : Topo) (D : List Bool) (n d : Int) : CanS Tryz.prog 112 [topoV T, boolsV D, num n, num d, .func 113 [.ptr 0 0]] [some (.cells 33 [.raw (.slice none 0 0)])] (fun r σ' => r = num (spE T D n d) ∧ σ' = [some (.cells 33 [if spE T D n d = 0 then intsV (spathL T D n.toNat d.toNat) else .raw (.slice none 0 0)])]) := by
  refine canS_of Tryz.func112 rfl Tryz.ntmps112 rfl ?_
  refine W_cs (.a 2 rfl <| .k [1, 2, 3, 4, 5] rfl) ?_
  refine W_cs (.a 4 rfl <| .c rfl (spath_can T D n d) rfl <| .a 5 rfl <| .k [4, 11, 12] rfl) ?_
  refine W_seq ?_
  refine W_cs (.a 2 rfl <| .k [4, 11, 12, 22] rfl) ?_
  refine W_cond rfl (fun h1 => ?_) (fun h1 => ?_)
  · have he : spE T D n d = 0 := tt h1
    refine W_region ?_
    refine WR_a 2 rfl <| WR_cS rfl rfl (CanS.mono (pcfound_can _ _) (fun r σ' h => ?_))
    obtain ⟨rfl, rfl⟩ := h
    refine WR_k [12] rfl ?_
    refine W_cs (.a 2 rfl <| .k [10] rfl) ?_
    refine W_ret ?_
    first
      | exact ⟨_, ResL.of rfl, rfl, by rw [if_neg he]⟩
      | exact ⟨_, ResL.of rfl, rfl, by simp only [if_pos he]⟩
  · have he : ¬ spE T D n d = 0 := ff h1
    refine W_skip ?_
    refine W_cs (.a 2 rfl <| .k [10] rfl) ?_
    refine W_ret ?_
    first
      | exact ⟨_, ResL.of rfl, rfl, by rw [if_neg he]⟩
      | exact ⟨_, ResL.of rfl, rfl, by simp only [if_pos he]⟩
set_option maxRecDepth 10000 in
set_option maxHeartbeats 1000000 in
theorem pcpath_can (T : Topo) (D : List Bool) (n d : Int) : Can Tryz.prog 71 [topoV T, boolsV D, num n, num d] (· = intsE (spE T D n d) (spathL T D n.toNat d.toNat)) := by
  obtain ⟨u, hu⟩ : ∃ u : PV, (if spE T D n d = 0 then intsV (spathL T D n.toNat d.toNat) else .raw (.slice none 0 0)) = u := ⟨_, rfl⟩
  have hf := pcfind_can T D n d
  rw [hu] at hf
  refine can_of Tryz.func71 rfl Tryz.ntmps71 rfl ?_
  refine W_cs (.a 3 rfl <| .k [1, 2, 3, 4] rfl) ?_
  refine W_rs ?_
  refine WR_a 1 rfl <| WR_k [1, 2, 3, 4, 10] rfl ?_
  refine W_rs ?_
  refine WR_a 5 rfl <| WR_cS rfl rfl (CanS.mono hf (fun r σ' h => ?_))
  obtain ⟨rfl, rfl⟩ := h
  refine WR_a 1 rfl <| WR_k [10, 11] rfl ?_
  refine W_cs (.v (y_ld rfl ((show some u = some u from rfl))) rfl <| .a 3 rfl <| .k [8, 9] rfl) ?_
  refine W_ret ?_
  refine ⟨_, _, ResL.of rfl, Pur.tupleL (PurL.cons (y := intsV (if spE T D n d = 0 then spathL T D n.toNat d.toNat else [])) ?_ (PurL.cons Pur.pure PurL.nil)), rfl⟩
  rw [← hu]
  by_cases he : spE T D n d = 0
  · rw [if_pos he, if_pos he]; exact Pur.pure
  · rw [if_neg he, if_neg he]; exact Pur.nils
end PW
end Go.Proofs.YtbpgndbjbaoolaaGreat

/- Stable node segments: parts, fewer failures, next arcs. Plain mathematics. -/
namespace Go.Proofs.YtbpgndbjbaoolaaGreat
set_option linter.unusedVariables false
set_option linter.unusedSimpArgs false
namespace PW
open Go.RowKit Reg Mem Net

section
variable {T : Topo} {D : List Bool}
theorem ch_walkF {d : Nat} : ∀ {m : Nat} {q : List Int}, Ch T D d m q → (q = [] ∨ overN T m = false) → walkE T false m q = 0
  | m, [], _, _ => rfl
  | m, a :: q, h, ho => by
    cases h with
    | @cons _ b k _ ha ht hu hm hov hp =>
      rw [walk_step (arcB_iff.2 ⟨by omega, by omega⟩) (by rw [Int.toNat_natCast]; exact ht) (.inr (by rcases ho with h | h; cases h; rw [Int.toNat_natCast]; exact h)), Int.toNat_natCast, hm]
      exact ch_walkF hp hov
theorem ch_walk {d m : Nat} {q : List Int} (h : Ch T D d m q) : walkE T true m q = 0 := by
  cases h with
  | nil => rfl
  | @cons _ b k q ha ht hu hm hov hp =>
    rw [walk_step (arcB_iff.2 ⟨by omega, by omega⟩) (by rw [Int.toNat_natCast]; exact ht) (.inl rfl), Int.toNat_natCast, hm]
    exact ch_walkF hp hov
theorem Ch.bare {d m : Nat} {q : List Int} (h : Ch T D d m q) : Ch T [] d m q := by
  induction h with
  | nil => exact .nil
  | cons ha ht hu hm ho hp ih => exact .cons ha ht (by simp [downN]) hm ho ih
theorem Ch.mask {d m : Nat} {q : List Int} (h : Ch T [] d m q) (hc : ∀ a ∈ q, downN D a.toNat = false) : Ch T D d m q := by
  induction h with
  | nil => exact .nil
  | @cons n a m p ha ht hu hm ho hp ih => exact .cons ha ht (by have := hc a (by simp); rw [Int.toNat_natCast] at this; exact this) hm ho (ih fun b hb => hc b (by simp [hb]))
/-- What a stable node segment is. -/
structure Stab (T : Topo) (D : List Bool) (x y : Nat) (p : List Int) : Prop where
  valid : validB T = true
  fits : fitsB T D = true
  ne : x ≠ y
  hx : (x : Int) < T.nodes
  hy : (y : Int) < T.nodes
  uniq : uniqB T [] x y = true
  sp : SP T [] y x p
  up : ∀ a ∈ p, downN D a.toNat = false
variable {x y : Nat} {p : List Int}
theorem Stab.pos (h : Stab T D x y p) : 0 < p.length := by
  have hsp := h.sp
  cases hsp with
  | nil => exact absurd rfl h.ne
  | cons _ _ _ => simp
theorem Stab.fol (h : Stab T D x y p) : Fol T D x p := ⟨h.valid, h.fits, nodeB_iff.2 ⟨by omega, h.hx⟩, ch_walk h.sp.ch, h.up⟩
theorem Stab.cnt (h : Stab T D x y p) : cntS T [] y x = 1 := (uniq_iff h.valid (fits_nil T) h.hx h.hy).1 h.uniq
theorem Stab.cov (h : Stab T D x y p) : covB T [] x p 0 p.length = true := by
  have he : endL T (x : Int) (p.take p.length) = (y : Int) := by rw [List.take_length]; exact h.sp.ch.fin
  rw [cov_iff h.fol.bare (Nat.zero_le _) (Nat.le_refl _) (u := x) rfl he]
  have : partL p 0 p.length = p := by unfold partL; simp
  rw [this]
  exact ⟨h.sp, h.cnt⟩
/-- The node segment between two nodes of the path. -/
theorem Stab.part (h : Stab T D x y p) {i k : Nat} (hik : i ≤ k) (hk : k < p.length) : sgB T D (tailN T (p.getD i 0).toNat) (headN T (p.getD k 0).toNat) = true := by
  have hF := h.fol
  have ha := hF.arcs
  have hc := cov_sub hF.bare (i := 0) (j := p.length) (i' := i) (j' := k + 1) (Nat.zero_le _) (by omega) (by omega) (Nat.le_refl _) h.cov
  obtain ⟨u, hu, huN⟩ := end_node h.valid hF.node ha i (by omega)
  obtain ⟨v, hv, hvN⟩ := end_node h.valid hF.node ha (k + 1) (by omega)
  rw [part_tail hF (by omega) hu, ← endL_step T x p k hk, hv]
  rw [← stands_cov hF (by omega) (by omega) hu hv, Bool.and_eq_true] at hc
  exact hc.1
/-- The only next arc, with and without the mask. -/
theorem Stab.next (h : Stab T D x y p) {i u : Nat} (hi : i < p.length) (hu : endL T x (p.take i) = (u : Int)) : nextL T [] u y = [p.getD i 0] ∧ nextL T D u y = [p.getD i 0] ∧ (u : Int) < T.nodes := by
  have hF := h.fol
  have hv := h.valid
  have ha := hF.arcs
  obtain ⟨u', hu', huN⟩ := end_node hv hF.node ha i (by omega)
  have : u' = u := by omega
  subst this
  have hfin : endL T (x : Int) (p.take p.length) = (y : Int) := by rw [List.take_length]; exact h.sp.ch.fin
  have hch := hF.bare.ch (i := 0) (j := i) (Nat.zero_le _) (by omega) (u := x) rfl hu
  have hpp : partL p 0 i ++ partL p i p.length = p := by rw [← part_split p (Nat.zero_le _) (by omega)]; unfold partL; simp
  have hsp := h.sp
  rw [← hpp] at hsp
  obtain ⟨s1, s2⟩ := hsp.suffix hv h.hy h.cnt hch
  have hdr : partL p i p.length = p.getD i 0 :: p.drop (i + 1) := by
    unfold partL
    rw [List.take_of_length_le (by simp), drop_cons p i hi]
  rw [hdr] at s1
  have hup : ∀ c ∈ p.getD i 0 :: p.drop (i + 1), downN D c.toNat = false := fun c hc => by
    rw [← drop_cons p i hi] at hc
    exact h.up c (List.mem_of_mem_drop hc)
  have hchD := s1.ch.mask hup
  have hd0 := s1.cost hv h.hy
  generalize p.getD i 0 = a0 at *
  generalize p.drop (i + 1) = q at *
  cases s1 with
  | @cons _ a m _ hn hm hq =>
    obtain ⟨b, hb, _, _⟩ := cnt_one hv h.hy huN hn.ne s2
    have hab := next_of hn ((sound_of hv).cost a hn.arc).1
    rw [hb] at hab
    simp only [List.mem_singleton] at hab
    rw [← hab] at hb
    refine ⟨hb, ?_, huN⟩
    have hDle := hchD.le hv h.hy
    have mono : ∀ k : Nat, (k : Int) < T.nodes → 0 ≤ dN T D y k → 0 ≤ dN T [] y k ∧ dN T [] y k ≤ dN T D y k := fun k hk h0 => by
      have hs := spath_sp hv h.hy hk h0
      have := hs.ch.bare.le hv h.hy
      rw [← (hs.cost hv h.hy).1] at this
      exact this
    have hmu := mono u' huN hDle.1
    have heq : dN T D y u' = dN T [] y u' := by omega
    have hall : ∀ c ∈ nextL T D u' y, c = (a : Int) := fun c hc => by
      obtain ⟨k, rfl, hk⟩ := next_mem hc
      obtain ⟨z, hz, hzN⟩ := head_nat hv hk.arc
      have g := hk.dN hz
      have g2 := mono z hzN g.1
      have hs := spath_sp (D := []) hv h.hy hzN g2.1
      have hch2 : Ch T [] y u' ((k : Int) :: spathL T [] z y) := .cons hk.arc hk.tail (by simp [downN]) hz (by
        rcases hk.pass with e | e
        · left
          have : z = y := by omega
          subst this
          exact hs.self
        · right
          rw [hz, Int.toNat_natCast] at e
          exact e) hs.ch
      have g3 := hch2.le hv h.hy
      rw [costL_cons, ← (hs.cost hv h.hy).1, Int.toNat_natCast] at g3
      have hnr : Nearer T [] u' y k := ⟨hk.arc, hk.tail, by simp [downN], hk.ne, by rw [hz, Int.toNat_natCast]; exact g2.1, hk.pass, by
        rw [hz, Int.toNat_natCast]
        show dN T [] y u' = dN T [] y z + costN T k
        omega⟩
      have := next_of hnr ((sound_of hv).cost k hk.arc).1
      rw [hb] at this
      simpa using this
    obtain ⟨k, hk⟩ := next_ex (D := D) hv huN h.hy hn.ne hDle.1
    have hmem := next_of hk ((sound_of hv).cost k hk.arc).1
    have hso := next_sorted T D u' y
    cases hx : nextL T D u' y with
    | nil => rw [hx] at hmem; cases hmem
    | cons c l =>
      rw [hx] at hall hso
      have hc := hall c (by simp)
      subst hc
      cases l with
      | nil => rfl
      | cons c2 l =>
        have := hall c2 (by simp)
        have h3 := (List.pairwise_cons.1 hso).1 c2 (by simp)
        omega
end
end PW
end Go.Proofs.YtbpgndbjbaoolaaGreat

/- The example of the laws: a ring of four nodes, its distances. -/
namespace Go.Proofs.YtbpgndbjbaoolaaGreat
set_option linter.unusedVariables false
set_option linter.unusedSimpArgs false
namespace PW
open Go.RowKit Reg Mem Net

def ringL (k : Nat) : List Lnk := (List.range k).map fun (i : Nat) => ⟨(i : Int), (((i + 1) % 4 : Nat) : Int), 1, 1, 0, 1, 0⟩
def ringT : Topo := ⟨4, [], ringL 4⟩
def ringD (d : Nat) : List Int := match d with
  | 0 => [0, 1, 2, 1]
  | 1 => [1, 0, 1, 2]
  | 2 => [2, 1, 0, 1]
  | _ => [1, 2, 1, 0]
theorem ring_valid : validB ringT = true := by kernel_rfl
def wayB (T : Topo) (n : Nat) (out : List Int) (a : Nat) : Bool := decide (0 ≤ at' out (arcY T false a)) && (decide (arcY T false a = (n : Int)) || !overN T (arcY T false a).toNat)
def distB (n : Nat) (out : List Int) : Bool :=
  decide (out.length = 4) && decide (at' out (n : Int) = 0) && (List.range 4).all (fun x => decide (0 ≤ at' out (x : Int))) &&
  (List.range 8).all (fun a => !wayB ringT n out a || (decide (0 ≤ at' out (arcX ringT false a)) && decide (at' out (arcX ringT false a) ≤ at' out (arcY ringT false a) + costN ringT a))) &&
  (List.range 4).all (fun x => decide (x = n) || (List.range 8).any fun a => decide (arcX ringT false a = (x : Int)) && wayB ringT n out a && decide (at' out (x : Int) = at' out (arcY ringT false a) + costN ringT a))
theorem way_iff (n : Nat) (out : List Int) (a : Nat) : Net.Way ringT [] n false out a ↔ wayB ringT n out a = true := by
  unfold Net.Way wayB
  have : downN [] a = false := by simp [downN]
  simp [this]
theorem dist_of {n : Nat} {out : List Int} (h : distB n out = true) : IsDist ringT [] n false out := by
  simp only [distB, Bool.and_eq_true, decide_eq_true_eq, List.all_eq_true, List.mem_range, Bool.or_eq_true, Bool.not_eq_true', List.any_eq_true] at h
  obtain ⟨⟨⟨⟨h1, h2⟩, h3⟩, h4⟩, h5⟩ := h
  refine ⟨by rw [h1]; rfl, h2, fun x hx => ?_, fun a ha hw => ?_, fun x hx _ => ?_⟩
  · have := h3 x (by have : ringT.nodes = 4 := rfl; omega); omega
  · rcases h4 a (by have : ringT.links.length = 4 := rfl; omega) with h | h
    · rw [(way_iff n out a).1 hw] at h; cases h
    · exact h
  · rcases h5 x (by have : ringT.nodes = 4 := rfl; omega) with h | ⟨a, ha, ⟨h6, h7⟩, h8⟩
    · exact .inl h
    · exact .inr ⟨a, by have : ringT.links.length = 4 := rfl; omega, h6, (way_iff n out a).2 h7, h8⟩
theorem lnksP_snoc (l : List Lnk) (e : Lnk) : lnksP l ++ lnkP e = lnksP (l ++ [e]) := by simp [lnksP]
theorem ringL_step (k : Nat) : ringL (k + 1) = ringL k ++ [⟨(k : Int), (((k + 1) % 4 : Nat) : Int), 1, 1, 0, 1, 0⟩] := by simp [ringL, List.range_succ]
/-- A pair of constants. -/
theorem y_build2 {P : Program} {σ : Sto} {t : Tms} {o : Oper} {ty : TypeId} {v0 v1 c0 c1 : Value} (ho : o.op = .build ty #[(0, .const v0), (1, .const v1)]) (hb : P.built ty [(0, v0), (1, v1)] = some #[c0, c1]) : Yield P σ t o (.agg [.raw c0, .raw c1]) := by
  intro F base E ρ w hρ hS hT
  have hrun := run_build (P := P) w ty #[(0, v0), (1, v1)] #[c0, c1] hb
  have h0 : ρ (.const v0) = v0 := hρ.const v0
  have h1 : ρ (.const v1) = v1 := hρ.const v1
  have hr : (execOp ρ o).run P w = .ok (.value (.agg #[c0, c1])) w := by
    simp only [execOp, ho, Sem.run_bind, List.map_toArray, List.map_cons, List.map_nil, h0, h1, hrun, Result.andThen_ok, Sem.run_pure]
  rw [hr]
  refine upon_val (.agg #[c0, c1] _ rfl (fun i x u k1 k2 => ?_))
  match i, k1, k2 with
  | 0, k1, k2 => simp at k1 k2; subst k1; subst k2; exact .raw _
  | 1, k1, k2 => simp at k1 k2; subst k1; subst k2; exact .raw _
  | _ + 2, k1, k2 => simp at k2
end PW
end Go.Proofs.YtbpgndbjbaoolaaGreat

/- Texts of segments with small numbers: the reference of layers 9 and 18. -/
namespace Go.Proofs.YtbpgndbjbaoolaaGreat
set_option linter.unusedVariables false
set_option linter.unusedSimpArgs false
namespace PW
open Go.RowKit Reg Mem Net

abbrev strB (l : List UInt8) : PV := .raw (.string ⟨l.toArray⟩)
theorem bytes_no (a b : UInt8) : ((⟨#[a, b]⟩ : ByteArray).toList == (⟨#[]⟩ : ByteArray).toList) = false := by
  have h : ∀ (ba : ByteArray) i r, ByteArray.toList.loop ba i r = if i < ba.size then ByteArray.toList.loop ba (i + 1) (ba.get! i :: r) else r.reverse := fun ba i r => by rw [ByteArray.toList.loop]
  have h2 : (⟨#[]⟩ : ByteArray).toList = [] := by
    unfold ByteArray.toList
    rw [h, if_neg (by show ¬ 0 < 0; omega)]
    rfl
  have h3 : (⟨#[a, b]⟩ : ByteArray).toList = [a, b] := by
    unfold ByteArray.toList
    rw [h, if_pos (by show 0 < 2; omega), h, if_pos (by show 1 < 2; omega), h, if_neg (by show ¬ 2 < 2; omega)]
    rfl
  rw [h2, h3]
  rfl
theorem cat_bytes (a b : List UInt8) : (⟨a.toArray⟩ : ByteArray) ++ ⟨b.toArray⟩ = ⟨(a ++ b).toArray⟩ := by
  apply ByteArray.ext
  simp
theorem y_catB {P : Program} {σ : Sto} {t : Tms} {o : Oper} {x y : Operand} {ty tz : TypeId} {a b : List UInt8} (ho : o.op = .binOp .add ty x y tz) (hx : evalO t x = some (strB a)) (hy : evalO t y = some (strB b)) (hn : a.length + b.length ≤ 1000000) : Yield P σ t o (strB (a ++ b)) :=
  y_cat ho hx hy (cat_bytes a b) (by show a.toArray.size + b.toArray.size ≤ _; simp; omega)
theorem y_oneByte {P : Program} {σ : Sto} {t : Tms} {o : Oper} {src dst e : TypeId} {x : Operand} {c : UInt8} (ho : o.op = .convert src dst x) (hs : P.underlying src = some (.slice e)) (hd : P.underlying dst = some .string) (he : P.underlying e = some (.int .u8)) (hx : evalO t x = some (.slice 1 [.raw (.int .u8 c.toNat)])) : Yield P σ t o (strB [c]) := by
  intro F base E ρ w hρ _ hT
  have h1 := evalO_rep hρ hT hx
  generalize hz : ρ x = z at h1
  cases h1 with
  | slice b off _ cap cs _ h0 h1 h2 hb hM hc hl hr =>
    match cs, hl, hc, hr with
    | [v], _, hc, hr =>
      have hv := rep_raw (hr 0 v _ rfl rfl)
      subst hv
      have hlc := run_loadCellsFrom (P := P) ⟨b, off, none⟩ rfl [.int .u8 c.toNat] 0 #[] w (fun j x hx => by rw [Nat.zero_add]; exact hc j x hx)
      have hrun : (convert src dst (.slice (some ⟨b, off, none⟩) 1 cap)).run P w = .ok (.string ⟨[c].toArray⟩) w := by
        simp only [convert, Sem.run_bind, run_underlying hs, run_underlying hd, run_underlying he, Result.andThen_ok, Conv.bytesToString, loadCells]
        rw [show (1 : Nat) = [Value.int .u8 c.toNat].length from rfl, hlc]
        simp
        rfl
      simp only [execOp, ho, hz, Sem.run_bind, hrun]
      exact upon_val (.raw _)
theorem y_addU {P : Program} {σ : Sto} {t : Tms} {o : Oper} {x y : Operand} {ty tz : TypeId} {a b c : Int} (ho : o.op = .binOp .add ty x y tz) (hx : evalO t x = some (.raw (.int .u64 a))) (hy : evalO t y = some (.raw (.int .u64 b))) (hc : IntKind.u64.wrap (a + b) = c) : Yield P σ t o (.raw (.int .u64 c)) :=
  y_int ho hx hy fun w => by simp [binOp, Op.intArith, hc]
def dig (n : Nat) : UInt8 := UInt8.ofNat (48 + n)
theorem dig_nat {n : Nat} (h : n < 10) : (dig n).toNat = 48 + n := by unfold dig; rw [UInt8.toNat_ofNat']; omega
set_option maxRecDepth 10000 in
set_option maxHeartbeats 1000000 in
theorem digits_can (n : Nat) (hn : n < 10) : Can Tryz.prog 162 [.raw (.int .u64 n)] (· = strB [dig n]) := by
  refine can_of Tryz.func162 rfl Tryz.ntmps162 rfl ?_
  refine W_cs (.a 1 rfl <| .k [0] rfl) ?_
  refine W_seq ?_
  refine W_cs (.a 1 rfl <| .v (y_lss rfl rfl rfl rfl) rfl <| .k [0, 4] rfl) ?_
  refine W_cond rfl (fun hc => ?_) (fun hc => ?_)
  · refine W_cs (.a 1 rfl <| .v (y_addU (c := ((dig n).toNat : Int)) rfl rfl rfl (by rw [IntKind.wrap_u64, dig_nat hn]; omega)) rfl <| .v (y_conv rfl Tryz.underlying172 Tryz.underlying5 rfl (u8_wrap _ (by rw [dig_nat hn]; omega))) rfl <| .a 1 rfl <| .v (y_oneByte rfl Tryz.underlying176 Tryz.underlying9 Tryz.underlying5 rfl) rfl <| .a 1 rfl <| .k [2] rfl) ?_
    refine W_ret ?_
    exact ⟨_, _, ResL.of rfl, Pur.pure, rfl⟩
  · exact absurd (ff hc) (by omega)
set_option maxRecDepth 10000 in
set_option maxHeartbeats 1000000 in
theorem number_can (n : Nat) (hn : n < 10) : Can Tryz.prog 140 [num n] (· = strB [dig n]) := by
  refine can_of Tryz.func140 rfl Tryz.ntmps140 rfl ?_
  refine W_cs (.a 1 rfl <| .k [0] rfl) ?_
  refine W_seq ?_
  refine W_cs (.a 2 rfl <| .k [0, 4] rfl) ?_
  refine W_cond rfl (fun hc => ?_) (fun hc => ?_)
  · exact absurd (tt hc) (by omega)
  · refine W_skip ?_
    refine W_cs (.a 1 rfl <| .v (y_conv (c := (n : Int)) rfl Tryz.underlying3 Tryz.underlying172 rfl (by rw [IntKind.wrap_u64]; omega)) rfl <| .c rfl (digits_can n hn) rfl <| .a 1 rfl <| .k [2] rfl) ?_
    refine W_ret ?_
    exact ⟨_, _, ResL.of rfl, Pur.pure, rfl⟩
theorem y_build5 {P : Program} {σ : Sto} {t : Tms} {o : Oper} {ty : TypeId} {v0 v1 v2 v3 v4 : Value} (ho : o.op = .build ty #[(0, .const v0), (1, .const v1), (2, .const v2), (3, .const v3), (4, .const v4)]) (hb : P.built ty [(0, v0), (1, v1), (2, v2), (3, v3), (4, v4)] = some #[v0, v1, v2, v3, v4]) : Yield P σ t o (.agg [.raw v0, .raw v1, .raw v2, .raw v3, .raw v4]) := by
  intro F base E ρ w hρ hS hT
  have hrun := run_build (P := P) w ty #[(0, v0), (1, v1), (2, v2), (3, v3), (4, v4)] #[v0, v1, v2, v3, v4] hb
  have hr : (execOp ρ o).run P w = .ok (.value (.agg #[v0, v1, v2, v3, v4])) w := by
    simp only [execOp, ho, Sem.run_bind, List.map_toArray, List.map_cons, List.map_nil, hρ.const, hrun, Result.andThen_ok, Sem.run_pure]
  rw [hr]
  refine upon_val (.agg #[v0, v1, v2, v3, v4] _ rfl (fun i x u k1 k2 => ?_))
  match i, k1, k2 with
  | 0, k1, k2 => simp at k1 k2; subst k1; subst k2; exact .raw _
  | 1, k1, k2 => simp at k1 k2; subst k1; subst k2; exact .raw _
  | 2, k1, k2 => simp at k1 k2; subst k1; subst k2; exact .raw _
  | 3, k1, k2 => simp at k1 k2; subst k1; subst k2; exact .raw _
  | 4, k1, k2 => simp at k1 k2; subst k1; subst k2; exact .raw _
  | _ + 5, k1, k2 => simp at k2
abbrev kindP : List PV := [strB [], strB [110], strB [97], strB [103], strB [98]]
set_option maxRecDepth 10000 in
set_option maxHeartbeats 1000000 in
theorem stext_can (n : Nat) (hn : n < 10) : Can Tryz.prog 99 [segV ⟨1, n⟩] (· = strB [110, dig n]) := by
  obtain ⟨q1, hq1⟩ : ∃ q, decide ((n : Int) < 0) = q := ⟨_, rfl⟩
  obtain ⟨q2, hq2⟩ : ∃ q, decide ((999999999 : Int) < (n : Int)) = q := ⟨_, rfl⟩
  refine can_of Tryz.func99 rfl Tryz.ntmps99 rfl ?_
  refine W_cs (.a 2 rfl <| .k [1] rfl) ?_
  refine W_seq ?_
  refine W_csK 21 (.raw (.bool (q1 || q2))) [1] rfl ?_ ?_
  · refine .a 11 rfl <| .v (y_q rfl (hq1)) rfl <| .a 2 rfl <| ?_
    cases q1
    · exact .a 2 rfl <| .v (y_q rfl (hq2)) rfl <| .a 1 rfl <| .k [21, 1] rfl
    · exact .a 4 rfl <| .k [21, 1] rfl
  refine W_cond rfl (fun hc => ?_) (fun hc => ?_)
  · have e1 : q1 = false := by rw [← hq1]; exact decide_eq_false (by omega)
    have e2 : q2 = false := by rw [← hq2]; exact decide_eq_false (by omega)
    rw [e1, e2] at hc
    cases hc
  · refine W_skip ?_
    refine W_rs ?_
    refine WR_v (y_build5 rfl (by kernel_rfl)) rfl <| WR_a 2 rfl <| WR_k [1, 3] rfl ?_
    refine W_sto (σ' := [some (.cells 149 kindP)]) rfl ?_
    refine W_sealPtr 3 0 0 rfl rfl ?_
    refine W_ren [] (.cons 1 rfl Ren.pure <| .cons 3 rfl (Ren.pure (p := .pin kindP 0)) .nil) .nil rfl rfl ?_
    refine W_drs mixed (by kernel_rfl) (.a 2 rfl <| .v [3, 24] (y_ix (1) rfl (show (0 : Int) ≤ 1 by decide) (show (1 : Int) < 5 by decide) rfl) rfl rfl <| .v [25] (y_ld rfl ((show kindP[1]? = some (strB [110]) from rfl))) rfl rfl <| .a 2 rfl <| .v [28] (y_c rfl (number_can n hn)) rfl rfl <| .v [26, 29] (y_catB rfl rfl rfl (by simp)) rfl rfl <| .a 1 rfl <| .k [2] rfl) ?_
    refine W_ret ?_
    exact ⟨_, _, ResL.of rfl, Pur.pure, rfl⟩
def txtK (l : List Nat) (k : Nat) : List UInt8 := ((List.range k).flatMap fun i => (if 0 < i then [32] else []) ++ [110, dig (l.getD i 0)])
theorem txtK_step (l : List Nat) (k : Nat) : txtK l (k + 1) = txtK l k ++ ((if 0 < k then [32] else []) ++ [110, dig (l.getD k 0)]) := by
  unfold txtK
  rw [List.range_succ, List.flatMap_append]
  simp
theorem txtK_len (l : List Nat) (k : Nat) : (txtK l k).length ≤ 3 * k := by
  induction k with
  | zero => simp [txtK]
  | succ k ih => rw [txtK_step]; simp only [List.length_append]; split <;> simp <;> omega
def nodeS (l : List Nat) : List Seg := l.map fun (n : Nat) => (⟨1, (n : Int)⟩ : Seg)
set_option maxRecDepth 10000 in
set_option maxHeartbeats 1000000 in
theorem tlist_can (l : List Nat) (hl : ∀ n ∈ l, n < 10) (hll : l.length ≤ 1000) : Can Tryz.prog 50 [segsV (nodeS l)] (· = strB (txtK l l.length)) := by
  have hsl : (nodeS l).length = l.length := by simp [nodeS]
  refine can_of Tryz.func50 rfl Tryz.ntmps50 rfl ?_
  refine W_cs (.a 1 rfl <| .k [0] rfl) ?_
  refine W_cs (.a 1 rfl <| .k [0, 3] rfl) ?_
  refine W_seq ?_
  refine W_cs (.a 1 rfl <| .k [0, 3, 4] rfl) ?_
  refine W_block ?_
  refine W_k [0, 3, 4] rfl ?_
  refine W_loop (fun r st => ∃ k : Nat, k ≤ l.length ∧ r = l.length - k ∧ st = ⟨[(0, segsV (nodeS l)), (3, strB (txtK l k)), (4, num k)], []⟩) l.length ⟨0, by omega, by omega, rfl⟩ ?_
  rintro r st ⟨k, hk, rfl, rfl⟩
  have htl := txtK_len l k
  refine W_seq ?_
  refine W_cs (.a 4 rfl <| .k [0, 3, 4, 8] rfl) ?_
  refine W_cond rfl (fun h1 => ?_) (fun h1 => ?_)
  · have hlt : k < l.length := by have := tt h1; omega
    have hg : (nodeS l)[k]? = some ⟨1, ((l.getD k 0 : Nat) : Int)⟩ := by simp [nodeS, hlt]
    have h10 := hl _ (getD_mem (d := 0) hlt)
    have hst := txtK_step l k
    refine W_skip ?_
    refine W_seq ?_
    refine W_block ?_
    refine W_seq ?_
    refine W_cs (.a 2 rfl <| .v (y_ix ((k * 2)) rfl) rfl <| .v (y_la rfl (segs_drop _ k _ hg) rfl) rfl <| .c rfl (stext_can _ h10) rfl <| .v (y_strEql (q := false) rfl rfl rfl (bytes_no _ _)) rfl <| .k [0, 3, 4, 16] rfl) ?_
    refine W_cond rfl (fun hc => ?_) (fun hc => ?_)
    · cases hc
    · refine W_skip ?_
      refine W_seq ?_
      refine W_cs (.a 2 rfl <| .k [0, 3, 4, 18] rfl) ?_
      refine W_cond rfl (fun h2 => ?_) (fun h2 => ?_)
      · have h3 : 0 < k := by have := tt h2; omega
        rw [if_pos h3] at hst
        refine W_chain (.a 1 rfl <| .v (y_catB (b := [32]) rfl rfl rfl (by simp; omega)) rfl <| .a 1 rfl <| .k [0, 3, 4] rfl) ?_
        refine W_chain (.a 3 rfl <| .v (y_ix ((k * 2)) rfl) rfl <| .v (y_la rfl (segs_drop _ k _ hg) rfl) rfl <| .c rfl (stext_can _ h10) rfl <| .v (y_catB rfl rfl rfl (by simp; omega)) rfl <| .a 1 rfl <| .k [0, 3, 4] rfl) ?_
        refine W_chain (.a 1 rfl <| .v (y_ar rfl) rfl <| .a 1 rfl <| .k [0, 3, 4] rfl) ?_
        refine ⟨l.length - (k + 1), by omega, k + 1, by omega, rfl, ?_⟩
        rw [hst]
        first
          | rfl
          | (rw [← List.append_assoc]; rfl)
          | (rw [List.nil_append]; rfl)
      · have h3 : ¬ 0 < k := by have := ff h2; omega
        rw [if_neg h3] at hst
        refine W_skip ?_
        refine W_chain (.a 3 rfl <| .v (y_ix ((k * 2)) rfl) rfl <| .v (y_la rfl (segs_drop _ k _ hg) rfl) rfl <| .c rfl (stext_can _ h10) rfl <| .v (y_catB rfl rfl rfl (by simp; omega)) rfl <| .a 1 rfl <| .k [0, 3, 4] rfl) ?_
        refine W_chain (.a 1 rfl <| .v (y_ar rfl) rfl <| .a 1 rfl <| .k [0, 3, 4] rfl) ?_
        refine ⟨l.length - (k + 1), by omega, k + 1, by omega, rfl, ?_⟩
        rw [hst]
        first
          | rfl
          | (rw [← List.append_assoc]; rfl)
          | (rw [List.nil_append]; rfl)
  · have hke : k = l.length := by have := ff h1; omega
    subst hke
    refine W_exit ?_
    refine W_cs (.a 2 rfl <| .k [2] rfl) ?_
    refine W_ret ?_
    exact ⟨_, _, ResL.of rfl, Pur.pure, rfl⟩
end PW
end Go.Proofs.YtbpgndbjbaoolaaGreat

/- New results of calls that read rows of their caller's; the examples of layer 28. -/
namespace Go.Proofs.YtbpgndbjbaoolaaGreat
set_option linter.unusedVariables false
set_option linter.unusedSimpArgs false
namespace PW
open Go.RowKit Reg Mem Net

section
variable {P : Program} {σ : Sto} {t : Tms} {o : Oper}
theorem CanS.nils {f : FuncId} {a : PV} {l : List PV} {R : PV → Sto → Prop} (h : CanS P f (a :: boolsV [] :: l) σ R) : CanS P f (a :: .raw (.slice none 0 0) :: l) σ R := fun F base E w vs hS hR => by
  refine h F base E w vs hS ⟨hR.1, fun i c u h1 h2 => ?_⟩
  match i, h2 with
  | 0, h2 => exact hR.2 0 c u h1 h2
  | 1, h2 =>
    simp at h2
    subst h2
    have := hR.2 1 c _ h1 rfl
    cases this
    exact .nils
  | i + 2, h2 => exact hR.2 (i + 2) c u h1 h2
end
end PW
end Go.Proofs.YtbpgndbjbaoolaaGreat

/- The laws on lists of segments: awake, large. -/
namespace Go.Proofs.YtbpgndbjbaoolaaGreat
set_option linter.unusedVariables false
set_option linter.unusedSimpArgs false
namespace PW
open Go.RowKit Reg Mem Net

def nextC (T : Topo) (D : List Bool) (L : List Int) (m d : Nat) : List Int := if m = d ∨ L.getD m 0 < 0 then [] else passL T D L (L.getD m 0) d (outL T m)
def cntC (T : Topo) (D : List Bool) (L : List Int) (d : Nat) : Nat → Nat → Int
  | 0, m => if m = d then 1 else 0
  | f + 1, m => if m = d then 1 else (nextC T D L m d).foldl (fun c a => min 2 (c + cntC T D L d f (headN T a.toNat).toNat)) 0
def covC (y u : Nat) (c : Int) : Bool := decide ((ringD y).getD u 0 = c) && (decide (nodeE ringT [] (u : Int) (y : Int) = 0) && decide (cntC ringT [] (ringD y) y ((ringD y).getD u 0).toNat u = 1))
end PW
end Go.Proofs.YtbpgndbjbaoolaaGreat

/- The examples of layer 28, walked. -/
namespace Go.Proofs.YtbpgndbjbaoolaaGreat
set_option linter.unusedVariables false
set_option linter.unusedSimpArgs false
namespace PW
open Go.RowKit Reg Mem Net

instance (l : List Seg) : IsFlatL (segsP l) := ⟨fun i u h => by
  obtain ⟨s, _, hs⟩ := List.mem_flatMap.1 (List.mem_of_getElem? h)
  simp only [segP, List.mem_cons, List.not_mem_nil, or_false] at hs
  rcases hs with rfl | rfl
  · infer_instance
  · infer_instance⟩
end PW
end Go.Proofs.YtbpgndbjbaoolaaGreat

/- The arguments of the laws of layer 28: a query, a way. -/
namespace Go.Proofs.YtbpgndbjbaoolaaGreat
set_option linter.unusedVariables false
set_option linter.unusedSimpArgs false
namespace PW
open Go.RowKit Reg Mem Net Go.WideShapes
/-- A topology with a mask and two nodes. -/
structure Qry where
  T : Topo
  D : List Bool
  x : Int
  y : Int
def qryP (c : Qry) : List PV := topoP c.T ++ [boolsV c.D, num c.x, num c.y]
def qryV (c : Qry) : PV := .agg (qryP c)
instance (c : Qry) : IsPureL (qryP c) := by unfold qryP; unfold topoP; simp only [List.cons_append, List.nil_append]; infer_instance
instance (c : Qry) : IsPure (qryV c) := by unfold qryV; infer_instance
/-- A path in a topology with a mask. -/
structure Wy where
  T : Topo
  D : List Bool
  p : List Int
  n : Int
def wyP (c : Wy) : List PV := topoP c.T ++ [boolsV c.D, intsV c.p, num c.n]
def wyV (c : Wy) : PV := .agg (wyP c)
instance (c : Wy) : IsPureL (wyP c) := by unfold wyP; unfold topoP; simp only [List.cons_append, List.nil_append]; infer_instance
instance (c : Wy) : IsPure (wyV c) := by unfold wyV; infer_instance
section
variable {H : Type} {enc : TypeId × Value → H} {W : World}
end
end PW
end Go.Proofs.YtbpgndbjbaoolaaGreat

/- The laws of layer 28, walked: List, Least, Encode, Segment. -/
namespace Go.Proofs.YtbpgndbjbaoolaaGreat
set_option linter.unusedVariables false
set_option linter.unusedSimpArgs false
namespace PW
open Go.RowKit Reg Mem Net

end PW
end Go.Proofs.YtbpgndbjbaoolaaGreat

/- Package stable's Check; the laws of layer 28 on parts, routes and detours, walked. -/
namespace Go.Proofs.YtbpgndbjbaoolaaGreat
set_option linter.unusedVariables false
set_option linter.unusedSimpArgs false
namespace PW
open Go.RowKit Reg Mem Net

theorem Ch.ups {T : Topo} {D : List Bool} {d m : Nat} {q : List Int} (h : Ch T D d m q) : ∀ a ∈ q, downN D a.toNat = false := by
  induction h with
  | nil => intro z hz; cases hz
  | @cons n a m p ha ht hu hm ho hp ih =>
    intro z hz
    rcases List.mem_cons.1 hz with rfl | hz
    · rw [Int.toNat_natCast]; exact hu
    · exact ih z hz
set_option maxRecDepth 10000 in
set_option maxHeartbeats 1000000 in
theorem rpath27_can (T : Topo) (D : List Bool) (x y : Int) : Can Tryz.prog 41 [topoV T, boolsV D, num x, num y] (· = intsE (spE T D x y) (spathL T D x.toNat y.toNat)) := by
  refine can_of Tryz.func41 rfl Tryz.ntmps41 rfl ?_
  refine W_cs (.a 3 rfl <| .k [1, 2, 3, 4] rfl) ?_
  refine W_cs (.a 4 rfl <| .c rfl (rspath_can T D x y) rfl <| .a 4 rfl <| .k [8, 9] rfl) ?_
  refine W_ret ?_
  exact ⟨_, _, ResL.of rfl, Pur.pure, rfl⟩
theorem lst_pos {T : Topo} {D : List Bool} {n : Int} {p : List Int} (hp : 0 < p.length) : 0 < (lstL T D n p).length := by
  unfold lstL
  obtain ⟨f, hf⟩ : ∃ f, p.length = f + 1 := ⟨p.length - 1, by omega⟩
  rw [hf]
  simp only [lstF]
  rw [if_pos (by omega)]
  cases topD (covB T D n p 0) 0 p.length <;> simp
end PW
end Go.Proofs.YtbpgndbjbaoolaaGreat

/- Listed entries, and the tables of the state Transition, as plain mathematics. -/
namespace Go.Proofs.YtbpgndbjbaoolaaGreat
set_option linter.unusedVariables false
set_option linter.unusedSimpArgs false
namespace PW
open Go.RowKit Reg Mem Net

/-- A list without an arc segment in front. -/
def cutL : List Seg → List Seg
  | [] => []
  | s :: l => if s.kind = 2 then l else s :: l
/-- The listed entry. -/
noncomputable def entX (T : Topo) (D : List Bool) (n d : Int) : Ent :=
  if spE T D n d = 0 ∧ n ≠ d then ⟨[(spathL T D n.toNat d.toNat).getD 0 0], true, cutL (lstL T [] n (spathL T D n.toNat d.toNat))⟩ else ⟨[], false, []⟩
/-- A path to another node. -/
structure Pth (T : Topo) (D : List Bool) (x y : Nat) (p : List Int) : Prop where
  valid : validB T = true
  fits : fitsB T D = true
  ne : x ≠ y
  hx : (x : Int) < T.nodes
  hy : (y : Int) < T.nodes
  sp : SP T D y x p
theorem pth_of {T : Topo} {D : List Bool} {n d : Int} (h : spE T D n d = 0) (hne : n ≠ d) : ∃ a b : Nat, n = (a : Int) ∧ d = (b : Int) ∧ Pth T D a b (spathL T D a b) := by
  have hf : fitsB T D = true := by
    have h' := h
    unfold spE at h'
    split at h'
    · rename_i h1; exact (nodeE_zero h1).2.1
    · rename_i h1; exact absurd h' h1
  obtain ⟨a, b, rfl, rfl, ha, hb, hv, hsp⟩ := spE_facts h
  simp only [Int.toNat_natCast] at hsp
  exact ⟨a, b, rfl, rfl, hv, hf, fun e => hne (by rw [e]), ha, hb, hsp⟩
section
variable {T : Topo} {D : List Bool} {x y : Nat} {p : List Int}
theorem Pth.pos (h : Pth T D x y p) : 0 < p.length := by
  have hsp := h.sp
  cases hsp with
  | nil => exact absurd rfl h.ne
  | cons _ _ _ => simp
theorem Pth.fol (h : Pth T D x y p) : Fol T D x p := ⟨h.valid, h.fits, nodeB_iff.2 ⟨by omega, h.hx⟩, ch_walk h.sp.ch, h.sp.ch.ups⟩
theorem Pth.zero (h : Pth T D x y p) : folE T D x p = 0 := fol_zero h.fol
theorem Pth.len (h : Pth T D x y p) : (p.length : Int) < T.nodes := h.sp.len_lt h.valid h.hy
theorem Pth.head (h : Pth T D x y p) : p.getD 0 0 ∈ nextL T D x y := by
  have hsp := h.sp
  cases hsp with
  | nil => exact absurd rfl h.ne
  | @cons n a m q h1 hm hq => exact next_of h1 ((sound_of h.valid).cost a h1.arc).1
theorem Pth.lst (h : Pth T D x y p) : 0 < (lstL T [] x p).length ∧ (lstL T [] x p).length ≤ p.length := ⟨lst_pos h.pos, lst_len _ _⟩
theorem Pth.ck (h : Pth T D x y p) : ckE T D (lstL T [] x p) x p = true := by
  have hF := h.fol
  unfold ckE
  rw [if_pos h.zero, ck_iff hF.bare _ 0 (Nat.zero_le _), Bool.and_eq_true]
  exact ⟨ex_lst hF.bare _ 0 (Nat.zero_le _) (by omega), deg_lst hF.bare _ 0 (Nat.zero_le _)⟩
/-- How a list begins. -/
theorem lst_head {n : Int} (hp : 0 < p.length) : ∃ s l, lstL T [] n p = s :: l ∧ (s.kind = 1 ∨ s = ⟨2, p.getD 0 0⟩) := by
  unfold lstL
  obtain ⟨f, hf⟩ : ∃ f, p.length = f + 1 := ⟨p.length - 1, by omega⟩
  rw [hf]
  simp only [lstF]
  rw [if_pos (by omega)]
  cases topD (covB T [] n p 0) 0 p.length with
  | none => exact ⟨_, _, rfl, .inr rfl⟩
  | some j => exact ⟨_, _, rfl, .inl rfl⟩
theorem cut_len (l : List Seg) : (cutL l).length ≤ l.length := by
  cases l with
  | nil => simp [cutL]
  | cons s l => simp only [cutL]; split <;> simp
theorem Pth.whole (h : Pth T D x y p) : ckE T D (cutL (lstL T [] x p)) x p = true ∨ ckE T D (⟨2, p.getD 0 0⟩ :: cutL (lstL T [] x p)) x p = true := by
  obtain ⟨s, l, hl, hs⟩ := lst_head (T := T) (n := (x : Int)) h.pos
  have hc := h.ck
  rw [hl] at hc ⊢
  rcases hs with hs | rfl
  · left
    simp only [cutL]
    rw [if_neg (by omega)]
    exact hc
  · right
    exact hc
end
theorem ent_yes {T : Topo} {D : List Bool} {x y : Nat} (h : Pth T D x y (spathL T D x y)) : entX T D x y = ⟨[(spathL T D x y).getD 0 0], true, cutL (lstL T [] x (spathL T D x y))⟩ := by
  unfold entX
  rw [if_pos]
  · simp only [Int.toNat_natCast]
  · refine ⟨?_, fun e => h.ne (by omega)⟩
    rw [spE_zero h.valid h.fits h.hx h.hy, if_neg]
    have := (h.sp.cost h.valid h.hy).2
    omega
theorem ent_no {T : Topo} {D : List Bool} {n d : Int} (h : ¬ (spE T D n d = 0 ∧ n ≠ d)) : entX T D n d = ⟨[], false, []⟩ := if_neg h
/-- A stable node segment: the listed entry towards its end. -/
theorem Stab.same {T : Topo} {D : List Bool} {x y : Nat} {p : List Int} (h : Stab T D x y p) : spathL T D x y = p ∧ Pth T D x y p ∧ lstL T [] x p = [⟨1, (y : Int)⟩] := by
  have hv := h.valid
  have hch := h.sp.ch.mask h.up
  have h1 := hch.le hv h.hy
  have h0 := h.sp.cost hv h.hy
  have hq := spath_sp (D := D) hv h.hy h.hx h1.1
  have hqc := hq.cost hv h.hy
  have hqb := hq.ch.bare
  have h2 := hqb.le hv h.hy
  have hq' := hqb.sp hv h.hy (by omega)
  have he : spathL T D x y = p := hq'.unique hv h.hy h.sp h.cnt
  have hP : Pth T D x y p := ⟨hv, h.fits, h.ne, h.hx, h.hy, by rw [← he]; exact hq⟩
  refine ⟨he, hP, ?_⟩
  unfold lstL
  obtain ⟨f, hf⟩ : ∃ f, p.length = f + 1 := ⟨p.length - 1, by have := h.pos; omega⟩
  rw [hf, lst_some (j := p.length) h.pos h.pos (Nat.le_refl _) h.cov (fun k h3 h4 => by omega), lst_end _ _ (Nat.le_refl _), List.take_length, h.sp.ch.fin]
theorem Stab.ent {T : Topo} {D : List Bool} {x y : Nat} {p : List Int} (h : Stab T D x y p) : nextL T [] x y = [p.getD 0 0] ∧ nextL T D x y = [p.getD 0 0] ∧ entX T D x y = ⟨[p.getD 0 0], true, [⟨1, (y : Int)⟩]⟩ := by
  obtain ⟨h1, h2, h3⟩ := h.same
  obtain ⟨h4, h5, _⟩ := h.next (i := 0) h.pos (u := x) rfl
  refine ⟨h4, h5, ?_⟩
  rw [← h1] at h2
  rw [ent_yes h2, h1, h3]
  rfl
end PW
end Go.Proofs.YtbpgndbjbaoolaaGreat
