/- Pure walks: rows of rows of the call's own. No program in sight. -/
import Derived.Test.YtkaalpdfppbdeaaDoorPWw
import Derived.Test.YtkaalpdfppbdeaaDoorPWd
namespace Go.Proofs.YtkaalpdfppbdeaaDoor
namespace PW
open Go.RowKit Reg Mem
section
variable {P : Program} {N L : Nat}
theorem zeros_one (p : PV) (n : Nat) : zeros [p] n = List.replicate n p := by
  induction n with
  | zero => rfl
  | succ n ih => simp only [zeros, ih, List.replicate_succ]; rfl
theorem SRen.of {fs : List Nat} {σ : Sto} : ∀ (σ' : Sto) (js : List Nat), σ'.length = js.length → (∀ (i : Nat) b' j, σ'[i]? = some (some b') → js[i]? = some j → ∃ b, σ[j]? = some (some b) ∧ BRen fs b' b) → SRen fs σ σ' js
  | [], [], _, _ => .nil
  | none :: σ', j :: js, hl, h => .gone (SRen.of σ' js (by simpa using hl) (fun i b' k h1 h2 => h (i + 1) b' k (by simpa using h1) (by simpa using h2)))
  | some b' :: σ', j :: js, hl, h => by
    obtain ⟨b, h1, h2⟩ := h 0 b' j rfl rfl
    exact .kept h1 h2 (SRen.of σ' js (by simpa using hl) (fun i b' k h1 h2 => h (i + 1) b' k (by simpa using h1) (by simpa using h2)))
  | [], _ :: _, hl, _ => by simp at hl
  | _ :: _, [], hl, _ => by simp at hl
theorem nodupB_of : ∀ (l : List Nat), l.Nodup → nodupB l = true
  | [], _ => rfl
  | x :: l, h => by
    rw [List.nodup_cons] at h
    simp [nodupB, h.1, nodupB_of l h.2]
theorem W_adoptRow {c : Code} {t : Tms} {σ : Sto} {Q : Exit → St → Prop} (i k e s : Nat) {e1 s1 n : Nat} {xs : List PV} (hi : σ[i]? = some (some (.row e1 s1 n xs))) (hk : xs[k]? = some (.raw (.slice none 0 0)))
    (h : W P N L c ⟨t, (σ ++ [some (Blk.row e s 0 [])]).set i (some (.row e1 s1 n (xs.set k (.own σ.length))))⟩ Q) : W P N L c ⟨t, σ⟩ Q := fun F base E₀ w₀ E a w hc hs => by
  obtain ⟨a1, a2, a3⟩ := adopt hs.sat e s
  have hil := (List.getElem?_eq_some_iff.1 hi).1
  have hi' : (σ ++ [some (Blk.row e s 0 [])])[i]? = some (some (.row e1 s1 n xs)) := by rw [List.getElem?_append_left hil]; exact hi
  obtain ⟨cs, h2, h3⟩ := a1.blk i _ hi'
  obtain ⟨cv, hcv, hrep⟩ := h3.get hk
  cases hrep
  have hb : ∃ b, blockOf ((E.push (.slice none 0 0)).at_ i) = some b := by
    rcases h2.2 with hz | ⟨g, cap, cur, hv, _⟩
    · have h4 := h2.1
      rw [hz.2, Nat.zero_mul] at h4
      rw [List.eq_nil_of_length_eq_zero h4] at hcv
      simp at hcv
    · exact ⟨g, by rw [hv]; rfl⟩
  obtain ⟨b, hb⟩ := hb
  obtain ⟨b1, b2⟩ := a1.turn hi' (b := b) hb (Nat.le_refl _) (fun _ _ _ => rfl) (bi' := .row e1 s1 n (xs.set k (.own σ.length))) ⟨cs, h2, by
    have := h3.set k a3
    rw [set_eq_of hcv] at this
    exact this⟩
  exact h F base E₀ w₀ _ a w (hc.on (a2.trans b2) (Below.refl _ _)) ⟨b1, (hs.tmp.goes a2).goes b2, hs.dfr, hs.size⟩

def ownsP (n : Nat) : List PV := (List.range n).map fun i => .own (i + 1)
/-- The store of a call that makes a row of rows of numbers. -/
def rsto (e1 e : TypeId) (rs : List (List Int)) : Sto := some (.row e1 1 rs.length (ownsP rs.length)) :: rs.map fun r => some (.row e 1 r.length (intsP r))
def stage (e1 e n k : Nat) : Sto := some (.row e1 1 n (ownsP k ++ List.replicate (n - k) (PV.raw (.slice none 0 0)))) :: List.replicate k (some (.row e 1 0 []))
theorem W_stage {c : Code} {t : Tms} {Q : Exit → St → Prop} (e1 e n : Nat) (h : W P N L c ⟨t, stage e1 e n n⟩ Q) : ∀ m k, k + m = n → W P N L c ⟨t, stage e1 e n k⟩ Q
  | 0, k, hk => by obtain rfl : k = n := by omega
                   exact h
  | m + 1, k, hk => by
    have ih := W_stage e1 e n h m (k + 1) (by omega)
    have hol : (ownsP k).length = k := by simp [ownsP]
    refine W_adoptRow 0 k e 1 (e1 := e1) (s1 := 1) (n := n) (xs := ownsP k ++ List.replicate (n - k) (PV.raw (.slice none 0 0))) rfl ?_ ?_
    · rw [List.getElem?_append_right (by omega), hol, List.getElem?_replicate, if_pos (by omega)]
    · have e2 : (stage e1 e n k ++ [some (Blk.row e 1 0 [])]).set 0 (some (.row e1 1 n ((ownsP k ++ List.replicate (n - k) (PV.raw (.slice none 0 0))).set k (.own (stage e1 e n k).length)))) = stage e1 e n (k + 1) := by
        unfold stage
        simp only [List.cons_append, List.set_cons_zero, List.length_cons, List.length_replicate]
        congr 3
        · rw [List.set_append_right _ _ (by omega), hol, Nat.sub_self, show n - k = (n - (k + 1)) + 1 by omega, List.replicate_succ, List.set_cons_zero]
          unfold ownsP
          rw [List.range_succ, List.map_append]
          simp
        · rw [List.replicate_succ']
      rw [e2]; exact ih
theorem W_adoptRows {c : Code} {t : Tms} {Q : Exit → St → Prop} (e1 e n : Nat) (h : W P N L c ⟨t, rsto e1 e (List.replicate n [])⟩ Q) : W P N L c ⟨t, [some (.row e1 1 n (zeros [.raw (.slice none 0 0)] n))]⟩ Q := by
  have := W_stage (P := P) (N := N) (L := L) (c := c) (t := t) (Q := Q) e1 e n (by
    have e2 : stage e1 e n n = rsto e1 e (List.replicate n []) := by
      unfold stage rsto
      simp [intsP]
    rw [e2]; exact h) n 0 (by omega)
  rw [zeros_one]
  simpa [stage, ownsP] using this
/-- A row has been laid anew. -/
def rfs (n k : Nat) : List Nat := 0 :: (List.range n).map fun i => if i = k then n + 1 else i + 1
theorem rfs_nodup (n k : Nat) : nodupB (rfs n k) = true := by
  apply nodupB_of
  unfold rfs
  rw [List.nodup_cons]
  constructor
  · simp only [List.mem_map, not_exists, not_and]
    intro i _ h
    split at h <;> omega
  · rw [List.nodup_iff_pairwise_ne, List.pairwise_map]
    refine List.Pairwise.imp_of_mem ?_ (List.nodup_iff_pairwise_ne.1 List.nodup_range)
    intro i j hi hj hij h
    have := List.mem_range.1 hi
    have := List.mem_range.1 hj
    split at h <;> split at h <;> omega
theorem rfs_get (n k i : Nat) (hi : i < n) : (rfs n k)[i + 1]? = some (if i = k then n + 1 else i + 1) := by
  unfold rfs
  simp [hi]
theorem owns_get (n i : Nat) (hi : i < n) : (ownsP n)[i]? = some (.own (i + 1)) := by simp [ownsP, hi]
theorem rsto_get (e1 e : TypeId) (rs : List (List Int)) (k : Nat) (hk : k < rs.length) : (rsto e1 e rs)[k + 1]? = some (some (.row e 1 (rs.getD k []).length (intsP (rs.getD k [])))) := by
  unfold rsto
  simp [hk]
theorem rsto_ren (e1 e : TypeId) (rs : List (List Int)) (k : Nat) (hk : k < rs.length) (x : Int) :
    SRen (rfs rs.length k) (((rsto e1 e rs).set (k + 1) none ++ [some (Blk.row e 1 ((rs.getD k []).length + 1) (intsP (rs.getD k []) ++ [.raw (.int .i64 x)]))]).set 0 (some (.row e1 1 rs.length (over (ownsP rs.length) k [.own (rsto e1 e rs).length])))) (rsto e1 e (rs.set k (rs.getD k [] ++ [x]))) (rfs rs.length k) := by
  have hol : (ownsP rs.length).length = rs.length := by simp [ownsP]
  have hlen : (rsto e1 e rs).length = rs.length + 1 := by simp [rsto]
  have hov : over (ownsP rs.length) k [.own (rsto e1 e rs).length] = (ownsP rs.length).set k (.own (rs.length + 1)) := by
    unfold over
    rw [hlen, List.set_eq_take_append_cons_drop, if_pos (by omega)]
    simp
  rw [hov]
  apply SRen.of
  · simp [rsto, rfs]
  · intro i b' j h1 h2
    cases i with
    | zero =>
      simp only [rsto, List.getElem?_cons_zero, Option.some.injEq, List.length_set] at h1
      simp only [rfs, List.getElem?_cons_zero, Option.some.injEq] at h2
      subst h1; subst h2
      refine ⟨.row e1 1 rs.length ((ownsP rs.length).set k (.own (rs.length + 1))), by simp [rsto], .row ⟨by simp, fun i a b k1 k2 => ?_⟩⟩
      have hi : i < rs.length := by have := (List.getElem?_eq_some_iff.1 k1).1; omega
      rw [owns_get _ _ hi] at k1
      cases k1
      rw [List.getElem?_set] at k2
      split at k2
      · rename_i e'; subst e'
        rw [if_pos (by omega)] at k2
        cases k2
        exact .own (by rw [rfs_get _ _ _ hi, if_pos rfl])
      · rename_i e'
        rw [owns_get _ _ hi] at k2
        cases k2
        exact .own (by rw [rfs_get _ _ _ hi, if_neg (Ne.symm e')])
    | succ i =>
      have hi : i < rs.length := by
        have := (List.getElem?_eq_some_iff.1 h1).1
        simp [rsto] at this
        exact this
      rw [rsto_get _ _ _ _ (by simpa using hi)] at h1
      rw [rfs_get _ _ _ hi] at h2
      cases h1
      by_cases e' : i = k
      · rw [if_pos e'] at h2
        cases h2
        subst e'
        refine ⟨.row e 1 ((rs.getD i []).length + 1) (intsP (rs.getD i []) ++ [.raw (.int .i64 x)]), ?_, ?_⟩
        · rw [List.getElem?_set_ne (by omega), List.getElem?_append_right (by simp [hlen])]
          simp [hlen]
        · have hg : (rs.set i (rs.getD i [] ++ [x])).getD i [] = rs.getD i [] ++ [x] := by simp [List.getD_eq_getElem?_getD, hi]
          rw [hg, intsP_snoc]
          exact .rowP (by simp) rfl
      · rw [if_neg e'] at h2
        cases h2
        refine ⟨.row e 1 (rs.getD i []).length (intsP (rs.getD i [])), ?_, ?_⟩
        · rw [List.getElem?_set_ne (by omega), List.getElem?_append_left (by simp [hlen]; omega), List.getElem?_set_ne (by omega), rsto_get _ _ _ _ hi]
        · have hg : (rs.set k (rs.getD k [] ++ [x])).getD i [] = rs.getD i [] := by simp [List.getD_eq_getElem?_getD, List.getElem?_set, Ne.symm e']
          rw [hg]
          exact .row RenL.pure
/-- Rows of numbers. -/
def rowsV (rs : List (List Int)) : PV := .slice rs.length (rs.map intsV)
instance (rs : List (List Int)) : IsPureL (rs.map intsV) := IsPureL.map _ _ fun _ => inferInstance
instance (rs : List (List Int)) : IsPure (rowsV rs) := by unfold rowsV; infer_instance
theorem rsto_pur (e1 e : TypeId) (rs : List (List Int)) : Pur (rsto e1 e rs) (.own 0) (rowsV rs) := by
  refine Pur.ownL rfl ⟨by simp [ownsP], fun i a b h1 h2 => ?_⟩
  have hi : i < rs.length := by have := (List.getElem?_eq_some_iff.1 h2).1; simpa using this
  rw [owns_get _ _ hi] at h1
  cases h1
  have : b = intsV (rs.getD i []) := by simpa [hi] using h2.symm
  subst this
  exact Pur.ownL (rsto_get e1 e rs i hi) PurL.pure
/-- For each node the arcs that belong to it. -/
def rowsL (f : Nat → Int) (n k : Nat) : List (List Int) := (List.range n).map fun (m : Nat) => ((List.range k).filter fun a => decide (f a = (m : Int))).map Int.ofNat
theorem rowsL_len (f : Nat → Int) (n k : Nat) : (rowsL f n k).length = n := by simp [rowsL]
theorem rowsL_get (f : Nat → Int) (n k m : Nat) (hm : m < n) : (rowsL f n k).getD m [] = ((List.range k).filter fun a => decide (f a = (m : Int))).map Int.ofNat := by simp [rowsL, hm]
theorem rowsL_zero (f : Nat → Int) (n : Nat) : rowsL f n 0 = List.replicate n [] := by
  apply List.ext_getElem?
  intro i
  simp only [rowsL, List.range_zero, List.filter_nil, List.map_nil, List.getElem?_map, List.getElem?_replicate]
  by_cases h : i < n <;> simp [h]
theorem rowsL_step (f : Nat → Int) (n k m : Nat) (hm : f k = (m : Int)) (hmn : m < n) : rowsL f n (k + 1) = (rowsL f n k).set m ((rowsL f n k).getD m [] ++ [(k : Int)]) := by
  apply List.ext_getElem?
  intro i
  rw [List.getElem?_set]
  by_cases h : i < n
  · have hl : i < (rowsL f n k).length := by rw [rowsL_len]; exact h
    by_cases e : m = i
    · subst e
      rw [if_pos rfl, if_pos hl, rowsL_get _ _ _ _ h]
      simp [rowsL, h, List.range_succ, List.filter_append, hm]
    · rw [if_neg e]
      simp [rowsL, h, List.range_succ, List.filter_append, hm]
      omega
  · have hl : ¬ i < (rowsL f n k).length := by rw [rowsL_len]; exact h
    have : (rowsL f n (k + 1))[i]? = none := by simp [rowsL, h]
    rw [this]
    split
    · rw [if_neg (by omega)]
    · simp [rowsL, h]
end
end PW
end Go.Proofs.YtkaalpdfppbdeaaDoor
