/- Texts of the proof, part 10. -/
import Derived.Test.YtkgepjiebihodaaCardSPB9
/- Lists of segments for a path, as plain mathematics; package encode's List. -/
namespace Go.Proofs.Ytkgepjiebihodaa
set_option linter.unusedVariables false
set_option linter.unusedSimpArgs false
namespace PW
open Go.RowKit Reg Mem Net

theorem segsP_snoc (l : List Seg) (e : Seg) : segsP l ++ segP e = segsP (l ++ [e]) := by simp [segsP]
theorem segsP_len (l : List Seg) : (segsP l).length = l.length * 2 := by
  induction l with
  | nil => rfl
  | cons a l ih => simp only [segsP, List.flatMap_cons, List.length_append, List.length_cons] at *; rw [ih]; simp [segP]; omega
/-- The greatest of the numbers i + 1 .. m with a property. -/
def topD (c : Nat → Bool) (i : Nat) : Nat → Option Nat
  | 0 => none
  | m + 1 => if m + 1 ≤ i then none else if c (m + 1) then some (m + 1) else topD c i m
theorem topD_some {c : Nat → Bool} {i j : Nat} (hij : i < j) (hc : c j = true) : ∀ m, j ≤ m → (∀ k, j < k → k ≤ m → c k = false) → topD c i m = some j
  | 0, h, _ => by omega
  | m + 1, h, hn => by
    unfold topD
    rw [if_neg (by omega)]
    by_cases e : j = m + 1
    · subst e; rw [if_pos hc]
    · rw [if_neg (by rw [hn (m + 1) (by omega) (by omega)]; simp)]
      exact topD_some hij hc m (by omega) (fun k h1 h2 => hn k h1 (by omega))
theorem topD_none {c : Nat → Bool} {i : Nat} : ∀ m, (∀ k, i < k → k ≤ m → c k = false) → topD c i m = none
  | 0, _ => rfl
  | m + 1, hn => by
    unfold topD
    by_cases e : m + 1 ≤ i
    · rw [if_pos e]
    · rw [if_neg e, if_neg (by rw [hn (m + 1) (by omega) (by omega)]; simp)]
      exact topD_none m (fun k h1 h2 => hn k h1 (by omega))
theorem topD_is {c : Nat → Bool} {i : Nat} : ∀ m j, topD c i m = some j → i < j ∧ j ≤ m ∧ c j = true ∧ ∀ k, j < k → k ≤ m → c k = false
  | 0, j, h => by cases h
  | m + 1, j, h => by
    unfold topD at h
    split at h
    · cases h
    · split at h
      · cases h; rename_i h1 h2; exact ⟨by omega, by omega, h2, fun k h3 h4 => by omega⟩
      · rename_i h1 h2
        obtain ⟨a, b, c1, d⟩ := topD_is m j h
        refine ⟨a, by omega, c1, fun k h3 h4 => ?_⟩
        by_cases e : k = m + 1
        · subst e; simpa using h2
        · exact d k h3 (by omega)
theorem topD_isNone {c : Nat → Bool} {i : Nat} : ∀ m, topD c i m = none → ∀ k, i < k → k ≤ m → c k = false
  | 0, _, k, h1, h2 => by omega
  | m + 1, h, k, h1, h2 => by
    unfold topD at h
    split at h
    · omega
    · split at h
      · cases h
      · rename_i h3 h4
        by_cases e : k = m + 1
        · subst e; simpa using h4
        · exact topD_isNone m h k h1 (by omega)
/-- The list of the part of a path from i on. -/
noncomputable def lstF (T : Topo) (D : List Bool) (n : Int) (p : List Int) : Nat → Nat → List Seg
  | 0, _ => []
  | f + 1, i => if i < p.length then (match topD (covB T D n p i) i p.length with
    | some j => ⟨1, endL T n (p.take j)⟩ :: lstF T D n p f j
    | none => ⟨2, p.getD i 0⟩ :: lstF T D n p f (i + 1)) else []
noncomputable def lstL (T : Topo) (D : List Bool) (n : Int) (p : List Int) : List Seg := lstF T D n p p.length 0
section
variable {T : Topo} {D : List Bool} {n : Int} {p : List Int}
theorem lst_end (f i : Nat) (h : p.length ≤ i) : lstF T D n p f i = [] := by
  cases f with
  | zero => rfl
  | succ f => simp only [lstF]; rw [if_neg (by omega)]
theorem lst_some {f i j : Nat} (hi : i < p.length) (hij : i < j) (hj : j ≤ p.length) (hc : covB T D n p i j = true) (hno : ∀ k, j < k → k ≤ p.length → covB T D n p i k = false) : lstF T D n p (f + 1) i = ⟨1, endL T n (p.take j)⟩ :: lstF T D n p f j := by
  simp only [lstF]
  rw [if_pos hi, topD_some hij hc p.length hj hno]
theorem lst_none {f i : Nat} (hi : i < p.length) (hno : ∀ k, i < k → k ≤ p.length → covB T D n p i k = false) : lstF T D n p (f + 1) i = ⟨2, p.getD i 0⟩ :: lstF T D n p f (i + 1) := by
  simp only [lstF]
  rw [if_pos hi, topD_none p.length hno]
theorem walk_take : ∀ {f : Bool} {x : Int} {l m : List Int}, walkE T f x (l ++ m) = 0 → walkE T f x l = 0 ∧ ∃ g, walkE T g (endL T x l) m = 0
  | f, x, [], m, h => ⟨rfl, f, h⟩
  | f, x, a :: l, m, h => by
    simp only [List.cons_append, walkE] at h ⊢
    split at h
    · omega
    · rename_i h1
      rw [if_neg h1]
      split at h
      · omega
      · rename_i h2
        rw [if_neg h2]
        exact walk_take h
theorem walk_ch (hv : validB T = true) : ∀ {f : Bool} {x : Nat} {l : List Int} {y : Nat}, walkE T f x l = 0 → (∀ a ∈ l, downN D a.toNat = false) → endL T x l = (y : Int) → Ch T D y x l
  | f, x, [], y, _, _, he => by
    have : y = x := by simp only [endL] at he; omega
    subst this
    exact .nil
  | f, x, a :: l, y, h, hd, he => by
    simp only [walkE] at h
    split at h
    · omega
    · rename_i h1
      split at h
      · omega
      · rename_i h2
        have hab : arcB T a = true := by simpa using h1
        obtain ⟨_, m, hm, hmN⟩ := arc_facts hv hab
        simp only [arcB, decide_eq_true_eq] at hab
        obtain ⟨b, rfl⟩ := Int.eq_ofNat_of_zero_le hab.1
        rw [Int.toNat_natCast] at hm
        simp only [endL, Int.toNat_natCast] at he h2 h
        rw [hm] at he h
        have hch := walk_ch hv h (fun c hc => hd c (by simp [hc])) he
        refine .cons (by omega) (Classical.byContradiction fun hn => h2 (.inl hn)) (hd b (by simp)) hm ?_ hch
        cases l with
        | nil => exact .inl rfl
        | cons c l =>
          right
          simp only [walkE] at h
          split at h
          · omega
          · split at h
            · omega
            · rename_i h4
              simp only [Int.toNat_natCast] at h4
              cases ho : overN T m with
              | false => rfl
              | true => exact absurd (.inr ⟨trivial, ho⟩) h4
/-- A path that is to be used. -/
structure Fol (T : Topo) (D : List Bool) (n : Int) (p : List Int) : Prop where
  valid : validB T = true
  fits : fitsB T D = true
  node : nodeB T n = true
  walk : walkE T true n p = 0
  up : ∀ a ∈ p, downN D a.toNat = false
theorem fol_of (h : folE T D n p = 0) : Fol T D n p := by
  unfold folE at h
  split at h
  · rename_i h1
    obtain ⟨hv, hf⟩ := Bool.and_eq_true_iff.1 h1
    split at h
    · rename_i h2
      obtain ⟨_, hn, hw⟩ := pathX_zero h2
      split at h
      · omega
      · rename_i h3
        exact ⟨hv, hf, hn, hw, fun a ha => by
          cases hd : downN D a.toNat with
          | false => rfl
          | true => exact absurd (List.any_eq_true.2 ⟨a, ha, hd⟩) h3⟩
    · omega
  · omega
theorem Fol.arcs (h : Fol T D n p) : ∀ a ∈ p, arcB T a = true := walk_arcs h.walk
/-- A part of the path. -/
def partL (p : List Int) (i j : Nat) : List Int := (p.drop i).take (j - i)
theorem take_part (p : List Int) {i j : Nat} (hij : i ≤ j) : p.take j = p.take i ++ partL p i j := by
  unfold partL
  have h : (p.take j) = (p.take j).take i ++ (p.take j).drop i := (List.take_append_drop i _).symm
  rw [h, List.take_take, Nat.min_eq_left hij, List.drop_take]
theorem part_len (p : List Int) {i j : Nat} (hij : i ≤ j) (hj : j ≤ p.length) : (partL p i j).length = j - i := by unfold partL; simp; omega
theorem Fol.ch (h : Fol T D n p) {i j u y : Nat} (hij : i ≤ j) (hj : j ≤ p.length) (hu : endL T n (p.take i) = (u : Int)) (hy : endL T n (p.take j) = (y : Int)) : Ch T D y u (partL p i j) := by
  have h1 : walkE T true n (p.take j) = 0 := (walk_take (l := p.take j) (m := p.drop j) (by rw [List.take_append_drop]; exact h.walk)).1
  rw [take_part p hij] at h1
  obtain ⟨_, g, hg⟩ := walk_take h1
  rw [hu] at hg
  refine walk_ch h.valid hg (fun a ha => h.up a ?_) ?_
  · exact List.mem_of_mem_drop (List.mem_of_mem_take ha)
  · rw [← hu, ← endL_append, ← take_part p hij]; exact hy
theorem part_cost (T : Topo) (p : List Int) {i j : Nat} (hij : i ≤ j) : costL T (p.take j) - costL T (p.take i) = costL T (partL p i j) := by
  rw [take_part p hij, costL_append]; omega
theorem cov_iff (h : Fol T D n p) {i j u y : Nat} (hij : i ≤ j) (hj : j ≤ p.length) (hu : endL T n (p.take i) = (u : Int)) (hy : endL T n (p.take j) = (y : Int)) : covB T D n p i j = true ↔ SP T D y u (partL p i j) ∧ cntS T D y u = 1 := by
  have hch := h.ch hij hj hu hy
  have ha := h.arcs
  obtain ⟨u', hu', huN⟩ := end_node h.valid h.node ha i (by omega)
  obtain ⟨y', hy', hyN⟩ := end_node h.valid h.node ha j hj
  have e1 : u' = u := by omega
  have e2 : y' = y := by omega
  subst e1
  subst e2
  have hne : nodeE T D (u' : Int) (y' : Int) = 0 := by
    unfold nodeE
    rw [if_pos (chk_of h.valid h.fits hyN), nodeB_iff.2 ⟨by omega, huN⟩]
    rfl
  unfold covB uniqB
  rw [hu, hy, Int.toNat_natCast, Int.toNat_natCast, part_cost T p hij, hne]
  simp only [decide_true, Bool.true_and, Bool.and_eq_true, decide_eq_true_eq]
  constructor
  · rintro ⟨h1, h2⟩; exact ⟨hch.sp h.valid hyN h1, h2⟩
  · rintro ⟨h1, h2⟩; exact ⟨(h1.cost h.valid hyN).1, h2⟩
theorem cov_far (h : Fol T D n p) {i j : Nat} (hij : i ≤ j) (hj : j ≤ p.length) (hc : covB T D n p i j = true) : (j : Int) - i < T.nodes := by
  have ha := h.arcs
  obtain ⟨u, hu, huN⟩ := end_node h.valid h.node ha i (by omega)
  obtain ⟨y, hy, hyN⟩ := end_node h.valid h.node ha j hj
  have := ((cov_iff h hij hj hu hy).1 hc).1.len_lt h.valid hyN
  rw [part_len p hij hj] at this
  omega
end
def segsE (e : Int) (l : List Seg) : PV := .tuple [segsV (if e = 0 then l else []), num e]
def srow (l : List Seg) : Option Blk := some (.row 56 2 l.length (segsP l))
theorem srow_pure (l : List Seg) : PureD (srow l) := fun b hb => by cases hb; exact (inferInstance : IsPureL (segsP l))
theorem follow_one (T : Topo) (D : List Bool) (p : List Int) (n : Int) (hp : p.length ≤ 1000) (hlk : T.links.length ≤ 256) : CanS Try.prog 34 [topoV T, boolsV D, intsV p, num n] [] (fun r σ' => ∃ x, r = .tuple [x, num (folE T D n p)] ∧ (folE T D n p = 0 → x = .ptr 4 0 ∧ σ' = trk T D p (ndL T n p) (csL T p) [] [])) :=
  CanS.mono (follow_can T D p n hp hlk) fun r σ' h => by
    rcases h with ⟨he, rfl⟩ | ⟨he, rfl, rfl⟩
    · exact ⟨_, rfl, fun h => absurd h he⟩
    · exact ⟨_, by rw [he], fun _ => ⟨rfl, rfl⟩⟩
set_option maxRecDepth 10000 in
set_option maxHeartbeats 2000000 in
theorem elist_can (T : Topo) (D : List Bool) (p : List Int) (n : Int) (hp : p.length ≤ 1000) (hlk : T.links.length ≤ 256) (h12 : T.nodes ≤ 12) : Can Try.prog 17 [topoV T, boolsV D, intsV p, num n] (· = segsE (folE T D n p) (lstL T D n p)) := by
  refine can_of Try.func17 rfl Try.ntmps17 rfl ?_
  refine W_cs (.a 3 rfl <| .k [1, 2, 3, 4] rfl) ?_
  refine W_scope ?_
  refine W_rs ?_
  refine WR_a 4 rfl <| WR_cS rfl rfl (CanS.mono (follow_one T D p n hp hlk) (fun r σ' h => ?_))
  obtain ⟨x, rfl, hx⟩ := h
  refine WR_a 5 rfl <| WR_k [2, 4, 10, 11] rfl ?_
  refine W_seq ?_
  refine W_cs (.a 2 rfl <| .k [2, 4, 10, 11, 24] rfl) ?_
  refine W_cond rfl (fun hc => ?_) (fun hc => ?_)
  · have he : folE T D n p ≠ 0 := tt hc
    refine W_cs (.a 3 rfl <| .k [8, 9] rfl) ?_
    refine W_ret ?_
    exact ⟨_, _, ResL.of rfl, Pur.tupleL (PurL.cons Pur.nils (PurL.cons Pur.pure PurL.nil)), by unfold segsE; rw [if_neg he]; rfl⟩
  · have he : folE T D n p = 0 := Classical.byContradiction (ff hc)
    obtain ⟨rfl, rfl⟩ := hx he
    have hF := fol_of he
    have hv := hF.valid
    have hS := sound_of hv
    have hN := hS.nodes
    have ha := hF.arcs
    obtain ⟨N, hNN⟩ : ∃ N : Nat, T.nodes = (N : Int) := ⟨T.nodes.toNat, by omega⟩
    rw [he]
    clear hc
    refine W_skip ?_
    refine W_cs (.a 1 rfl <| .k [2, 4, 10, 12] rfl) ?_
    refine W_adopt 12 56 2 rfl ?_
    refine W_cs (.a 1 rfl <| .k [2, 4, 10, 12, 13] rfl) ?_
    refine W_seq ?_
    refine W_label ?_
    refine W_seq ?_
    refine W_block ?_
    refine W_k [2, 4, 10, 12, 13] rfl ?_
    refine W_loop (fun r st => ∃ (l : List Seg) (i f : Nat) (dm : List (Int × PV)) (um : List ((Int × Int) × PV)), i ≤ p.length ∧ p.length - i ≤ f ∧ l.length ≤ i ∧ r = p.length - i ∧ lstL T D n p = l ++ lstF T D n p f i ∧ MemD T D dm ∧ MemU T D um ∧ st = ⟨[(2, intsV p), (4, .pin (topoP T) 0), (10, .ptr 4 0), (12, .own 5), (13, num i)], trk T D p (ndL T n p) (csL T p) dm um ++ [srow l]⟩) p.length ⟨[], 0, p.length, [], [], by omega, by omega, by simp, by omega, rfl, (fun _ _ h => by cases h), (fun _ _ h => by cases h), rfl⟩ ?_
    rintro r st ⟨l, i, f, dm, um, hi, hif, hli, rfl, hl, hdm, hum, rfl⟩
    refine W_seq ?_
    refine W_cs (.a 4 rfl <| .k [2, 4, 10, 12, 13, 29] rfl) ?_
    refine W_cond rfl (fun h1 => ?_) (fun h1 => ?_)
    · have hlt : i < p.length := by have := tt h1; omega
      refine W_skip ?_
      refine W_block ?_
      refine W_seq ?_
      obtain ⟨m, hm⟩ : ∃ m : Nat, min (p.length : Int) ((i : Int) + (N : Int) - 1) = (m : Int) := ⟨(min (p.length : Int) ((i : Int) + (N : Int) - 1)).toNat, by omega⟩
      have hfar : ∀ k, m < k → k ≤ p.length → covB T D n p i k = false := fun k h2 h3 => by
        cases hcv : covB T D n p i k with
        | false => rfl
        | true =>
          have := cov_far hF (i := i) (j := k) (by omega) h3 hcv
          omega
      refine W_cs (.a 4 rfl <| .v (y_ld rfl ((show some (num T.nodes) = some (num (N : Int)) by rw [hNN]))) rfl <| .v (y_ar rfl) rfl <| .v (y_ar rfl) rfl <| .v (y_min rfl rfl rfl (hm)) rfl <| .a 1 rfl <| .k [2, 4, 10, 12, 13, 14] rfl) ?_
      refine W_block ?_
      refine W_k [2, 4, 10, 12, 13, 14] rfl ?_
      refine W_loop (fun r st => ∃ (j : Nat) (dm : List (Int × PV)) (um : List ((Int × Int) × PV)), i ≤ j ∧ j ≤ p.length ∧ r = j ∧ (∀ k, j < k → k ≤ p.length → covB T D n p i k = false) ∧ MemD T D dm ∧ MemU T D um ∧ st = ⟨[(2, intsV p), (4, .pin (topoP T) 0), (10, .ptr 4 0), (12, .own 5), (13, num i), (14, num j)], trk T D p (ndL T n p) (csL T p) dm um ++ [srow l]⟩) m ⟨m, dm, um, by omega, by omega, rfl, hfar, hdm, hum, rfl⟩ ?_
      clear hdm hum
      rintro r st ⟨j, dm, um, hij, hj, rfl, hno, hdm, hum, rfl⟩
      refine W_seq ?_
      refine W_cs (.a 3 rfl <| .k [2, 4, 10, 12, 13, 14, 40] rfl) ?_
      refine W_cond rfl (fun h2 => ?_) (fun h2 => ?_)
      · have hlt2 : i < r := by have := tt h2; omega
        refine W_skip ?_
        refine W_seq ?_
        refine W_block ?_
        refine W_rs ?_
        refine WR_a 3 rfl <| WR_cS rfl rfl (CanS.mono (covered_can T D p n dm um (srow l) (srow_pure l) hv hF.fits h12 hF.node ha hp i r (by omega) hj hdm hum) (fun _ σ' h => ?_))
        obtain ⟨rfl, dm1, um1, hdm1, hum1, rfl⟩ := h
        refine WR_k [2, 4, 10, 12, 13, 14, 46] rfl ?_
        refine W_cond rfl (fun h3 => ?_) (fun h3 => ?_)
        · have hgj := ndL_get T n p r hj
          have hl1 := ndL_len T n p
          refine W_rs ?_
          refine WR_a 6 rfl <| WR_v (y_ix (r) rfl) rfl <| WR_v (y_ld rfl ((ints_get _ r (by omega)).trans (by rw [hgj]))) rfl <| WR_a 2 rfl <| WR_l (l_append rfl (fok.rk.get rfl) rfl rfl rfl rfl (by unfold maxLen; omega)) rfl <| WR_a 1 rfl ?_
          refine WR_ren [0, 1, 2, 3, 4, 6] (.c 2 <| .c 4 <| .c 10 <| .c 12 <| .c 14 <| .nil) (.kept rfl (.row RenL.pure) <| .kept rfl (.row RenL.pure) <| .same (MemD.pure hdm1) rfl <| .same (MemU.pure hum1) rfl <| .kept rfl (.cells (RenL.c <| RenL.c <| RenL.c <| RenL.c <| RenL.c <| RenL.c <| RenL.c <| RenL.c <| RenL.c <| RenL.nil)) <| .kept rfl (.rowP rfl (segsP_snoc _ ⟨1, endL T n (p.take r)⟩)) <| .nil) rfl rfl (WR_nil ?_)
          refine W_cs (.a 2 rfl <| .k [2, 4, 10, 12, 13] rfl) ?_
          refine W_exit ?_
          cases f with
          | zero => omega
          | succ f =>
            first
              | (refine ⟨p.length - r, by omega, l ++ [⟨1, endL T n (p.take r)⟩], r, f, dm1, um1, by omega, by omega, by simp; omega, rfl, ?_, hdm1, hum1, ?_⟩
                 · rw [hl, lst_some hlt hlt2 hj h3 hno, List.append_assoc]; rfl
                 · unfold srow; simp only [List.length_append, List.length_singleton]; rfl)
              | (refine ⟨p.length - (i + 1), by omega, l ++ [⟨2, p.getD i 0⟩], i + 1, f, dm, um, by omega, by omega, by simp; omega, rfl, ?_, hdm, hum, ?_⟩
                 · rw [hl, lst_none hlt hno2, List.append_assoc]; rfl
                 · unfold srow; simp only [List.length_append, List.length_singleton]; rfl)
        · skip
          refine W_skip ?_
          refine W_chain (.a 1 rfl <| .v (y_ar rfl) rfl <| .a 1 rfl <| .k [2, 4, 10, 12, 13, 14] rfl) ?_
          refine ⟨r - 1, by omega, r - 1, dm1, um1, by omega, by omega, rfl, fun k h4 h5 => ?_, hdm1, hum1, ?_⟩
          · by_cases e : k = r
            · rw [e]; exact h3
            · exact hno k (by omega) h5
          · rw [show ((r - 1 : Nat) : Int) = (r : Int) - 1 by omega]
      · have hno2 : ∀ k, i < k → k ≤ p.length → covB T D n p i k = false := fun k h3 h4 => hno k (by have := ff h2; omega) h4
        refine W_exit ?_
        refine W_rs ?_
        refine WR_a 3 rfl <| WR_v (y_ix (i) rfl) rfl <| WR_v (y_ld rfl (ints_get _ i hlt)) rfl <| WR_a 2 rfl <| WR_l (l_append rfl (fok.rk.get rfl) rfl rfl rfl rfl (by unfold maxLen; omega)) rfl <| WR_a 1 rfl ?_
        refine WR_ren [0, 1, 2, 3, 4, 6] (.c 2 <| .c 4 <| .c 10 <| .c 12 <| .c 13 <| .nil) (.kept rfl (.row RenL.pure) <| .kept rfl (.row RenL.pure) <| .same (MemD.pure hdm) rfl <| .same (MemU.pure hum) rfl <| .kept rfl (.cells (RenL.c <| RenL.c <| RenL.c <| RenL.c <| RenL.c <| RenL.c <| RenL.c <| RenL.c <| RenL.c <| RenL.nil)) <| .kept rfl (.rowP rfl (segsP_snoc _ ⟨2, p.getD i 0⟩)) <| .nil) rfl rfl (WR_nil ?_)
        refine W_chain (.a 1 rfl <| .v (y_ar rfl) rfl <| .a 1 rfl <| .k [2, 4, 10, 12, 13] rfl) ?_
        cases f with
        | zero => omega
        | succ f =>
          first
            | (refine ⟨p.length - r, by omega, l ++ [⟨1, endL T n (p.take r)⟩], r, f, dm1, um1, by omega, by omega, by simp; omega, rfl, ?_, hdm1, hum1, ?_⟩
               · rw [hl, lst_some hlt hlt2 hj h3 hno, List.append_assoc]; rfl
               · unfold srow; simp only [List.length_append, List.length_singleton]; rfl)
            | (refine ⟨p.length - (i + 1), by omega, l ++ [⟨2, p.getD i 0⟩], i + 1, f, dm, um, by omega, by omega, by simp; omega, rfl, ?_, hdm, hum, ?_⟩
               · rw [hl, lst_none hlt hno2, List.append_assoc]; rfl
               · unfold srow; simp only [List.length_append, List.length_singleton]; rfl)
    · have hie : i = p.length := by have := ff h1; omega
      rw [lst_end f i (by omega), List.append_nil] at hl
      refine W_exit ?_
      refine W_cs (.a 3 rfl <| .k [8, 9] rfl) ?_
      refine W_ret ?_
      exact ⟨_, _, ResL.of rfl, Pur.tupleL (PurL.cons (Pur.ownL rfl PurL.pure) (PurL.cons Pur.pure PurL.nil)), by unfold segsE; rw [if_pos rfl, hl]; rfl⟩
end PW
end Go.Proofs.Ytkgepjiebihodaa

/- Parts of covered parts are covered; the greedy list is the shortest. Plain mathematics. -/
namespace Go.Proofs.Ytkgepjiebihodaa
set_option linter.unusedVariables false
set_option linter.unusedSimpArgs false
namespace PW
open Go.RowKit Reg Mem Net
section
variable {T : Topo} {D : List Bool} {d : Nat}
/-- Where there is not only one shortest path, there are two. -/
theorem cnt_two (hv : validB T = true) (hd : (d : Int) < T.nodes) : ∀ (K m : Nat), (m : Int) < T.nodes → 0 ≤ dN T D d m → dN T D d m ≤ K → cntS T D d m ≠ 1 → ∃ p q, SP T D d m p ∧ SP T D d m q ∧ p ≠ q
  | K, m, hmN, h0, hK, hc => by
    by_cases hmd : m = d
    · subst hmd; exact absurd (cnt_self m) hc
    · obtain ⟨k, hk⟩ := next_ex (D := D) hv hmN hd hmd h0
      have hmem := next_of hk ((sound_of hv).cost k hk.arc).1
      cases hx : nextL T D m d with
      | nil => rw [hx] at hmem; cases hmem
      | cons a l =>
        obtain ⟨b, rfl, hb⟩ := next_mem (T := T) (D := D) (n := m) (d := d) (a := a) (by rw [hx]; simp)
        obtain ⟨x, hxh, hxN⟩ := head_nat hv hb.arc
        have gx := hb.dN hxh
        have cx := (sound_of hv).cost b hb.arc
        cases l with
        | nil =>
          cases K with
          | zero => omega
          | succ K =>
            have hcx : cntS T D d x ≠ 1 := fun h => hc (cnt_of_one hv hd hmN hmd hx hxh h)
            obtain ⟨p, q, h1, h2, h3⟩ := cnt_two hv hd K x hxN gx.1 (by omega) hcx
            exact ⟨b :: p, b :: q, .cons hb hxh h1, .cons hb hxh h2, fun e => h3 (List.cons.inj e).2⟩
        | cons a2 l =>
          obtain ⟨b2, rfl, hb2⟩ := next_mem (T := T) (D := D) (n := m) (d := d) (a := a2) (by rw [hx]; simp)
          obtain ⟨x2, hxh2, hxN2⟩ := head_nat hv hb2.arc
          have gx2 := hb2.dN hxh2
          refine ⟨b :: spathL T D x d, b2 :: spathL T D x2 d, .cons hb hxh (spath_sp hv hd hxN gx.1), .cons hb2 hxh2 (spath_sp hv hd hxN2 gx2.1), fun e => ?_⟩
          have he := (List.cons.inj e).1
          have hlt := next_sorted T D m d
          rw [hx] at hlt
          have := (List.pairwise_cons.1 hlt).1 (b2 : Int) (by simp)
          omega
/-- Paths one after the other. -/
theorem Ch.append {e n : Nat} {p q : List Int} (h : Ch T D e n p) (hq : Ch T D d e q) (ho : q = [] ∨ overN T e = false) : Ch T D d n (p ++ q) := by
  induction h with
  | nil => exact hq
  | @cons n a m p ha ht hu hm hov hp ih =>
    refine .cons ha ht hu hm ?_ ih
    rcases hov with h | h
    · subst h
      have := hp.to rfl
      subst this
      rcases ho with h | h
      · subst h; exact .inl rfl
      · exact .inr h
    · exact .inr h
/-- The end of a shortest path is one, and the only one if the whole is. -/
theorem SP.suffix (hv : validB T = true) (hd : (d : Int) < T.nodes) {e : Nat} : ∀ {n : Nat} {p q : List Int}, SP T D d n (p ++ q) → cntS T D d n = 1 → Ch T D e n p → SP T D d e q ∧ cntS T D d e = 1
  | n, [], q, h, hc, hch => by
    have := hch.to rfl
    subst this
    exact ⟨h, hc⟩
  | n, a :: p, q, h, hc, hch => by
    cases h with
    | @cons _ b m _ h1 hm hp =>
      cases hch with
      | @cons _ b2 m2 _ _ _ _ hm2 _ hch2 =>
        have : m2 = m := by rw [hm] at hm2; omega
        subst this
        obtain ⟨b3, h3, _, h4⟩ := cnt_one hv hd (h1.node hv) h1.ne hc
        have e1 := next_of h1 ((sound_of hv).cost b h1.arc).1
        rw [h3] at e1
        simp only [List.mem_singleton] at e1
        have : b3 = b := by omega
        subst this
        exact SP.suffix hv hd hp (h4 m2 hm) hch2
/-- The beginning of an only shortest path is one. -/
theorem SP.pre (hv : validB T = true) (hd : (d : Int) < T.nodes) {e n : Nat} {p q : List Int} (he : (e : Int) < T.nodes) (h : SP T D d n (p ++ q)) (hc : cntS T D d n = 1) (hp : Ch T D e n p) (hq : Ch T D d e q) (ho : q = [] ∨ overN T e = false) : SP T D e n p ∧ cntS T D e n = 1 := by
  have hcost := (h.cost hv hd).1
  rw [costL_append] at hcost
  have hle := hp.le hv he
  have hn := hp.node hv he
  have hspe : SP T D e n p := by
    refine hp.sp hv he ?_
    have hs := spath_sp hv he hn hle.1
    have hc2 := (hs.cost hv he).1
    have := ((hs.ch).append hq ho).le hv hd
    rw [costL_append] at this
    omega
  refine ⟨hspe, Classical.byContradiction fun h1 => ?_⟩
  obtain ⟨p1, p2, g1, g2, g3⟩ := cnt_two hv he (dN T D e n).toNat n hn hle.1 (by omega) h1
  have key : ∀ r, SP T D e n r → SP T D d n (r ++ q) := fun r hr => by
    refine ((hr.ch).append hq ho).sp hv hd ?_
    rw [costL_append, hcost, ← (hr.cost hv he).1, (hspe.cost hv he).1]
  have := (key p1 g1).unique hv hd (key p2 g2) hc
  exact g3 (List.append_cancel_right this)
theorem Ch.mid {e : Nat} : ∀ {n : Nat} {p q : List Int}, Ch T D d n (p ++ q) → p ≠ [] → Ch T D e n p → q = [] ∨ overN T e = false
  | n, [], q, _, h, _ => absurd rfl h
  | n, a :: p, q, h, _, hch => by
    cases h with
    | @cons _ b m _ _ _ _ hm hov hp =>
      cases hch with
      | @cons _ b2 m2 _ _ _ _ hm2 _ hch2 =>
        have : m2 = m := by rw [hm] at hm2; omega
        subst this
        cases p with
        | nil =>
          have := hch2.to rfl
          subst this
          exact hov
        | cons c p => exact Ch.mid hp (by simp) hch2
variable {n : Int} {p : List Int}
theorem part_split (p : List Int) {i j k : Nat} (h1 : i ≤ j) (h2 : j ≤ k) : partL p i k = partL p i j ++ partL p j k := by
  have e1 := take_part p (show i ≤ k by omega)
  have e2 := take_part p h2
  rw [take_part p h1, List.append_assoc] at e2
  rw [e1] at e2
  exact List.append_cancel_left e2
theorem cov_sub (h : Fol T D n p) {i j i' j' : Nat} (h1 : i ≤ i') (h2 : i' < j') (h3 : j' ≤ j) (hj : j ≤ p.length) (hc : covB T D n p i j = true) : covB T D n p i' j' = true := by
  have ha := h.arcs
  have hv := h.valid
  obtain ⟨u, hu, huN⟩ := end_node hv h.node ha i (by omega)
  obtain ⟨y, hy, hyN⟩ := end_node hv h.node ha j hj
  obtain ⟨u', hu', huN'⟩ := end_node hv h.node ha i' (by omega)
  obtain ⟨y', hy', hyN'⟩ := end_node hv h.node ha j' (by omega)
  obtain ⟨c1, c2⟩ := (cov_iff h (by omega) hj hu hy).1 hc
  rw [part_split p h1 (show i' ≤ j by omega)] at c1
  obtain ⟨c3, c4⟩ := c1.suffix hv hyN c2 (h.ch h1 (by omega) hu hu')
  rw [part_split p (show i' ≤ j' by omega) h3] at c3
  have hp := h.ch (show i' ≤ j' by omega) (by omega) hu' hy'
  have hq := h.ch h3 hj hy' hy
  have ho := c3.ch.mid (e := y') (by
    intro e
    have := part_len p (show i' ≤ j' by omega) (by omega)
    rw [e] at this
    simp at this
    omega) hp
  exact (cov_iff h (by omega) (by omega) hu' hy').2 (c3.pre hv hyN hyN' c4 hp hq ho)
/-- How many segments the list from i on has. -/
noncomputable def gN (T : Topo) (D : List Bool) (n : Int) (p : List Int) (i : Nat) : Nat := (lstF T D n p (p.length - i) i).length
theorem lst_fuel : ∀ (f g i : Nat), p.length - i ≤ f → p.length - i ≤ g → lstF T D n p f i = lstF T D n p g i
  | f, g, i, hf, hg => by
    by_cases hi : i < p.length
    · cases f with
      | zero => omega
      | succ f =>
        cases g with
        | zero => omega
        | succ g =>
          simp only [lstF]
          rw [if_pos hi, if_pos hi]
          cases ht : topD (covB T D n p i) i p.length with
          | none => simp only; rw [lst_fuel f g (i + 1) (by omega) (by omega)]
          | some j =>
            have := topD_is _ _ ht
            simp only; rw [lst_fuel f g j (by omega) (by omega)]
    · rw [lst_end f i (by omega), lst_end g i (by omega)]
theorem gN_end {i : Nat} (h : p.length ≤ i) : gN T D n p i = 0 := by unfold gN; rw [lst_end _ _ h]; rfl
theorem gN_some {i j : Nat} (hi : i < p.length) (ht : topD (covB T D n p i) i p.length = some j) : gN T D n p i = 1 + gN T D n p j := by
  unfold gN
  obtain ⟨f, hf⟩ : ∃ f, p.length - i = f + 1 := ⟨p.length - i - 1, by omega⟩
  have := topD_is _ _ ht
  rw [hf]
  simp only [lstF]
  rw [if_pos hi, ht]
  simp only [List.length_cons]
  rw [lst_fuel f (p.length - j) j (by omega) (by omega)]
  omega
theorem gN_none {i : Nat} (hi : i < p.length) (ht : topD (covB T D n p i) i p.length = none) : gN T D n p i = 1 + gN T D n p (i + 1) := by
  unfold gN
  obtain ⟨f, hf⟩ : ∃ f, p.length - i = f + 1 := ⟨p.length - i - 1, by omega⟩
  rw [hf]
  simp only [lstF]
  rw [if_pos hi, ht]
  simp only [List.length_cons]
  rw [lst_fuel f (p.length - (i + 1)) (i + 1) (by omega) (by omega)]
  omega
/-- From a later node on, the list is not longer. -/
theorem gN_mono (h : Fol T D n p) : ∀ (K i i' : Nat), p.length - i ≤ K → i ≤ i' → gN T D n p i' ≤ gN T D n p i
  | K, i, i', hK, hii => by
    by_cases he : i = i'
    · subst he; exact Nat.le_refl _
    · by_cases hi : i < p.length
      · by_cases hi' : i' < p.length
        · cases K with
          | zero => omega
          | succ K =>
            cases ht : topD (covB T D n p i) i p.length with
            | none =>
              rw [gN_none hi ht]
              have := gN_mono h K (i + 1) i' (by omega) (by omega)
              omega
            | some j =>
              have hj := topD_is _ _ ht
              rw [gN_some hi ht]
              by_cases hij : j ≤ i'
              · have := gN_mono h K j i' (by omega) hij
                omega
              · have hcs := cov_sub h (i := i) (j := j) (i' := i') (j' := j) (by omega) (by omega) (Nat.le_refl _) hj.2.1 hj.2.2.1
                cases ht' : topD (covB T D n p i') i' p.length with
                | none =>
                  have := topD_isNone _ ht' j (by omega) hj.2.1
                  rw [hcs] at this
                  cases this
                | some j2 =>
                  have hj2 := topD_is _ _ ht'
                  rw [gN_some hi' ht']
                  have hjj : j ≤ j2 := Nat.not_lt.1 fun hlt => by
                    have := hj2.2.2.2 j hlt hj.2.1
                    rw [hcs] at this
                    cases this
                  have := gN_mono h K j j2 (by omega) hjj
                  omega
        · rw [gN_end (by omega)]; omega
      · rw [gN_end (show p.length ≤ i' by omega)]; omega
/-- No way to part the path is shorter: the next part may be any arc or any covered part. -/
theorem gN_le (h : Fol T D n p) {i k : Nat} (hi : i < p.length) (hk : k = i + 1 ∨ (i < k ∧ k ≤ p.length ∧ covB T D n p i k = true)) : gN T D n p i ≤ 1 + gN T D n p k := by
  cases ht : topD (covB T D n p i) i p.length with
  | none =>
    rw [gN_none hi ht]
    rcases hk with rfl | ⟨h1, h2, h3⟩
    · exact Nat.le_refl _
    · have := topD_isNone _ ht k h1 h2
      rw [h3] at this
      cases this
  | some j =>
    have hj := topD_is _ _ ht
    rw [gN_some hi ht]
    have hkj : k ≤ j := by
      rcases hk with rfl | ⟨h1, h2, h3⟩
      · exact hj.1
      · exact Nat.not_lt.1 fun hlt => by
          have := hj.2.2.2 k hlt h2
          rw [h3] at this
          cases this
    have := gN_mono h (p.length - k) k j (Nat.le_refl _) hkj
    omega
theorem gN_get {i : Nat} (hi : i < p.length) : gN T D n p i = 1 + gN T D n p (i + 1) ∨ ∃ k, i < k ∧ k ≤ p.length ∧ covB T D n p i k = true ∧ gN T D n p i = 1 + gN T D n p k := by
  cases ht : topD (covB T D n p i) i p.length with
  | none => exact .inl (gN_none hi ht)
  | some j => have hj := topD_is _ _ ht; exact .inr ⟨j, hj.1, hj.2.1, hj.2.2.1, gN_some hi ht⟩
end
end PW
end Go.Proofs.Ytkgepjiebihodaa

/- The reference of layer 20: Check, Covers, List. -/
namespace Go.Proofs.Ytkgepjiebihodaa
set_option linter.unusedVariables false
set_option linter.unusedSimpArgs false
namespace PW
open Go.RowKit Reg Mem Net

noncomputable def covQ (T : Topo) (D : List Bool) (x y : Nat) (q : List Int) : Bool := (decide (spE T D x y = 0) && uniqB T D x y) && sameB (if spE T D x y = 0 then spathL T D x y else []) q
section
variable {T : Topo} {D : List Bool} {n : Int} {p : List Int}
theorem part_first (p : List Int) {i k : Nat} (hik : i < k) (hk : k ≤ p.length) : (partL p i k).getD 0 0 = p.getD i 0 := by
  unfold partL
  rw [List.getD_eq_getElem?_getD, List.getElem?_take, if_pos (by omega), List.getElem?_drop, List.getD_eq_getElem?_getD, Nat.add_zero]
theorem part_get (p : List Int) {i k m : Nat} (hm : m < k - i) : (partL p i k).getD m 0 = p.getD (i + m) 0 := by
  unfold partL
  rw [List.getD_eq_getElem?_getD, List.getElem?_take, if_pos hm, List.getElem?_drop, List.getD_eq_getElem?_getD]
theorem part_mem {i k : Nat} {a : Int} (h : a ∈ partL p i k) : a ∈ p := List.mem_of_mem_drop (List.mem_of_mem_take h)
theorem cov_ref (h : Fol T D n p) {i k x y : Nat} (hik : i < k) (hk : k ≤ p.length) (hx : endL T n (p.take i) = (x : Int)) (hy : endL T n (p.take k) = (y : Int)) : covQ T D x y (partL p i k) = covB T D n p i k := by
  have ha := h.arcs
  have hv := h.valid
  obtain ⟨x', hx', hxN⟩ := end_node hv h.node ha i (by omega)
  obtain ⟨y', hy', hyN⟩ := end_node hv h.node ha k hk
  have e1 : x' = x := by omega
  have e2 : y' = y := by omega
  subst e1
  subst e2
  have hne : nodeE T D (x' : Int) (y' : Int) = 0 := by
    unfold nodeE
    rw [if_pos (chk_of hv h.fits hyN), nodeB_iff.2 ⟨by omega, hxN⟩]
    rfl
  have hi := cov_iff h (by omega) hk hx hy
  have hsp : spE T D (x' : Int) (y' : Int) = if dN T D y' x' < 0 then 11 else 0 := by unfold spE; rw [if_pos hne]; simp only [Int.toNat_natCast]
  rw [Bool.eq_iff_iff, hi]
  by_cases h0 : dN T D y' x' < 0
  · rw [if_pos h0] at hsp
    unfold covQ
    rw [hsp]
    constructor
    · intro h; cases h
    · rintro ⟨h1, _⟩; have := (h1.cost hv hyN).2; omega
  · rw [if_neg h0] at hsp
    unfold covQ uniqB sameB
    rw [hsp, hne, if_pos rfl]
    simp only [Int.toNat_natCast, decide_true, Bool.true_and, Bool.and_eq_true, decide_eq_true_eq]
    constructor
    · rintro ⟨h2, h3⟩
      exact ⟨by rw [← h3]; exact spath_sp hv hyN hxN (by omega), h2⟩
    · rintro ⟨h1, h2⟩
      exact ⟨h2, (spath_sp hv hyN hxN (by omega)).unique hv hyN h1 h2⟩
theorem part_tail (h : Fol T D n p) {i : Nat} (hi : i < p.length) {x : Nat} (hx : endL T n (p.take i) = (x : Int)) : tailN T (p.getD i 0).toNat = (x : Int) := by
  have ha := h.arcs
  obtain ⟨y, hy, hyN⟩ := end_node h.valid h.node ha (i + 1) hi
  have hch := h.ch (i := i) (j := i + 1) (by omega) hi hx hy
  have hp : partL p i (i + 1) = [p.getD i 0] := by
    unfold partL
    rw [drop_cons p i hi, show i + 1 - i = 1 by omega]
    rfl
  rw [hp] at hch
  generalize p.getD i 0 = a at hch
  cases hch with
  | cons _ h2 _ _ _ _ => exact h2
end
theorem y_part {P : Program} {σ : Sto} {t : Tms} {o : Oper} {ty e i k : Nat} {x lo hi' : Operand} {L : List Int} (ho : o.op = .slice ty x (some lo) (some hi') none) (he : elK P ty = some (e, 1)) (hx : evalO t x = some (intsV L)) (hlo : evalO t lo = some (num i)) (hhi : evalO t hi' = some (num k)) (hik : i ≤ k) (hk : k ≤ L.length) : Yield P σ t o (intsV (partL L i k)) := by
  have := y_sliceLoHi (σ := σ) ho he hx hlo hhi (by rw [intsP_len]; omega) rfl rfl hik hk
  have e1 : intsV (partL L i k) = .slice (k - i) (((intsP L).drop (i * 1)).take ((k - i) * 1)) := by
    unfold intsV
    rw [part_len L hik hk, Nat.mul_one, Nat.mul_one]
    unfold partL intsP
    rw [List.map_take, List.map_drop]
  rw [e1]
  exact this
/-- The segment and the end of the next part, as far as m. -/
noncomputable def bestS (T : Topo) (D : List Bool) (n : Int) (p : List Int) (i m : Nat) : Seg × Nat := match topD (covB T D n p i) i m with
  | some j => (⟨1, endL T n (p.take j)⟩, j)
  | none => (⟨2, p.getD i 0⟩, i + 1)
section
variable {T : Topo} {D : List Bool} {n : Int} {p : List Int}
theorem best_start (i : Nat) : bestS T D n p i i = (⟨2, p.getD i 0⟩, i + 1) := by
  unfold bestS
  rw [topD_none i (fun k h1 h2 => by omega)]
theorem best_yes {i m : Nat} (h : i ≤ m) (hc : covB T D n p i (m + 1) = true) : bestS T D n p i (m + 1) = (⟨1, endL T n (p.take (m + 1))⟩, m + 1) := by
  unfold bestS
  rw [topD_some (j := m + 1) (by omega) hc (m + 1) (by omega) (fun k h1 h2 => by omega)]
theorem best_no {i m : Nat} (h : i ≤ m) (hc : covB T D n p i (m + 1) = false) : bestS T D n p i (m + 1) = bestS T D n p i m := by
  unfold bestS
  have : topD (covB T D n p i) i (m + 1) = topD (covB T D n p i) i m := by
    rw [topD, if_neg (by omega), if_neg (by rw [hc]; simp)]
  rw [this]
theorem best_end {f i : Nat} (hi : i < p.length) : lstF T D n p (f + 1) i = (bestS T D n p i p.length).1 :: lstF T D n p f (bestS T D n p i p.length).2 := by
  unfold bestS
  simp only [lstF]
  rw [if_pos hi]
  cases topD (covB T D n p i) i p.length <;> rfl
theorem best_next (i : Nat) (hi : i < p.length) : i < (bestS T D n p i p.length).2 ∧ (bestS T D n p i p.length).2 ≤ p.length := by
  unfold bestS
  cases h : topD (covB T D n p i) i p.length with
  | none => exact ⟨by simp, by simp; omega⟩
  | some j => have := topD_is _ _ h; exact ⟨this.1, this.2.1⟩
end
end PW
end Go.Proofs.Ytkgepjiebihodaa

/- The ends of segments: package segment's Valid, End, the reference's. -/
namespace Go.Proofs.Ytkgepjiebihodaa
set_option linter.unusedVariables false
set_option linter.unusedSimpArgs false
namespace PW
open Go.RowKit Reg Mem Net

/-- The end of a segment from a node of a valid topology, or the error. -/
def endS (T : Topo) (s : Seg) (n : Int) : Int × Int := if segB T s = false then (0, 1) else if nodeB T n = false then (0, 2) else if s.kind = 1 then (s.num, 0) else if s.kind = 2 then (if tailN T s.num.toNat ≠ n then (0, 4) else (headN T s.num.toNat, 0)) else (0, 7)
def endV (x : Int × Int) : PV := .tuple [num x.1, num x.2]
set_option maxRecDepth 10000 in
set_option maxHeartbeats 1000000 in
theorem svalid_can (T : Topo) (hv : validB T = true) (s : Seg) : Can Try.prog 85 [topoV T, segV s] (· = flag (segB T s)) := by
  obtain ⟨p1, hp1⟩ : ∃ q, validB T = q := ⟨_, rfl⟩
  obtain ⟨p2, hp2⟩ : ∃ q, segB T s = q := ⟨_, rfl⟩
  have hll := links_le hv
  rw [hp2]
  have e1 : p1 = true := by rw [← hp1]; exact hv
  refine can_of Try.func85 rfl Try.ntmps85 rfl ?_
  refine W_cs (.a 3 rfl <| .k [2, 3] rfl) ?_
  refine W_csK 4 (.raw (.bool (p1 && p2))) [] rfl ?_ ?_
  · refine .a 1 rfl <| .c rfl (hp1 ▸ valid_can T) rfl <| .a 1 rfl <| ?_
    cases p1
    · exact .a 5 rfl <| .k [4] rfl
    · exact .a 2 rfl <| .c rfl (hp2 ▸ segm_can T (by omega) s) rfl <| .a 2 rfl <| .k [4] rfl
  refine W_ret ?_
  exact ⟨_, _, ResL.of rfl, Pur.pure, by rw [e1]; rfl⟩
set_option maxRecDepth 10000 in
set_option maxHeartbeats 1000000 in
theorem send_can (T : Topo) (hv : validB T = true) (s : Seg) (n : Int) : Can Try.prog 70 [topoV T, segV s, num n] (· = endV (endS T s n)) := by
  have hll := links_le hv
  refine can_of Try.func70 rfl Try.ntmps70 rfl ?_
  refine W_cs (.a 4 rfl <| .k [2, 3, 4] rfl) ?_
  refine W_seq ?_
  refine W_cs (.a 2 rfl <| .c rfl (svalid_can T hv s) rfl <| .a 1 rfl <| .k [2, 3, 4, 11] rfl) ?_
  refine W_cond rfl (fun h1 => ?_) (fun h1 => ?_)
  · have hs : segB T s = false := by simpa using h1
    refine W_cs (.a 2 rfl <| .k [6, 7] rfl) ?_
    refine W_ret ?_
    exact ⟨_, _, ResL.of rfl, Pur.pure, by unfold endS; rw [if_pos hs]; rfl⟩
  · have hs : ¬ segB T s = false := by simpa using h1
    have hst : segB T s = true := by simpa using h1
    refine W_skip ?_
    refine W_seq ?_
    refine W_cs (.a 2 rfl <| .c rfl (node_can T n) rfl <| .a 1 rfl <| .k [2, 3, 4, 15] rfl) ?_
    refine W_cond rfl (fun h2 => ?_) (fun h2 => ?_)
    · have hn : nodeB T n = false := by simpa using h2
      refine W_cs (.a 2 rfl <| .k [6, 7] rfl) ?_
      refine W_ret ?_
      exact ⟨_, _, ResL.of rfl, Pur.pure, by unfold endS; rw [if_neg hs, if_pos hn]; rfl⟩
    · have hn : ¬ nodeB T n = false := by simpa using h2
      refine W_skip ?_
      refine W_seq ?_
      refine W_cs (.a 2 rfl <| .k [2, 3, 4, 17] rfl) ?_
      refine W_block ?_
      refine W_cs (.a 2 rfl <| .k [2, 3, 4, 17, 18] rfl) ?_
      refine W_cond rfl (fun h3 => ?_) (fun h3 => ?_)
      · have hk : s.kind = 1 := tt h3
        refine W_cs (.a 4 rfl <| .k [6, 7] rfl) ?_
        refine W_ret ?_
        exact ⟨_, _, ResL.of rfl, Pur.pure, by unfold endS; rw [if_neg hs, if_neg hn, if_pos hk]; rfl⟩
      · have hk : ¬ s.kind = 1 := ff h3
        refine W_cs (.a 2 rfl <| .k [2, 3, 4, 22] rfl) ?_
        refine W_cond rfl (fun h4 => ?_) (fun h4 => ?_)
        · have hk2 : s.kind = 2 := tt h4
          have hab : arcB T s.num = true := by unfold segB at hst; rw [if_neg hk, if_pos hk2] at hst; exact hst
          refine W_seq ?_
          refine W_cs (.a 3 rfl <| .c rfl (tailI_can T s.num hab) rfl <| .a 2 rfl <| .k [3, 4, 29] rfl) ?_
          refine W_cond rfl (fun h5 => ?_) (fun h5 => ?_)
          · have ht : tailN T s.num.toNat ≠ n := tt h5
            refine W_cs (.a 2 rfl <| .k [6, 7] rfl) ?_
            refine W_ret ?_
            exact ⟨_, _, ResL.of rfl, Pur.pure, by unfold endS; rw [if_neg hs, if_neg hn, if_neg hk, if_pos hk2, if_pos ht]; rfl⟩
          · have ht : ¬ tailN T s.num.toNat ≠ n := ff h5
            refine W_skip ?_
            refine W_cs (.a 3 rfl <| .c rfl (headI_can T (by omega) s.num hab) rfl <| .a 2 rfl <| .k [6, 7] rfl) ?_
            refine W_ret ?_
            exact ⟨_, _, ResL.of rfl, Pur.pure, by unfold endS; rw [if_neg hs, if_neg hn, if_neg hk, if_pos hk2, if_neg ht]; rfl⟩
        · have hk2 : ¬ s.kind = 2 := ff h4
          refine W_skip ?_
          refine W_cs (.a 2 rfl <| .k [6, 7] rfl) ?_
          refine W_ret ?_
          exact ⟨_, _, ResL.of rfl, Pur.pure, by unfold endS; rw [if_neg hs, if_neg hn, if_neg hk, if_neg hk2]; rfl⟩
/-- The ends of a list of segments from a node, or the first error. -/
def endsL (T : Topo) : Int → List Seg → List Int × Int
  | _, [] => ([], 0)
  | n, s :: l => if (endS T s n).2 ≠ 0 then ([], (endS T s n).2) else ((endS T s n).1 :: (endsL T (endS T s n).1 l).1, (endsL T (endS T s n).1 l).2)
/-- With the checks of the arguments. -/
def endsE (T : Topo) (l : List Seg) (n : Int) : Int := if validB T = false then 1 else if nodeB T n = false then 2 else (endsL T n l).2
theorem segs_cons (l : List Seg) (k : Nat) (h : k < l.length) : ∃ s, l[k]? = some s ∧ l.drop k = s :: l.drop (k + 1) := ⟨l[k], List.getElem?_eq_getElem h, List.drop_eq_getElem_cons h⟩
set_option maxRecDepth 10000 in
set_option maxHeartbeats 1000000 in
theorem sends_can (T : Topo) (l : List Seg) (n : Int) (hl : l.length ≤ 1000) : Can Try.prog 49 [topoV T, segsV l, num n] (· = intsE (endsE T l n) (endsL T n l).1) := by
  refine can_of Try.func49 rfl Try.ntmps49 rfl ?_
  refine W_cs (.a 3 rfl <| .k [1, 2, 3] rfl) ?_
  refine W_seq ?_
  refine W_cs (.a 1 rfl <| .c rfl (valid_can T) rfl <| .a 1 rfl <| .k [1, 2, 3, 15] rfl) ?_
  refine W_cond rfl (fun h1 => ?_) (fun h1 => ?_)
  · have hv : validB T = false := by simpa using h1
    refine W_cs (.a 2 rfl <| .k [6, 7] rfl) ?_
    refine W_ret ?_
    exact ⟨_, _, ResL.of rfl, Pur.tupleL (PurL.cons Pur.nils (PurL.cons Pur.pure PurL.nil)), by unfold intsE endsE; rw [if_pos hv]; rfl⟩
  · have hv : validB T = true := by simpa using h1
    have hv' : ¬ validB T = false := by simpa using h1
    refine W_skip ?_
    refine W_seq ?_
    refine W_cs (.a 2 rfl <| .c rfl (node_can T n) rfl <| .a 1 rfl <| .k [1, 2, 3, 19] rfl) ?_
    refine W_cond rfl (fun h2 => ?_) (fun h2 => ?_)
    · have hn : nodeB T n = false := by simpa using h2
      refine W_cs (.a 2 rfl <| .k [6, 7] rfl) ?_
      refine W_ret ?_
      exact ⟨_, _, ResL.of rfl, Pur.tupleL (PurL.cons Pur.nils (PurL.cons Pur.pure PurL.nil)), by unfold intsE endsE; rw [if_neg hv', if_pos hn]; rfl⟩
    · have hn : ¬ nodeB T n = false := by simpa using h2
      have hE : endsE T l n = (endsL T n l).2 := by unfold endsE; rw [if_neg hv', if_neg hn]
      rw [hE]
      refine W_skip ?_
      refine W_cs (.a 1 rfl <| .k [1, 2, 3, 8] rfl) ?_
      refine W_adopt 8 3 1 rfl ?_
      refine W_seq ?_
      refine W_cs (.a 3 rfl <| .k [2, 3, 8, 20, 21, 22] rfl) ?_
      refine W_block ?_
      refine W_k [2, 3, 8, 20, 21, 22] rfl ?_
      refine W_loop (fun r st => ∃ (k : Nat) (m : Int) (es : List Int), k ≤ l.length ∧ r = l.length - k ∧ es.length = k ∧ (endsL T n l).2 = (endsL T m (l.drop k)).2 ∧ ((endsL T n l).2 = 0 → (endsL T n l).1 = es ++ (endsL T m (l.drop k)).1) ∧ st = ⟨[(2, num m), (3, .pin (topoP T) 0), (8, .own 0), (20, segsV l), (21, num l.length), (22, num k)], [irow es]⟩) l.length ⟨0, n, [], by omega, by omega, rfl, rfl, fun _ => rfl, rfl⟩ ?_
      rintro r st ⟨k, m, es, hk, rfl, hel, he1, he2, rfl⟩
      refine W_cs (.a 1 rfl <| .k [2, 3, 8, 20, 21, 22, 23] rfl) ?_
      refine W_seq ?_
      refine W_cond rfl (fun h3 => ?_) (fun h3 => ?_)
      · have hlt : k < l.length := by have := tt h3; omega
        obtain ⟨s, hs, hdr⟩ := segs_cons l k hlt
        rw [hdr] at he1 he2
        simp only [endsL] at he1 he2
        refine W_skip ?_
        refine W_seq ?_
        refine W_block ?_
        refine W_rs ?_
        refine WR_v (y_ix ((k * 2)) rfl) rfl <| WR_v (y_la rfl (segs_drop l k s hs) rfl) rfl <| WR_a 2 rfl <| WR_k [2, 3, 8, 10, 20, 21, 22] rfl ?_
        refine W_sto (σ' := [irow es, some (.cells 56 (segP s))]) rfl ?_
        refine W_cs (.a 3 rfl <| .c rfl (send_can T hv s m) rfl <| .a 5 rfl <| .k [3, 8, 11, 12, 20, 21, 22] rfl) ?_
        refine W_seq ?_
        refine W_cs (.a 2 rfl <| .k [3, 8, 11, 12, 20, 21, 22, 34] rfl) ?_
        refine W_cond rfl (fun h4 => ?_) (fun h4 => ?_)
        · have hx : (endS T s m).2 ≠ 0 := tt h4
          rw [if_pos hx] at he1
          refine W_cs (.a 3 rfl <| .k [6, 7] rfl) ?_
          refine W_ret ?_
          exact ⟨_, _, ResL.of rfl, Pur.tupleL (PurL.cons Pur.nils (PurL.cons Pur.pure PurL.nil)), by unfold intsE; rw [he1, if_neg hx]; rfl⟩
        · have hx : ¬ (endS T s m).2 ≠ 0 := ff h4
          rw [if_neg hx] at he1 he2
          refine W_skip ?_
          refine W_rs ?_
          refine WR_a 3 rfl <| WR_l (l_append rfl (fok.rk.get rfl) rfl rfl rfl rfl (by unfold maxLen; omega)) rfl <| WR_a 1 rfl ?_
          refine WR_ren [2] (.c 3 <| .c 8 <| .c 11 <| .c 20 <| .c 21 <| .c 22 <| .nil) (.kept rfl (.rowP rfl (intsP_snoc _ _)) <| .nil) rfl rfl (WR_nil ?_)
          refine W_chain (.a 2 rfl <| .k [2, 3, 8, 20, 21, 22] rfl) ?_
          refine W_chain (.v (y_ar rfl) rfl <| .a 1 rfl <| .k [2, 3, 8, 20, 21, 22] rfl) ?_
          refine ⟨l.length - (k + 1), by omega, k + 1, (endS T s m).1, es ++ [(endS T s m).1], by omega, rfl, by simp [hel], he1, fun h => by rw [he2 h, List.append_assoc]; rfl, ?_⟩
          unfold irow
          simp only [List.length_append, List.length_singleton]
          rfl
      · have hke : k = l.length := by have := ff h3; omega
        subst hke
        rw [List.drop_length] at he1 he2
        simp only [endsL, List.append_nil] at he1 he2
        have he3 := he2 he1
        refine W_exit ?_
        refine W_cs (.a 3 rfl <| .k [6, 7] rfl) ?_
        refine W_ret ?_
        exact ⟨_, _, ResL.of rfl, Pur.tupleL (PurL.cons (Pur.ownL rfl PurL.pure) (PurL.cons Pur.pure PurL.nil)), by unfold intsE; rw [he1, if_pos rfl, he3]; rfl⟩
end PW
end Go.Proofs.Ytkgepjiebihodaa

/- Exact lists and expansions, as plain mathematics. -/
namespace Go.Proofs.Ytkgepjiebihodaa
set_option linter.unusedVariables false
set_option linter.unusedSimpArgs false
namespace PW
open Go.RowKit Reg Mem Net

/-- The first index from i on whose node is x, or the last index. -/
def fstJ (T : Topo) (n : Int) (p : List Int) (x : Int) : Nat → Nat → Nat
  | 0, i => i
  | f + 1, i => if endL T n (p.take i) = x then i else fstJ T n p x f (i + 1)
/-- Where a segment leads from i. -/
noncomputable def stepX (T : Topo) (D : List Bool) (n : Int) (p : List Int) (i : Nat) (s : Seg) : Option Nat :=
  if s.kind = 2 ∧ i < p.length ∧ p.getD i 0 = s.num then some (i + 1)
  else if s.kind = 1 then (if endL T n (p.take (fstJ T n p s.num (p.length - i) i)) = s.num ∧ covB T D n p i (fstJ T n p s.num (p.length - i) i) = true then some (fstJ T n p s.num (p.length - i) i) else none)
  else none
/-- Whether a list is exact for the path from i on. -/
noncomputable def exB (T : Topo) (D : List Bool) (n : Int) (p : List Int) : Nat → List Seg → Bool
  | i, [] => decide (i = p.length)
  | i, s :: l => match stepX T D n p i s with
    | some j => exB T D n p j l
    | none => false
/-- The path of a list from a node, or the error. -/
noncomputable def expL (T : Topo) (D : List Bool) : Int → List Seg → Int × List Int
  | _, [] => (0, [])
  | x, s :: l => if s.kind = 2 then (if downN D s.num.toNat = true then (7, []) else ((expL T D (endS T s x).1 l).1, s.num :: (expL T D (endS T s x).1 l).2))
    else if spE T D x (endS T s x).1 ≠ 0 then (spE T D x (endS T s x).1, [])
    else if uniqB T D x (endS T s x).1 = false then (9, [])
    else ((expL T D (endS T s x).1 l).1, spathL T D x.toNat (endS T s x).1.toNat ++ (expL T D (endS T s x).1 l).2)
noncomputable def expE (T : Topo) (D : List Bool) (l : List Seg) (n : Int) : Int :=
  if (validB T && fitsB T D) = false then 1 else if endsE T l n ≠ 0 then endsE T l n else if (expL T D n l).1 ≠ 0 then (expL T D n l).1 else pathX T n (expL T D n l).2
section
variable {T : Topo} {D : List Bool} {n : Int} {p : List Int}
theorem fst_ge (x : Int) : ∀ f i, i ≤ fstJ T n p x f i ∧ fstJ T n p x f i ≤ i + f
  | 0, i => by simp [fstJ]
  | f + 1, i => by
    simp only [fstJ]
    split
    · omega
    · have := fst_ge x f (i + 1); omega
theorem fst_no (x : Int) : ∀ f i k, i ≤ k → k < fstJ T n p x f i → endL T n (p.take k) ≠ x
  | 0, i, k, h1, h2 => by simp only [fstJ] at h2; omega
  | f + 1, i, k, h1, h2 => by
    simp only [fstJ] at h2
    split at h2
    · omega
    · rename_i h3
      by_cases e : k = i
      · subst e; exact h3
      · exact fst_no x f (i + 1) k (by omega) h2
theorem fst_is (x : Int) : ∀ f i j, i ≤ j → j ≤ i + f → endL T n (p.take j) = x → (∀ k, i ≤ k → k < j → endL T n (p.take k) ≠ x) → fstJ T n p x f i = j
  | 0, i, j, h1, h2, _, _ => by simp only [fstJ]; omega
  | f + 1, i, j, h1, h2, h3, h4 => by
    simp only [fstJ]
    by_cases e : i = j
    · subst e; rw [if_pos h3]
    · rw [if_neg (h4 i (Nat.le_refl _) (by omega))]
      exact fst_is x f (i + 1) j (by omega) (by omega) h3 (fun k h5 h6 => h4 k (by omega) h6)
theorem Ch.fin {d : Nat} {m : Nat} {q : List Int} (h : Ch T D d m q) : endL T (m : Int) q = (d : Int) := by
  induction h with
  | nil => rfl
  | @cons n a m p ha ht hu hm ho hp ih => simp only [endL, Int.toNat_natCast, hm]; exact ih
/-- A covered part ends where its end's node is met first. -/
theorem cov_first (h : Fol T D n p) {i j : Nat} (hij : i ≤ j) (hj : j ≤ p.length) (hc : covB T D n p i j = true) : fstJ T n p (endL T n (p.take j)) (p.length - i) i = j := by
  have ha := h.arcs
  have hv := h.valid
  refine fst_is _ _ _ _ hij (by omega) rfl fun k h1 h2 he => ?_
  obtain ⟨u, hu, huN⟩ := end_node hv h.node ha i (by omega)
  obtain ⟨y, hy, hyN⟩ := end_node hv h.node ha j hj
  obtain ⟨z, hz, hzN⟩ := end_node hv h.node ha k (by omega)
  have hzy : z = y := by omega
  subst hzy
  obtain ⟨c1, c2⟩ := (cov_iff h hij hj hu hy).1 hc
  rw [part_split p h1 (show k ≤ j by omega)] at c1
  obtain ⟨c3, c4⟩ := c1.suffix hv hyN c2 (h.ch h1 (by omega) hu hz)
  have := c3.self
  have hl := part_len p (show k ≤ j by omega) hj
  rw [this] at hl
  simp at hl
  omega
theorem part_drop (p : List Int) {i j : Nat} (hij : i ≤ j) (hj : j ≤ p.length) : p.drop i = partL p i j ++ p.drop j := by
  have h1 : p.drop j = (p.drop i).drop (j - i) := by rw [List.drop_drop]; congr 1; omega
  rw [h1]
  unfold partL
  exact (List.take_append_drop _ _).symm
theorem spE_zero {x y : Nat} (hv : validB T = true) (hf : fitsB T D = true) (hx : (x : Int) < T.nodes) (hy : (y : Int) < T.nodes) : spE T D x y = if dN T D y x < 0 then 11 else 0 := by
  have hne : nodeE T D (x : Int) (y : Int) = 0 := by
    unfold nodeE
    rw [if_pos (chk_of hv hf hy), nodeB_iff.2 ⟨by omega, hx⟩]
    rfl
  unfold spE; rw [if_pos hne]; simp only [Int.toNat_natCast]
theorem uniq_iff {x y : Nat} (hv : validB T = true) (hf : fitsB T D = true) (hx : (x : Int) < T.nodes) (hy : (y : Int) < T.nodes) : uniqB T D x y = true ↔ cntS T D y x = 1 := by
  have hne : nodeE T D (x : Int) (y : Int) = 0 := by
    unfold nodeE
    rw [if_pos (chk_of hv hf hy), nodeB_iff.2 ⟨by omega, hx⟩]
    rfl
  unfold uniqB
  rw [hne]
  simp
/-- A part that is covered is the shortest path, and the other way round. -/
theorem cov_sp (h : Fol T D n p) {i j x y : Nat} (hij : i ≤ j) (hj : j ≤ p.length) (hx : endL T n (p.take i) = (x : Int)) (hy : endL T n (p.take j) = (y : Int)) : covB T D n p i j = true ↔ spE T D x y = 0 ∧ uniqB T D x y = true ∧ spathL T D x y = partL p i j := by
  have ha := h.arcs
  have hv := h.valid
  obtain ⟨x', hx', hxN⟩ := end_node hv h.node ha i (by omega)
  obtain ⟨y', hy', hyN⟩ := end_node hv h.node ha j hj
  have e1 : x' = x := by omega
  have e2 : y' = y := by omega
  subst e1
  subst e2
  rw [cov_iff h hij hj hx hy, spE_zero hv h.fits hxN hyN, uniq_iff hv h.fits hxN hyN]
  constructor
  · rintro ⟨h1, h2⟩
    have h0 := (h1.cost hv hyN).2
    exact ⟨by rw [if_neg (by omega)], h2, (spath_sp hv hyN hxN h0).unique hv hyN h1 h2⟩
  · rintro ⟨h1, h2, h3⟩
    have h0 : 0 ≤ dN T D y' x' := by
      split at h1
      · omega
      · omega
    exact ⟨by rw [← h3]; exact spath_sp hv hyN hxN h0, h2⟩
/-- A list is exact if and only if it expands to the path. -/
theorem ex_iff (h : Fol T D n p) : ∀ (l : List Seg) (i : Nat), i ≤ p.length → (exB T D n p i l = true ↔ (endsL T (endL T n (p.take i)) l).2 = 0 ∧ (expL T D (endL T n (p.take i)) l).1 = 0 ∧ (expL T D (endL T n (p.take i)) l).2 = p.drop i)
  | [], i, hi => by
    simp only [exB, endsL, expL, decide_eq_true_eq, true_and]
    constructor
    · rintro rfl; simp
    · intro h
      have := congrArg List.length h
      simp at this
      omega
  | s :: l, i, hi => by
    have ha := h.arcs
    have hv := h.valid
    obtain ⟨x, hx, hxN⟩ := end_node hv h.node ha i hi
    have hnb : nodeB T (x : Int) = true := nodeB_iff.2 ⟨by omega, hxN⟩
    rw [hx]
    simp only [exB]
    by_cases hk2 : s.kind = 2
    · by_cases hp : i < p.length ∧ p.getD i 0 = s.num
      · have hst : stepX T D n p i s = some (i + 1) := by unfold stepX; rw [if_pos ⟨hk2, hp⟩]
        have hmem := getD_mem (d := 0) hp.1
        have hab := ha _ hmem
        have htl := part_tail h hp.1 hx
        have hup := h.up _ hmem
        have hed := endL_step T n p i hp.1
        rw [hp.2] at hab htl hup hed
        have hsg : segB T s = true := by unfold segB; rw [if_neg (by omega), if_pos hk2]; exact hab
        have hes : endS T s x = (endL T n (p.take (i + 1)), 0) := by
          unfold endS
          rw [if_neg (by rw [hsg]; simp), if_neg (by rw [hnb]; simp), if_neg (by omega), if_pos hk2, if_neg (by rw [htl]; simp), hed]
        rw [hst]
        simp only [endsL, expL]
        rw [hes, if_neg (by simp), if_pos hk2, if_neg (by rw [hup]; simp)]
        simp only
        rw [ex_iff h l (i + 1) hp.1, drop_cons p i hp.1, hp.2]
        simp
      · have hst : stepX T D n p i s = none := by unfold stepX; rw [if_neg (fun e => hp e.2), if_neg (by omega)]
        rw [hst]
        constructor
        · intro e; cases e
        · rintro ⟨_, e2, e3⟩
          exfalso
          simp only [expL] at e2 e3
          rw [if_pos hk2] at e2 e3
          split at e2
          · simp at e2
          · rename_i hd
            rw [if_neg hd] at e3
            simp only at e3
            have hlt : i < p.length := by
              have := congrArg List.length e3
              simp at this
              omega
            rw [drop_cons p i hlt] at e3
            exact hp ⟨hlt, (List.cons.inj e3).1.symm⟩
    · by_cases hk1 : s.kind = 1
      · have hes : (endS T s x).2 = 0 → nodeB T s.num = true ∧ (endS T s x).1 = s.num := fun e => by
          unfold endS at e ⊢
          split at e
          · simp at e
          · rename_i h1
            rw [if_neg h1]
            rw [if_neg (by rw [hnb]; simp), if_pos hk1]
            have hsg : segB T s = true := by simpa using h1
            unfold segB at hsg
            rw [if_pos hk1] at hsg
            exact ⟨hsg, rfl⟩
        constructor
        · intro e
          cases hst : stepX T D n p i s with
          | none => rw [hst] at e; cases e
          | some j =>
            rw [hst] at e
            simp only at e
            unfold stepX at hst
            rw [if_neg (fun e => hk2 e.1), if_pos hk1] at hst
            split at hst
            · rename_i hc
              simp only [Option.some.injEq] at hst
              rw [hst] at hc
              have hge := fst_ge (T := T) (n := n) (p := p) s.num (p.length - i) i
              rw [hst] at hge
              have hj : j ≤ p.length := by omega
              obtain ⟨y, hy, hyN⟩ := end_node hv h.node ha j hj
              obtain ⟨c1, c2, c3⟩ := (cov_sp h hge.1 hj hx hy).1 hc.2
              have hsy : s.num = (y : Int) := by rw [← hc.1]; exact hy
              have hsg : segB T s = true := by unfold segB; rw [if_pos hk1, hsy]; exact nodeB_iff.2 ⟨by omega, hyN⟩
              have hes2 : endS T s x = ((y : Int), 0) := by
                unfold endS
                rw [if_neg (by rw [hsg]; simp), if_neg (by rw [hnb]; simp), if_pos hk1, hsy]
              have ih := (ex_iff h l j hj).1 e
              rw [hy] at ih
              simp only [endsL, expL]
              rw [hes2, if_neg (by simp), if_neg hk2, if_neg (by simpa using c1), if_neg (by rw [c2]; simp)]
              simp only [Int.toNat_natCast]
              refine ⟨ih.1, ih.2.1, ?_⟩
              rw [ih.2.2, c3, ← part_drop p hge.1 hj]
            · cases hst
        · rintro ⟨e1, e2, e3⟩
          simp only [endsL] at e1
          by_cases h0 : (endS T s x).2 = 0
          · rw [if_neg (by rw [h0]; simp)] at e1
            simp only at e1
            obtain ⟨hn, he⟩ := hes h0
            obtain ⟨hn0, hnN⟩ := nodeB_iff.1 hn
            obtain ⟨y, hy⟩ := Int.eq_ofNat_of_zero_le hn0
            have hyN : (y : Int) < T.nodes := by omega
            rw [he] at e1
            simp only [expL] at e2 e3
            rw [if_neg hk2, he] at e2 e3
            rw [hy] at e1 e2 e3
            split at e2
            · rename_i h5; simp only at e2; exact absurd e2 h5
            · rename_i h5
              rw [if_neg h5] at e3
              split at e2
              · simp at e2
              · rename_i h6
                rw [if_neg h6] at e3
                simp only [Int.toNat_natCast] at e2 e3
                have h5' : spE T D x y = 0 := by simpa using h5
                have h6' : uniqB T D x y = true := by simpa using h6
                rw [spE_zero hv h.fits hxN hyN] at h5'
                have hd0 : 0 ≤ dN T D y x := by
                  split at h5'
                  · omega
                  · omega
                have hsp := spath_sp hv hyN hxN hd0
                have hlen : (spathL T D x y).length ≤ p.length - i := by
                  have := congrArg List.length e3
                  simp at this
                  omega
                have hj : i + (spathL T D x y).length ≤ p.length := by omega
                generalize hjj : i + (spathL T D x y).length = j at hj
                have hij : i ≤ j := by omega
                have hpd := part_drop p hij hj
                have hpl := part_len p hij hj
                rw [← e3] at hpd
                obtain ⟨hq1, hq2⟩ := List.append_inj hpd (by omega)
                have hyj : endL T n (p.take j) = (y : Int) := by
                  rw [take_part p hij, endL_append, hx, ← hq1]
                  exact hsp.ch.fin
                have hcv : covB T D n p i j = true := (cov_sp h hij hj hx hyj).2 ⟨by simpa using h5, h6', hq1⟩
                have hfs := cov_first h hij hj hcv
                rw [hyj, ← hy] at hfs
                have hst : stepX T D n p i s = some j := by
                  unfold stepX
                  rw [if_neg (fun e => hk2 e.1), if_pos hk1, hfs, if_pos ⟨by rw [hyj, hy], hcv⟩]
                rw [hst]
                simp only
                rw [ex_iff h l j hj, hyj]
                exact ⟨e1, e2, hq2⟩
          · rw [if_pos h0] at e1
            exact absurd e1 h0
      · have hst : stepX T D n p i s = none := by unfold stepX; rw [if_neg (fun e => hk2 e.1), if_neg hk1]
        rw [hst]
        constructor
        · intro e; cases e
        · rintro ⟨e1, _⟩
          exfalso
          simp only [endsL] at e1
          have h0 : (endS T s x).2 ≠ 0 := by
            unfold endS
            rw [if_neg hk1, if_neg hk2]
            repeat' split
            all_goals simp
          rw [if_pos h0] at e1
          exact h0 e1
/-- Only what is covered is stepped over. -/
theorem step_some {i j : Nat} {s : Seg} (hi : i ≤ p.length) (hst : stepX T D n p i s = some j) : (j = i + 1 ∧ i < p.length) ∨ (i ≤ j ∧ j ≤ p.length ∧ covB T D n p i j = true) := by
  unfold stepX at hst
  split at hst
  · rename_i h1
    cases hst
    exact .inl ⟨rfl, h1.2.1⟩
  · split at hst
    · split at hst
      · rename_i h3
        simp only [Option.some.injEq] at hst
        rw [hst] at h3
        have hge := fst_ge (T := T) (n := n) (p := p) s.num (p.length - i) i
        rw [hst] at hge
        exact .inr ⟨hge.1, by omega, h3.2⟩
      · cases hst
    · cases hst
/-- No exact list is shorter. -/
theorem ex_len (h : Fol T D n p) : ∀ (l : List Seg) (i : Nat), i ≤ p.length → exB T D n p i l = true → gN T D n p i ≤ l.length
  | [], i, hi, he => by
    simp only [exB, decide_eq_true_eq] at he
    rw [gN_end (by omega)]
    exact Nat.zero_le _
  | s :: l, i, hi, he => by
    simp only [exB] at he
    cases hst : stepX T D n p i s with
    | none => rw [hst] at he; cases he
    | some j =>
      rw [hst] at he
      simp only at he
      have hs := step_some hi hst
      have ih := ex_len h l j (by omega) he
      simp only [List.length_cons]
      rcases hs with ⟨rfl, h1⟩ | ⟨h1, h2, h3⟩
      · have := gN_le h h1 (.inl rfl)
        omega
      · by_cases e : i = j
        · subst e; omega
        · have := gN_le h (show i < p.length by omega) (.inr ⟨by omega, h2, h3⟩)
          omega
/-- The list of the path is exact. -/
theorem ex_lst (h : Fol T D n p) : ∀ (f i : Nat), i ≤ p.length → p.length - i ≤ f → exB T D n p i (lstF T D n p f i) = true
  | f, i, hi, hf => by
    by_cases hlt : i < p.length
    · cases f with
      | zero => omega
      | succ f =>
        cases ht : topD (covB T D n p i) i p.length with
        | none =>
          rw [lst_none hlt (fun k h1 h2 => topD_isNone _ ht k h1 h2)]
          simp only [exB]
          have hst : stepX T D n p i ⟨2, p.getD i 0⟩ = some (i + 1) := by unfold stepX; rw [if_pos ⟨rfl, hlt, rfl⟩]
          rw [hst]
          exact ex_lst h f (i + 1) (by omega) (by omega)
        | some j =>
          obtain ⟨t1, t2, t3, t4⟩ := topD_is _ _ ht
          rw [lst_some hlt t1 t2 t3 t4]
          simp only [exB]
          have hst : stepX T D n p i ⟨1, endL T n (p.take j)⟩ = some j := by
            unfold stepX
            simp only
            rw [if_neg (by omega), if_pos trivial, cov_first h (by omega) t2 t3, if_pos ⟨rfl, t3⟩]
          rw [hst]
          exact ex_lst h f j t2 (by omega)
    · rw [lst_end f i (by omega)]
      simp only [exB, decide_eq_true_eq]
      omega
theorem lst_len : ∀ f i, (lstF T D n p f i).length ≤ f := fun f => by
  induction f with
  | zero => intro i; simp [lstF]
  | succ f ih =>
    intro i
    simp only [lstF]
    split
    · split
      · have := ih ‹Nat›; simp only [List.length_cons]; omega
      · have := ih (i + 1); simp only [List.length_cons]; omega
    · simp
theorem fol_zero (h : Fol T D n p) : folE T D n p = 0 := by
  unfold folE
  have h2 : pathX T n p = 0 := by unfold pathX; rw [if_pos h.valid, if_pos h.node]; exact h.walk
  rw [if_pos (by rw [h.valid, h.fits]; rfl), if_pos h2, if_neg]
  intro e
  obtain ⟨x, h3, h4⟩ := List.any_eq_true.1 e
  rw [h.up x h3] at h4
  cases h4
/-- The reference's answer. -/
theorem exact_iff (l : List Seg) (n : Int) (p : List Int) (h : Fol T D n p) : exB T D n p 0 l = (decide (expE T D l n = 0) && sameB (if expE T D l n = 0 then (expL T D n l).2 else []) p) := by
  have hi := ex_iff h l 0 (Nat.zero_le _)
  rw [List.take_zero, List.drop_zero] at hi
  simp only [endL] at hi
  have hvf : ¬ (validB T && fitsB T D) = false := by rw [h.valid, h.fits]; simp
  have hend : endsE T l n = (endsL T n l).2 := by unfold endsE; rw [if_neg (by rw [h.valid]; simp), if_neg (by rw [h.node]; simp)]
  have hpx : pathX T n p = 0 := by unfold pathX; rw [if_pos h.valid, if_pos h.node]; exact h.walk
  rw [Bool.eq_iff_iff, hi, Bool.and_eq_true, decide_eq_true_eq]
  unfold sameB
  rw [decide_eq_true_eq]
  constructor
  · rintro ⟨h1, h2, h3⟩
    have he : expE T D l n = 0 := by
      unfold expE
      rw [if_neg hvf, if_neg (by rw [hend, h1]; simp), if_neg (by rw [h2]; simp), h3, hpx]
    rw [he, if_pos rfl]
    exact ⟨rfl, h3⟩
  · rintro ⟨h1, h2⟩
    rw [if_pos h1] at h2
    unfold expE at h1
    rw [if_neg hvf, hend] at h1
    split at h1
    · rename_i h3; exact absurd h1 h3
    · rename_i h3
      split at h1
      · rename_i h4; exact absurd h1 h4
      · rename_i h4
        exact ⟨by simpa using h3, by simpa using h4, h2⟩
end
end PW
end Go.Proofs.Ytkgepjiebihodaa

/- Stable segments: package stable, the reference of layer 28. -/
namespace Go.Proofs.Ytkgepjiebihodaa
set_option linter.unusedVariables false
set_option linter.unusedSimpArgs false
namespace PW
open Go.RowKit Reg Mem Net

/-- No arc of a path is down. -/
def clearB (D : List Bool) (q : List Int) : Bool := !q.any fun a => downN D a.toNat
theorem clear_iff {D : List Bool} {q : List Int} : clearB D q = true ↔ ∀ a ∈ q, downN D a.toNat = false := by
  unfold clearB
  rw [Bool.not_eq_true', List.any_eq_false]
  constructor
  · intro h a ha
    have := h a ha
    simpa using this
  · intro h a ha
    rw [h a ha]
    simp
theorem clear_no {D : List Bool} {q : List Int} {a : Int} (ha : a ∈ q) (h : downN D a.toNat = true) : clearB D q = false := by
  unfold clearB
  rw [Bool.not_eq_false', List.any_eq_true]
  exact ⟨a, ha, h⟩
set_option maxRecDepth 10000 in
set_option maxHeartbeats 1000000 in
theorem up_can (T : Topo) (D : List Bool) (q : List Int) (hf : fitsB T D = true) (ha : ∀ a ∈ q, arcB T a = true) (hq : q.length ≤ 1000) : Can Try.prog 40 [boolsV D, intsV q] (· = flag (clearB D q)) := by
  refine can_of Try.func40 rfl Try.ntmps40 rfl ?_
  refine W_cs (.a 1 rfl <| .k [0, 1] rfl) ?_
  refine W_seq ?_
  refine W_cs (.a 3 rfl <| .k [0, 7, 8, 9] rfl) ?_
  refine W_block ?_
  refine W_k [0, 7, 8, 9] rfl ?_
  refine W_loop (fun r st => ∃ k : Nat, k ≤ q.length ∧ r = q.length - k ∧ (∀ a ∈ q.take k, downN D a.toNat = false) ∧ st = ⟨[(0, boolsV D), (7, intsV q), (8, num q.length), (9, num k)], []⟩) q.length ⟨0, by omega, by omega, by simp, rfl⟩ ?_
  rintro r st ⟨k, hk, rfl, hdn, rfl⟩
  refine W_cs (.a 1 rfl <| .k [0, 7, 8, 9, 10] rfl) ?_
  refine W_seq ?_
  refine W_cond rfl (fun hy => ?_) (fun hy => ?_)
  · have hlt : k < q.length := by have := tt hy; omega
    have hmem := getD_mem (d := 0) hlt
    have hab := ha _ hmem
    simp only [arcB, decide_eq_true_eq] at hab
    obtain ⟨a, hae⟩ : ∃ a : Nat, q.getD k 0 = (a : Int) := ⟨(q.getD k 0).toNat, by omega⟩
    have hD : D.length = 0 ∨ a < D.length := by simp only [fitsB, decide_eq_true_eq] at hf; omega
    refine W_skip ?_
    refine W_seq ?_
    refine W_block ?_
    refine W_cs (.v (y_ix (k) rfl) rfl <| .v (y_ld rfl ((ints_get q k hlt).trans (by rw [hae]))) rfl <| .a 1 rfl <| .k [0, 6, 7, 8, 9] rfl) ?_
    refine W_cs (.a 2 rfl <| .c rfl (down_can D a hD) rfl <| .k [0, 7, 8, 9, 15] rfl) ?_
    refine W_cond rfl (fun hz => ?_) (fun hz => ?_)
    · have he := clear_no (D := D) hmem (by rw [hae]; exact hz)
      refine W_cs (.a 1 rfl <| .k [4] rfl) ?_
      refine W_ret ?_
      exact ⟨_, _, ResL.of rfl, Pur.pure, by rw [he]; rfl⟩
    · skip
      refine W_skip ?_
      refine W_chain (.v (y_ar rfl) rfl <| .a 1 rfl <| .k [0, 7, 8, 9] rfl) ?_
      refine ⟨q.length - (k + 1), by omega, k + 1, by omega, rfl, fun x hx => ?_, rfl⟩
      rw [take_step q k 0 hlt] at hx
      rcases List.mem_append.1 hx with h | h
      · exact hdn x h
      · simp only [List.mem_singleton] at h; rw [h, hae]; exact hz
  · have hke : k = q.length := by have := ff hy; omega
    subst hke
    rw [List.take_length] at hdn
    refine W_exit ?_
    refine W_cs (.a 1 rfl <| .k [4] rfl) ?_
    refine W_ret ?_
    exact ⟨_, _, ResL.of rfl, Pur.pure, by rw [clear_iff.2 hdn]; rfl⟩
set_option maxRecDepth 10000 in
set_option maxHeartbeats 1000000 in
theorem rclear_can (T : Topo) (D : List Bool) (q : List Int) (hf : fitsB T D = true) (ha : ∀ a ∈ q, arcB T a = true) (hq : q.length ≤ 1000) : Can Try.prog 43 [boolsV D, intsV q] (· = flag (clearB D q)) := by
  refine can_of Try.func43 rfl Try.ntmps43 rfl ?_
  refine W_cs (.a 1 rfl <| .k [0, 1] rfl) ?_
  refine W_seq ?_
  refine W_cs (.a 1 rfl <| .k [0, 1, 5] rfl) ?_
  refine W_block ?_
  refine W_k [0, 1, 5] rfl ?_
  refine W_loop (fun r st => ∃ k : Nat, k ≤ q.length ∧ r = q.length - k ∧ (∀ a ∈ q.take k, downN D a.toNat = false) ∧ st = ⟨[(0, boolsV D), (1, intsV q), (5, num k)], []⟩) q.length ⟨0, by omega, by omega, by simp, rfl⟩ ?_
  rintro r st ⟨k, hk, rfl, hdn, rfl⟩
  refine W_seq ?_
  refine W_cs (.a 4 rfl <| .k [0, 1, 5, 9] rfl) ?_
  refine W_cond rfl (fun hy => ?_) (fun hy => ?_)
  · have hlt : k < q.length := by have := tt hy; omega
    have hmem := getD_mem (d := 0) hlt
    have hab := ha _ hmem
    simp only [arcB, decide_eq_true_eq] at hab
    obtain ⟨a, hae⟩ : ∃ a : Nat, q.getD k 0 = (a : Int) := ⟨(q.getD k 0).toNat, by omega⟩
    have hD : D.length = 0 ∨ a < D.length := by simp only [fitsB, decide_eq_true_eq] at hf; omega
    refine W_skip ?_
    refine W_seq ?_
    refine W_block ?_
    refine W_cs (.a 3 rfl <| .v (y_ix (k) rfl) rfl <| .v (y_ld rfl ((ints_get q k hlt).trans (by rw [hae]))) rfl <| .c rfl (rup_can D a hD) rfl <| .a 1 rfl <| .k [0, 1, 5, 18] rfl) ?_
    refine W_cond rfl (fun hz => ?_) (fun hz => ?_)
    · have hz1 : downN D a = true := by simpa using hz
      have he := clear_no (D := D) hmem (by rw [hae]; exact hz1)
      refine W_cs (.a 1 rfl <| .k [4] rfl) ?_
      refine W_ret ?_
      exact ⟨_, _, ResL.of rfl, Pur.pure, by rw [he]; rfl⟩
    · have hz1 : downN D a = false := by simpa using hz
      refine W_skip ?_
      refine W_chain (.a 1 rfl <| .v (y_ar rfl) rfl <| .a 1 rfl <| .k [0, 1, 5] rfl) ?_
      refine ⟨q.length - (k + 1), by omega, k + 1, by omega, rfl, fun x hx => ?_, rfl⟩
      rw [take_step q k 0 hlt] at hx
      rcases List.mem_append.1 hx with h | h
      · exact hdn x h
      · simp only [List.mem_singleton] at h; rw [h, hae]; exact hz1
  · have hke : k = q.length := by have := ff hy; omega
    subst hke
    rw [List.take_length] at hdn
    refine W_exit ?_
    refine W_cs (.a 1 rfl <| .k [4] rfl) ?_
    refine W_ret ?_
    exact ⟨_, _, ResL.of rfl, Pur.pure, by rw [clear_iff.2 hdn]; rfl⟩
theorem fol_path {T : Topo} {D : List Bool} {n : Int} {p : List Int} (hvf : (validB T && fitsB T D) = true) (h : pathX T n p ≠ 0) : folE T D n p = pathX T n p := by unfold folE; rw [if_pos hvf, if_neg h]
theorem fol_clear {T : Topo} {D : List Bool} {n : Int} {p : List Int} (hvf : (validB T && fitsB T D) = true) (h : pathX T n p = 0) : folE T D n p = if clearB D p = true then 0 else 7 := by
  unfold folE clearB
  rw [if_pos hvf, if_pos h]
  cases p.any fun a => downN D a.toNat <;> rfl
set_option maxRecDepth 10000 in
set_option maxHeartbeats 1000000 in
theorem scheck_can (T : Topo) (D : List Bool) (p : List Int) (n : Int) (hp : p.length ≤ 1000) (hlk : T.links.length ≤ 256) : Can Try.prog 30 [topoV T, boolsV D, intsV p, num n] (· = num (folE T D n p)) := by
  obtain ⟨q1, hq1⟩ : ∃ q, validB T = q := ⟨_, rfl⟩
  obtain ⟨q2, hq2⟩ : ∃ q, fitsB T D = q := ⟨_, rfl⟩
  refine can_of Try.func30 rfl Try.ntmps30 rfl ?_
  refine W_cs (.a 2 rfl <| .k [1, 2, 3, 4] rfl) ?_
  refine W_seq ?_
  refine W_csK 20 (.raw (.bool ((!q1) || !q2))) [1, 2, 3, 4] rfl ?_ ?_
  · refine .a 1 rfl <| .c rfl (hq1 ▸ valid_can T) rfl <| .a 2 rfl <| ?_
    cases q1
    · exact .a 5 rfl <| .k [20, 1, 2, 3, 4] rfl
    · exact .a 2 rfl <| .c rfl (hq2 ▸ fits_can T D (by omega)) rfl <| .a 2 rfl <| .k [20, 1, 2, 3, 4] rfl
  refine W_cond rfl (fun hc => ?_) (fun hc => ?_)
  · have he : folE T D n p = 1 := by unfold folE; rw [hq1, hq2]; cases q1 <;> cases q2 <;> first | rfl | cases hc
    refine W_cs (.a 1 rfl <| .k [8] rfl) ?_
    refine W_ret ?_
    exact ⟨_, _, ResL.of rfl, Pur.pure, by rw [he]; rfl⟩
  · have hv : validB T = true := by rw [hq1]; cases q1; cases hc; rfl
    have hf : fitsB T D = true := by rw [hq2]; cases q2; cases q1 <;> cases hc; rfl
    have hvf : (validB T && fitsB T D) = true := by rw [hv, hf]; rfl
    refine W_skip ?_
    refine W_seq ?_
    refine W_cs (.a 3 rfl <| .c rfl (path_can T n p (by omega)) rfl <| .a 7 rfl <| .k [1, 2, 11] rfl) ?_
    refine W_cs (.a 2 rfl <| .k [1, 2, 11, 30] rfl) ?_
    refine W_cond rfl (fun hx => ?_) (fun hx => ?_)
    · have hx1 : pathX T n p ≠ 0 := tt hx
      refine W_cs (.a 2 rfl <| .k [8] rfl) ?_
      refine W_ret ?_
      exact ⟨_, _, ResL.of rfl, Pur.pure, by rw [fol_path hvf hx1]; rfl⟩
    · have hx1 : pathX T n p = 0 := Classical.byContradiction (ff hx)
      obtain ⟨_, hn, hw⟩ := pathX_zero hx1
      have ha := walk_arcs hw
      rw [fol_clear hvf hx1]
      refine W_skip ?_
      refine W_seq ?_
      refine W_cs (.a 2 rfl <| .c rfl (up_can T D p hf ha hp) rfl <| .a 1 rfl <| .k [35] rfl) ?_
      refine W_cond rfl (fun hy => ?_) (fun hy => ?_)
      · have hy1 : clearB D p = false := by simpa using hy
        refine W_cs (.a 1 rfl <| .k [8] rfl) ?_
        refine W_ret ?_
        exact ⟨_, _, ResL.of rfl, Pur.pure, by rw [hy1]; rfl⟩
      · have hy1 : clearB D p = true := by simpa using hy
        refine W_skip ?_
        refine W_cs (.a 1 rfl <| .k [8] rfl) ?_
        refine W_ret ?_
        exact ⟨_, _, ResL.of rfl, Pur.pure, by rw [hy1]; rfl⟩
set_option maxRecDepth 10000 in
set_option maxHeartbeats 1000000 in
theorem rscheck_can (T : Topo) (D : List Bool) (p : List Int) (n : Int) (hp : p.length ≤ 1000) : Can Try.prog 31 [topoV T, boolsV D, intsV p, num n] (· = num (folE T D n p)) := by
  obtain ⟨q1, hq1⟩ : ∃ q, (validB T && fitsB T D) = q := ⟨_, rfl⟩
  refine can_of Try.func31 rfl Try.ntmps31 rfl ?_
  refine W_cs (.a 2 rfl <| .k [1, 2, 3, 4] rfl) ?_
  refine W_seq ?_
  refine W_cs (.a 2 rfl <| .c rfl (hq1 ▸ rfits_can T D) rfl <| .a 1 rfl <| .k [1, 2, 3, 4, 15] rfl) ?_
  refine W_cond rfl (fun hc => ?_) (fun hc => ?_)
  · have h1 : q1 = false := by cases q1; rfl; cases hc
    have he : folE T D n p = 1 := by unfold folE; rw [hq1, h1]; rfl
    refine W_cs (.a 1 rfl <| .k [8] rfl) ?_
    refine W_ret ?_
    exact ⟨_, _, ResL.of rfl, Pur.pure, by rw [he]; rfl⟩
  · have h1 : q1 = true := by cases q1; cases hc; rfl
    subst h1
    obtain ⟨hv, hf⟩ := Bool.and_eq_true_iff.1 hq1
    refine W_skip ?_
    refine W_cs (.a 3 rfl <| .c rfl (rpath_can T n p (by omega)) rfl <| .a 7 rfl <| .k [1, 2, 11] rfl) ?_
    refine W_seq ?_
    refine W_cs (.a 2 rfl <| .k [1, 2, 11, 25] rfl) ?_
    refine W_cond rfl (fun hx => ?_) (fun hx => ?_)
    · have hx1 : pathX T n p ≠ 0 := tt hx
      refine W_cs (.a 2 rfl <| .k [8] rfl) ?_
      refine W_ret ?_
      exact ⟨_, _, ResL.of rfl, Pur.pure, by rw [fol_path hq1 hx1]; rfl⟩
    · have hx1 : pathX T n p = 0 := Classical.byContradiction (ff hx)
      obtain ⟨_, hn, hw⟩ := pathX_zero hx1
      have ha := walk_arcs hw
      rw [fol_clear hq1 hx1]
      refine W_skip ?_
      refine W_seq ?_
      refine W_cs (.a 2 rfl <| .c rfl (rclear_can T D p hf ha hp) rfl <| .a 1 rfl <| .k [30] rfl) ?_
      refine W_cond rfl (fun hy => ?_) (fun hy => ?_)
      · have hy1 : clearB D p = false := by simpa using hy
        refine W_cs (.a 1 rfl <| .k [8] rfl) ?_
        refine W_ret ?_
        exact ⟨_, _, ResL.of rfl, Pur.pure, by rw [hy1]; rfl⟩
      · have hy1 : clearB D p = true := by simpa using hy
        refine W_skip ?_
        refine W_cs (.a 1 rfl <| .k [8] rfl) ?_
        refine W_ret ?_
        exact ⟨_, _, ResL.of rfl, Pur.pure, by rw [hy1]; rfl⟩
section
variable {T : Topo} {D : List Bool} {n : Int} {p : List Int}
theorem fits_nil (T : Topo) : fitsB T [] = true := by simp [fitsB]
theorem Fol.bare (h : Fol T D n p) : Fol T [] n p := ⟨h.valid, fits_nil T, h.node, h.walk, fun a _ => by simp [downN]⟩
theorem folB {n : Int} {p : List Int} (h : folE T D n p = 0) : folE T [] n p = 0 := fol_zero (fol_of h).bare
end
set_option maxRecDepth 10000 in
set_option maxHeartbeats 1000000 in
theorem slist_can (T : Topo) (D : List Bool) (p : List Int) (n : Int) (hp : p.length ≤ 1000) (hlk : T.links.length ≤ 256) (h12 : T.nodes ≤ 12) : Can Try.prog 12 [topoV T, boolsV D, intsV p, num n] (· = segsE (folE T D n p) (lstL T [] n p)) := by
  refine can_of Try.func12 rfl Try.ntmps12 rfl ?_
  refine W_cs (.a 3 rfl <| .k [1, 2, 3, 4] rfl) ?_
  refine W_seq ?_
  refine W_cs (.a 4 rfl <| .c rfl (scheck_can T D p n hp hlk) rfl <| .a 1 rfl <| .k [2, 3, 4, 10] rfl) ?_
  refine W_cs (.a 2 rfl <| .k [2, 3, 4, 10, 17] rfl) ?_
  refine W_cond rfl (fun hc => ?_) (fun hc => ?_)
  · have he : folE T D n p ≠ 0 := tt hc
    refine W_cs (.a 3 rfl <| .k [8, 9] rfl) ?_
    refine W_ret ?_
    exact ⟨_, _, ResL.of rfl, Pur.tupleL (PurL.cons Pur.nils (PurL.cons Pur.pure PurL.nil)), by unfold segsE; rw [if_neg he]; rfl⟩
  · have he : folE T D n p = 0 := Classical.byContradiction (ff hc)
    have hl := elist_can T [] p n hp hlk h12
    rw [folB he] at hl
    rw [he]
    refine W_skip ?_
    refine W_cs (.a 3 rfl <| .v (y_cP rfl (PurL.cons Pur.pure <| PurL.cons Pur.nils <| PurL.cons Pur.pure <| PurL.cons Pur.pure PurL.nil) (hl)) rfl <| .a 4 rfl <| .k [8, 9] rfl) ?_
    refine W_ret ?_
    exact ⟨_, _, ResL.of rfl, Pur.pure, rfl⟩
end PW
end Go.Proofs.Ytkgepjiebihodaa

/- Package encode's Exact, walked. -/
namespace Go.Proofs.Ytkgepjiebihodaa
set_option linter.unusedVariables false
set_option linter.unusedSimpArgs false
namespace PW
open Go.RowKit Reg Mem Net

def onlyQ (K : St → Prop) : Exit → St → Prop
  | .normal, s => K s
  | _, _ => False
theorem W_seqM {P : Program} {N L : Nat} {x y : Code} {st : St} {Q : Exit → St → Prop} {Q1 : St → Prop} (h : W P N L x st (onlyQ Q1)) (k : ∀ s, Q1 s → W P N L y s Q) : W P N L (.seq x y) st Q :=
  W_seq (h.mono fun e s hq => by
    cases e <;> first | exact k s hq | exact hq.elim)
section
variable {T : Topo} {D : List Bool} {n : Int} {p : List Int}
theorem fst_stop (x : Int) : ∀ f i j, i ≤ j → j ≤ i + f → (∀ k, i ≤ k → k < j → endL T n (p.take k) ≠ x) → (j = i + f ∨ endL T n (p.take j) = x) → fstJ T n p x f i = j
  | 0, i, j, h1, h2, _, _ => by simp only [fstJ]; omega
  | f + 1, i, j, h1, h2, h4, h5 => by
    simp only [fstJ]
    by_cases e : i = j
    · subst e
      rcases h5 with h5 | h5
      · omega
      · rw [if_pos h5]
    · rw [if_neg (h4 i (Nat.le_refl _) (by omega))]
      exact fst_stop x f (i + 1) j (by omega) (by omega) (fun k h6 h7 => h4 k (by omega) h7) (by rcases h5 with h5 | h5; exact .inl (by omega); exact .inr h5)
end
theorem cell_pure (s : Seg) : PureD (some (.cells 56 (segP s))) := fun b hb => by cases hb; exact (inferInstance : IsPureL (segP s))
noncomputable def exactB (T : Topo) (D : List Bool) (l : List Seg) (n : Int) (p : List Int) : Bool := if folE T D n p = 0 then exB T D n p 0 l else false
set_option maxRecDepth 10000 in
set_option maxHeartbeats 2000000 in
theorem exact_can (T : Topo) (D : List Bool) (l : List Seg) (n : Int) (p : List Int) (hp : p.length ≤ 1000) (hl : l.length ≤ 1000) (hlk : T.links.length ≤ 256) (h12 : T.nodes ≤ 12) : Can Try.prog 48 [topoV T, boolsV D, segsV l, num n, intsV p] (· = flag (exactB T D l n p)) := by
  refine can_of Try.func48 rfl Try.ntmps48 rfl ?_
  refine W_cs (.a 2 rfl <| .k [1, 2, 3, 4, 5] rfl) ?_
  refine W_rs ?_
  refine WR_a 4 rfl <| WR_cS rfl rfl (CanS.mono (follow_one T D p n hp hlk) (fun r σ' h => ?_))
  obtain ⟨x, rfl, hx⟩ := h
  refine WR_a 5 rfl <| WR_k [2, 4, 11, 12] rfl ?_
  refine W_seq ?_
  refine W_cs (.a 2 rfl <| .k [2, 4, 11, 26] rfl) ?_
  refine W_cond rfl (fun hc => ?_) (fun hc => ?_)
  · have he : folE T D n p ≠ 0 := tt hc
    refine W_cs (.a 1 rfl <| .k [10] rfl) ?_
    refine W_ret ?_
    exact ⟨_, _, ResL.of rfl, Pur.pure, by unfold exactB; rw [if_neg he]; rfl⟩
  · have he : folE T D n p = 0 := Classical.byContradiction (ff hc)
    obtain ⟨rfl, rfl⟩ := hx he
    have hF := fol_of he
    have hv := hF.valid
    have ha := hF.arcs
    have hX : exactB T D l n p = exB T D n p 0 l := by unfold exactB; rw [if_pos he]
    rw [hX]
    clear hc
    have hl1 := ndL_len T n p
    refine W_skip ?_
    refine W_cs (.a 1 rfl <| .k [2, 4, 11, 13] rfl) ?_
    refine W_seq ?_
    refine W_cs (.a 3 rfl <| .k [4, 11, 13, 27, 28, 29] rfl) ?_
    refine W_block ?_
    refine W_k [4, 11, 13, 27, 28, 29] rfl ?_
    refine W_loop (fun r st => ∃ (k i : Nat) (dm : List (Int × PV)) (um : List ((Int × Int) × PV)), k ≤ l.length ∧ i ≤ p.length ∧ r = l.length - k ∧ exB T D n p 0 l = exB T D n p i (l.drop k) ∧ MemD T D dm ∧ MemU T D um ∧ st = ⟨[(4, intsV p), (11, .ptr 4 0), (13, num i), (27, segsV l), (28, num l.length), (29, num k)], trk T D p (ndL T n p) (csL T p) dm um⟩) l.length ⟨0, 0, [], [], by omega, by omega, by omega, rfl, (fun _ _ h => by cases h), (fun _ _ h => by cases h), rfl⟩ ?_
    rintro r st ⟨k, i, dm, um, hk, hi, rfl, hex, hdm, hum, rfl⟩
    refine W_cs (.a 1 rfl <| .k [4, 11, 13, 27, 28, 29, 30] rfl) ?_
    refine W_seq ?_
    refine W_cond rfl (fun h1 => ?_) (fun h1 => ?_)
    · have hlt : k < l.length := by have := tt h1; omega
      obtain ⟨s, hs, hdr⟩ := segs_cons l k hlt
      rw [hdr] at hex
      simp only [exB] at hex
      refine W_skip ?_
      refine W_seq ?_
      refine W_block ?_
      refine W_rs ?_
      refine WR_v (y_ix ((k * 2)) rfl) rfl <| WR_v (y_la rfl (segs_drop l k s hs) rfl) rfl <| WR_a 2 rfl <| WR_k [4, 11, 13, 15, 27, 28, 29] rfl ?_
      refine W_sto (σ' := trk T D p (ndL T n p) (csL T p) dm um ++ [some (.cells 56 (segP s))]) rfl ?_
      obtain ⟨q1, hq1⟩ : ∃ q, decide (s.kind = 2) = q := ⟨_, rfl⟩
      obtain ⟨q2, hq2⟩ : ∃ q, decide ((i : Int) < p.length) = q := ⟨_, rfl⟩
      obtain ⟨q3, hq3⟩ : ∃ q, decide (p.getD i 0 = s.num) = q := ⟨_, rfl⟩
      refine W_block ?_
      refine W_drsK mixed (by kernel_rfl) 33 (.raw (.bool ((q1 && q2) && q3))) [4, 11, 13, 15, 27, 28, 29] rfl ?_ ?_
      · refine .a 2 rfl <| .v [35] (y_q rfl (hq1)) rfl rfl <| .a 1 rfl <| ?_
        cases q1
        · exact .a 15 rfl <| .k [33, 4, 11, 13, 15, 27, 28, 29] rfl
        · refine .a 3 rfl <| .v [38, 40] (y_q rfl (hq2)) rfl rfl <| .a 2 rfl <| ?_
          cases q2
          · exact .a 9 rfl <| .k [33, 4, 11, 13, 15, 27, 28, 29] rfl
          · exact .a 2 rfl <| .v [44, 45] (y_ix (i) rfl (by omega) (by have := tt hq2; omega)) rfl rfl <| .v [46] (y_ld rfl (ints_get p i (by have := tt hq2; omega))) rfl rfl <| .a 2 rfl <| .v [47, 49] (y_q rfl (hq3)) rfl rfl <| .a 2 rfl <| .k [33, 4, 11, 13, 15, 27, 28, 29] rfl
      refine W_cond rfl (fun h2 => ?_) (fun h2 => ?_)
      · have hst : stepX T D n p i s = some (i + 1) := by
          simp only [Bool.and_eq_true] at h2
          obtain ⟨⟨rfl, rfl⟩, rfl⟩ := h2
          unfold stepX
          rw [if_pos ⟨tt hq1, by have := tt hq2; omega, tt hq3⟩]
        have hi2 : i + 1 ≤ p.length := by
          simp only [Bool.and_eq_true] at h2
          obtain ⟨⟨rfl, rfl⟩, rfl⟩ := h2
          have := tt hq2; omega
        rw [hst] at hex
        simp only at hex
        refine W_chain (.a 1 rfl <| .v (y_ar rfl) rfl <| .a 1 rfl <| .k [4, 11, 13, 27, 28, 29] rfl) ?_
        refine W_ren [0, 1, 2, 3, 4] (.c 4 <| .c 11 <| .c 13 <| .c 27 <| .c 28 <| .c 29 <| .nil) (.kept rfl (.row RenL.pure) <| .kept rfl (.row RenL.pure) <| .same (MemD.pure hdm) rfl <| .same (MemU.pure hum) rfl <| .kept rfl (.cells (RenL.c <| RenL.c <| RenL.c <| RenL.c <| RenL.c <| RenL.c <| RenL.c <| RenL.c <| RenL.c <| RenL.nil)) <| .nil) rfl rfl ?_
        refine W_chain (.v (y_ar rfl) rfl <| .a 1 rfl <| .k [4, 11, 13, 27, 28, 29] rfl) ?_
        first
          | exact ⟨l.length - (k + 1), by omega, k + 1, i + 1, dm, um, by omega, hi2, rfl, hex, hdm, hum, rfl⟩
          | exact ⟨l.length - (k + 1), by omega, k + 1, j, dm, um, by omega, hj, rfl, hex, hdm, hum, rfl⟩
      · have hn2 : ¬ (s.kind = 2 ∧ i < p.length ∧ p.getD i 0 = s.num) := by
          rintro ⟨e1, e2, e3⟩
          rw [decide_eq_true e1] at hq1
          rw [decide_eq_true (by omega)] at hq2
          rw [decide_eq_true e3] at hq3
          subst hq1
          subst hq2
          subst hq3
          cases h2
        clear hq1 hq2 hq3
        refine W_cs (.a 4 rfl <| .k [4, 11, 13, 15, 27, 28, 29, 54] rfl) ?_
        refine W_cond rfl (fun h3 => ?_) (fun h3 => ?_)
        · have hk1 : s.kind = 1 := tt h3
          refine W_cs (.a 2 rfl <| .k [4, 11, 13, 15, 16, 27, 28, 29] rfl) ?_
          refine W_seq ?_
          refine W_block ?_
          refine W_k [4, 11, 13, 15, 16, 27, 28, 29] rfl ?_
          refine W_loop (fun r st => ∃ j : Nat, i ≤ j ∧ j ≤ p.length ∧ r = p.length - j ∧ (∀ k, i ≤ k → k < j → endL T n (p.take k) ≠ s.num) ∧ st = ⟨[(4, intsV p), (11, .ptr 4 0), (13, num i), (15, .ptr 5 0), (16, num j), (27, segsV l), (28, num l.length), (29, num k)], trk T D p (ndL T n p) (csL T p) dm um ++ [some (.cells 56 (segP s))]⟩) (p.length - i) ⟨i, by omega, hi, rfl, fun k h4 h5 => by omega, rfl⟩ ?_
          rintro r st ⟨j, hij, hj, rfl, hno, rfl⟩
          have hgj := ndL_get T n p j hj
          obtain ⟨g1, hg1⟩ : ∃ q, decide ((j : Int) < p.length) = q := ⟨_, rfl⟩
          obtain ⟨g, hg⟩ : ∃ q, decide (endL T n (p.take j) ≠ s.num) = q := ⟨_, rfl⟩
          refine W_seq ?_
          refine W_drsK mixed (by kernel_rfl) 74 (.raw (.bool (g1 && g))) [4, 11, 13, 15, 16, 27, 28, 29] rfl ?_ ?_
          · refine .a 3 rfl <| .v [59, 61] (y_q rfl (hg1)) rfl rfl <| .a 1 rfl <| ?_
            cases g1
            · exact .a 11 rfl <| .k [74, 4, 11, 13, 15, 16, 27, 28, 29] rfl
            · exact .a 5 rfl <| .v [67, 68] (y_ix (j) rfl) rfl rfl <| .v [69] (y_ld rfl ((ints_get _ j (by omega)).trans (by rw [hgj]))) rfl rfl <| .a 2 rfl <| .v [70, 72] (y_q rfl (hg)) rfl rfl <| .a 1 rfl <| .k [74, 4, 11, 13, 15, 16, 27, 28, 29] rfl
          refine W_cond rfl (fun h4 => ?_) (fun h4 => ?_)
          · have h5 : j < p.length ∧ endL T n (p.take j) ≠ s.num := by
              simp only [Bool.and_eq_true] at h4
              obtain ⟨rfl, rfl⟩ := h4
              exact ⟨by have := tt hg1; omega, tt hg⟩
            refine W_skip ?_
            refine W_block ?_
            refine W_chain (.a 1 rfl <| .v (y_ar rfl) rfl <| .a 1 rfl <| .k [4, 11, 13, 15, 16, 27, 28, 29] rfl) ?_
            refine ⟨p.length - (j + 1), by omega, j + 1, by omega, h5.1, rfl, fun k h6 h7 => ?_, rfl⟩
            by_cases e : k = j
            · subst e; exact h5.2
            · exact hno k h6 (by omega)
          · have hfs : fstJ T n p s.num (p.length - i) i = j := by
              refine fst_stop _ _ _ _ hij (by omega) hno ?_
              by_cases e : endL T n (p.take j) = s.num
              · exact .inr e
              · left
                rw [decide_eq_true e] at hg
                subst hg
                rw [Bool.and_true] at h4
                subst h4
                have := ff hg1
                omega
            clear hg1 h4
            have hsx : stepX T D n p i s = if endL T n (p.take j) = s.num ∧ covB T D n p i j = true then some j else none := by unfold stepX; rw [if_neg hn2, if_pos hk1, hfs]
            refine W_exit ?_
            refine W_seq ?_
            refine W_seqM (Q1 := fun st => ∃ (dm : List (Int × PV)) (um : List ((Int × Int) × PV)), MemD T D dm ∧ MemU T D um ∧ st = ⟨[(93, .raw (.bool (g || !covB T D n p i j))), (4, intsV p), (11, .ptr 4 0), (16, num j), (27, segsV l), (28, num l.length), (29, num k)], trk T D p (ndL T n p) (csL T p) dm um ++ [some (.cells 56 (segP s))]⟩) ?_ ?_
            · cases g
              · refine W_drawSeq 14 20 [77, 78, 79, 80, 81, 82, 83, 84, 85, 86, 87, 88, 89, 90] mixed (by kernel_rfl) (by kernel_rfl) (by kernel_rfl) rfl (.a 5 rfl <| .v [80, 81] (y_ix (j) rfl) rfl rfl <| .v [82] (y_ld rfl ((ints_get _ j (by omega)).trans (by rw [hgj]))) rfl rfl <| .a 2 rfl <| .v [83, 85] (y_q rfl (hg)) rfl rfl <| .a 4 rfl <| .k [4, 11, 16, 27, 28, 29, 87, 88, 89, 90] rfl) ?_
                refine WR_cS rfl rfl (CanS.mono (covered_can T D p n dm um (some (.cells 56 (segP s))) (cell_pure s) hv hF.fits h12 hF.node ha hp i j hi hj hdm hum) (fun _ σ' h => ?_))
                obtain ⟨rfl, dm1, um1, hdm1, hum1, rfl⟩ := h
                refine WR_a 2 rfl <| WR_k [93, 4, 11, 16, 27, 28, 29] rfl ?_
                exact ⟨dm1, um1, hdm1, hum1, rfl⟩
              · refine W_drK mixed (by kernel_rfl) 93 (.raw (.bool (true))) [4, 11, 16, 27, 28, 29] rfl ?_ ?_
                · exact .a 5 rfl <| .v [80, 81] (y_ix (j) rfl) rfl rfl <| .v [82] (y_ld rfl ((ints_get _ j (by omega)).trans (by rw [hgj]))) rfl rfl <| .a 2 rfl <| .v [83, 85] (y_q rfl (hg)) rfl rfl <| .a 7 rfl <| .k [93, 4, 11, 16, 27, 28, 29] rfl
                exact ⟨dm, um, hdm, hum, rfl⟩
            clear hdm hum
            rintro _ ⟨dm, um, hdm, hum, rfl⟩
            refine W_cond rfl (fun h6 => ?_) (fun h6 => ?_)
            · have hst : stepX T D n p i s = none := by
                rw [hsx, if_neg]
                rintro ⟨e1, e2⟩
                rw [decide_eq_false (by simpa using e1)] at hg
                subst hg
                rw [e2] at h6
                cases h6
              rw [hst] at hex
              simp only at hex
              refine W_cs (.a 1 rfl <| .k [10] rfl) ?_
              refine W_ret ?_
              exact ⟨_, _, ResL.of rfl, Pur.pure, by rw [hex]; rfl⟩
            · have hst : stepX T D n p i s = some j := by
                obtain ⟨rfl, h7⟩ := Bool.or_eq_false_iff.1 h6
                rw [hsx, if_pos ⟨by have := ff hg; simpa using this, by simpa using h7⟩]
              rw [hst] at hex
              simp only at hex
              refine W_skip ?_
              refine W_chain (.a 2 rfl <| .k [4, 11, 13, 27, 28, 29] rfl) ?_
              refine W_ren [0, 1, 2, 3, 4] (.c 4 <| .c 11 <| .c 13 <| .c 27 <| .c 28 <| .c 29 <| .nil) (.kept rfl (.row RenL.pure) <| .kept rfl (.row RenL.pure) <| .same (MemD.pure hdm) rfl <| .same (MemU.pure hum) rfl <| .kept rfl (.cells (RenL.c <| RenL.c <| RenL.c <| RenL.c <| RenL.c <| RenL.c <| RenL.c <| RenL.c <| RenL.c <| RenL.nil)) <| .nil) rfl rfl ?_
              refine W_chain (.v (y_ar rfl) rfl <| .a 1 rfl <| .k [4, 11, 13, 27, 28, 29] rfl) ?_
              first
                | exact ⟨l.length - (k + 1), by omega, k + 1, i + 1, dm, um, by omega, hi2, rfl, hex, hdm, hum, rfl⟩
                | exact ⟨l.length - (k + 1), by omega, k + 1, j, dm, um, by omega, hj, rfl, hex, hdm, hum, rfl⟩
        · have hk1 : ¬ s.kind = 1 := ff h3
          have hst : stepX T D n p i s = none := by unfold stepX; rw [if_neg hn2, if_neg hk1]
          rw [hst] at hex
          simp only at hex
          refine W_cs (.a 1 rfl <| .k [10] rfl) ?_
          refine W_ret ?_
          exact ⟨_, _, ResL.of rfl, Pur.pure, by rw [hex]; rfl⟩
    · have hke : k = l.length := by have := ff h1; omega
      subst hke
      rw [List.drop_length] at hex
      simp only [exB] at hex
      refine W_exit ?_
      refine W_cs (.a 5 rfl <| .k [10] rfl) ?_
      refine W_ret ?_
      refine ⟨_, _, ResL.of rfl, Pur.pure, ?_⟩
      rw [hex]
      exact congrArg (fun b => flag b) (decide_eq_decide.2 (by omega))
end PW
end Go.Proofs.Ytkgepjiebihodaa

/- Expansions of lists: package encode's Expand, the reference's Expand and Exact. -/
namespace Go.Proofs.Ytkgepjiebihodaa
set_option linter.unusedVariables false
set_option linter.unusedSimpArgs false
namespace PW
open Go.RowKit Reg Mem Net

section
variable {T : Topo} {D : List Bool}
theorem Ch.arcs {d m : Nat} {q : List Int} (h : Ch T D d m q) : ∀ a ∈ q, arcB T a = true := by
  induction h with
  | nil => intro a ha; cases ha
  | @cons n a m p ha ht hu hm ho hp ih =>
    intro b hb
    rcases List.mem_cons.1 hb with rfl | hb
    · exact arcB_iff.2 ⟨by omega, by omega⟩
    · exact ih b hb
theorem spE_facts {x y : Int} (h : spE T D x y = 0) : ∃ a b : Nat, x = (a : Int) ∧ y = (b : Int) ∧ (a : Int) < T.nodes ∧ (b : Int) < T.nodes ∧ validB T = true ∧ SP T D b a (spathL T D x.toNat y.toNat) := by
  unfold spE at h
  split at h
  · rename_i he
    obtain ⟨hv, hf, hn, hd⟩ := nodeE_zero he
    rw [nodeB_iff] at hn hd
    obtain ⟨a, rfl⟩ := Int.eq_ofNat_of_zero_le hn.1
    obtain ⟨b, rfl⟩ := Int.eq_ofNat_of_zero_le hd.1
    refine ⟨a, b, rfl, rfl, hn.2, hd.2, hv, ?_⟩
    simp only [Int.toNat_natCast] at h ⊢
    exact spath_sp hv hd.2 hn.2 (by split at h <;> omega)
  · rename_i he
    exact absurd h he
theorem end_zero {s : Seg} {x : Int} (h : (endS T s x).2 = 0) : segB T s = true ∧ nodeB T x = true ∧ (s.kind = 1 ∧ (endS T s x).1 = s.num ∨ s.kind = 2 ∧ arcB T s.num = true) := by
  unfold endS at h ⊢
  split at h
  · simp at h
  · rename_i h1
    have hsg : segB T s = true := by simpa using h1
    split at h
    · simp at h
    · rename_i h2
      rw [if_neg h1, if_neg h2]
      refine ⟨hsg, by simpa using h2, ?_⟩
      split at h
      · rename_i h3
        exact .inl ⟨h3, by rw [if_pos h3]⟩
      · rename_i h3
        split at h
        · rename_i h4
          right
          unfold segB at hsg
          rw [if_neg h3, if_pos h4] at hsg
          exact ⟨h4, hsg⟩
        · simp at h
theorem exp_arcs : ∀ (l : List Seg) (x : Int), (endsL T x l).2 = 0 → (expL T D x l).1 = 0 → ∀ a ∈ (expL T D x l).2, arcB T a = true
  | [], x, _, _ => by intro a ha; simp [expL] at ha
  | s :: l, x, h1, h2 => by
    simp only [endsL] at h1
    by_cases h0 : (endS T s x).2 = 0
    · rw [if_neg (by rw [h0]; simp)] at h1
      simp only at h1
      have hz := end_zero h0
      simp only [expL] at h2 ⊢
      split at h2
      · rename_i hk
        rw [if_pos hk]
        split at h2
        · simp at h2
        · rename_i hd
          rw [if_neg hd]
          simp only at h2 ⊢
          intro a ha
          rcases List.mem_cons.1 ha with rfl | ha
          · rcases hz.2.2 with h | h
            · omega
            · exact h.2
          · exact exp_arcs l _ h1 h2 a ha
      · rename_i hk
        rw [if_neg hk]
        split at h2
        · rename_i h5; exact absurd h2 h5
        · rename_i h5
          rw [if_neg h5]
          split at h2
          · simp at h2
          · rename_i h6
            rw [if_neg h6]
            simp only at h2 ⊢
            intro a ha
            rcases List.mem_append.1 ha with ha | ha
            · obtain ⟨_, _, _, _, _, _, _, hsp⟩ := spE_facts (Classical.byContradiction h5)
              exact hsp.ch.arcs a ha
            · exact exp_arcs l _ h1 h2 a ha
    · rw [if_pos h0] at h1; exact absurd h1 h0
theorem walk_four : ∀ (l : List Int) (f : Bool) (x : Int), (∀ a ∈ l, arcB T a = true) → walkE T f x l = 0 ∨ walkE T f x l = 4
  | [], _, _, _ => .inl rfl
  | a :: l, f, x, h => by
    simp only [walkE]
    rw [if_neg (by rw [h a (by simp)]; simp)]
    split
    · exact .inr rfl
    · exact walk_four l _ _ (fun b hb => h b (by simp [hb]))
theorem ends_cons {s : Seg} {l : List Seg} {x : Int} (h : (endsL T x (s :: l)).2 = 0) : (endS T s x).2 = 0 ∧ (endsL T (endS T s x).1 l).2 = 0 ∧ (endsL T x (s :: l)).1 = (endS T s x).1 :: (endsL T (endS T s x).1 l).1 := by
  simp only [endsL] at h ⊢
  by_cases h0 : (endS T s x).2 = 0
  · rw [if_neg (by rw [h0]; simp)] at h
    rw [if_neg (by rw [h0]; simp)]
    exact ⟨h0, h, rfl⟩
  · rw [if_pos h0] at h; exact absurd h h0
theorem ends_len : ∀ (l : List Seg) (x : Int), (endsL T x l).2 = 0 → (endsL T x l).1.length = l.length
  | [], _, _ => rfl
  | s :: l, x, h => by
    obtain ⟨_, h2, h3⟩ := ends_cons h
    rw [h3, List.length_cons, ends_len l _ h2, List.length_cons]
/-- The next step of an expansion. -/
structure ExpI (T : Topo) (D : List Bool) (l : List Seg) (n : Int) (k : Nat) (x : Int) (out : List Int) : Prop where
  ends : (endsL T x (l.drop k)).2 = 0
  row : (endsL T n l).1.drop k = (endsL T x (l.drop k)).1
  err : (expL T D n l).1 = (expL T D x (l.drop k)).1
  val : (expL T D n l).1 = 0 → (expL T D n l).2 = out ++ (expL T D x (l.drop k)).2
  len : out.length ≤ 12 * k
theorem ExpI.start {l : List Seg} {n : Int} (h : (endsL T n l).2 = 0) : ExpI T D l n 0 n [] := ⟨h, rfl, rfl, fun _ => rfl, by simp⟩
theorem ExpI.get {l : List Seg} {n : Int} {k : Nat} {x : Int} {out : List Int} (h : ExpI T D l n k x out) {s : Seg} (hd : l.drop k = s :: l.drop (k + 1)) (hk : k < (endsL T n l).1.length) : (endS T s x).2 = 0 ∧ (endsL T n l).1.getD k 0 = (endS T s x).1 ∧ (endsL T n l).1.drop (k + 1) = (endsL T (endS T s x).1 (l.drop (k + 1))).1 ∧ (endsL T (endS T s x).1 (l.drop (k + 1))).2 = 0 := by
  have h1 := h.ends
  have h2 := h.row
  rw [hd] at h1 h2
  obtain ⟨e1, e2, e3⟩ := ends_cons h1
  rw [e3, drop_cons _ _ hk] at h2
  exact ⟨e1, (List.cons.inj h2).1, (List.cons.inj h2).2, e2⟩
end
theorem segs_k (l : List Seg) (k : Nat) (s : Seg) (h : l[k]? = some s) : (segsP l)[k * 2 + 0]? = some (num s.kind) := segs_get l k 0 s h (by omega)
theorem segs_n (l : List Seg) (k : Nat) (s : Seg) (h : l[k]? = some s) : (segsP l)[k * 2 + 1]? = some (num s.num) := segs_get l k 1 s h (by omega)
instance (T : Topo) (n : Int) (l : List Int) : IsFlat (pathV T n l) := by unfold pathV; infer_instance
end PW
end Go.Proofs.Ytkgepjiebihodaa
