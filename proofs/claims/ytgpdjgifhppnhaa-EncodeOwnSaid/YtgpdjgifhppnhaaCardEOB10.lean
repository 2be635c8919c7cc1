/- Texts of the proof, part 10. -/
import Derived.WideShapes
import Derived.Test.YtgpdjgifhppnhaaCardEOB9
/- Package encode: a path with its nodes, its costs and what is known of distances. -/
namespace Go.Proofs.Ytgpdjgifhppnhaa
set_option linter.unusedVariables false
set_option linter.unusedSimpArgs false
namespace PW
open Go.RowKit Reg Mem Net

theorem mapI : mapK Try.prog 57 = some (3, 26) := by kernel_rfl
theorem mapP : mapK Try.prog 58 = some (49, 4) := by kernel_rfl
theorem zvI : zvK Try.prog 26 = some (.slice none 0 0) := by kernel_rfl
theorem zvP : zvK Try.prog 4 = some (.bool false) := by kernel_rfl
theorem slI : slK1 Try.prog 26 = true := by kernel_rfl
abbrev encI (n : Int) : Value := .int .i64 n
abbrev encP (p : Int × Int) : Value := .agg (pairV p)
theorem keyI : MapKey Try.prog 3 encI := intKey Try.underlying3
theorem keyP : MapKey Try.prog 49 encP := by
  have h : (Try.prog.info? 3).map (·.size) = some 1 := by kernel_rfl
  obtain ⟨i, h1, h2⟩ := Option.map_eq_some_iff.1 h
  exact pairKey Try.underlying49 Try.underlying3 h1 h2
theorem builtP (a b : Int) : Try.prog.built 49 [(0, .int .i64 a), (1, .int .i64 b)] = some #[.int .i64 a, .int .i64 b] := by kernel_rfl
/-- A pair of numbers. -/
theorem y_pair {P : Program} {σ : Sto} {t : Tms} {o : Oper} {ty : TypeId} {x y : Operand} {a b : Int} (ho : o.op = .build ty #[(0, x), (1, y)]) (hx : evalO t x = some (num a)) (hy : evalO t y = some (num b)) (hb : P.built ty [(0, .int .i64 a), (1, .int .i64 b)] = some #[.int .i64 a, .int .i64 b]) : Yield P σ t o (.agg [num a, num b]) := by
  intro F base E ρ w hρ hS hT
  have hrun := run_build (P := P) w ty #[(0, .int .i64 a), (1, .int .i64 b)] #[.int .i64 a, .int .i64 b] hb
  have h0 : ρ x = .int .i64 a := rep_raw (evalO_rep hρ hT hx)
  have h1 : ρ y = .int .i64 b := rep_raw (evalO_rep hρ hT hy)
  have hr : (execOp ρ o).run P w = .ok (.value (.agg #[.int .i64 a, .int .i64 b])) w := by
    simp only [execOp, ho, Sem.run_bind, List.map_toArray, List.map_cons, List.map_nil, h0, h1, hrun, Result.andThen_ok, Sem.run_pure]
  rw [hr]
  refine upon_val (.agg #[.int .i64 a, .int .i64 b] _ rfl (fun i x u k1 k2 => ?_))
  match i, k1, k2 with
  | 0, k1, k2 => simp at k1 k2; subst k1; subst k2; exact .raw _
  | 1, k1, k2 => simp at k1 k2; subst k1; subst k2; exact .raw _
  | _ + 2, k1, k2 => simp at k2
section
variable {κ : Type} [DecidableEq κ]
theorem lookM_set (k : κ) (p : PV) : ∀ l : List (κ × PV), lookM k (setM k p l) = some p
  | [] => by simp [setM, lookM]
  | (a, q) :: l => by
    unfold setM
    split
    · rename_i h; simp [lookM, h]
    · rename_i h; simp only [lookM, if_neg h]; exact lookM_set k p l
theorem y_memNil {P : Program} {σ : Sto} {t : Tms} {o : Oper} {x y : Operand} {ty tz : TypeId} {m : Option PV} (ho : o.op = .binOp .eql ty x y tz) (hk : slK1 P ty = true) (hx : evalO t x = some (m.getD (.raw (.slice none 0 0)))) (hy : evalO t y = some (.raw (.slice none 0 0))) (hm : ∀ v, m = some v → ∃ n xs, v = .slice n xs ∧ 0 < n) : Yield P σ t o (.raw (.bool m.isNone)) := by
  cases m with
  | none => exact y_isNil ho hk hx hy
  | some v =>
    obtain ⟨n, xs, rfl, hn⟩ := hm v rfl
    exact y_notNil ho hk hx hy hn
end
/-- What is known of distances and of only paths. -/
def MemD (T : Topo) (D : List Bool) (dm : List (Int × PV)) : Prop := ∀ k v, (k, v) ∈ dm → ∃ d : Nat, k = (d : Int) ∧ (d : Int) < T.nodes ∧ v = intsV (distL T D d false)
def MemU (T : Topo) (D : List Bool) (um : List ((Int × Int) × PV)) : Prop := ∀ k v, (k, v) ∈ um → v = flag (uniqB T D k.1 k.2)
theorem MemD.pure {T : Topo} {D : List Bool} {dm : List (Int × PV)} (h : MemD T D dm) : PureD (some (.mp (encM encI dm))) := fun b hb => by
  cases hb
  refine ⟨fun i u hu => ?_⟩
  have hm := List.mem_of_getElem? hu
  simp only [encM, List.map_map, List.mem_map, Function.comp] at hm
  obtain ⟨⟨k, v⟩, hkv, rfl⟩ := hm
  obtain ⟨d, _, _, hv⟩ := h k v hkv
  show IsPure v
  rw [hv]
  infer_instance
theorem MemU.pure {T : Topo} {D : List Bool} {um : List ((Int × Int) × PV)} (h : MemU T D um) : PureD (some (.mp (encM encP um))) := fun b hb => by
  cases hb
  refine ⟨fun i u hu => ?_⟩
  have hm := List.mem_of_getElem? hu
  simp only [encM, List.map_map, List.mem_map, Function.comp] at hm
  obtain ⟨⟨k, v⟩, hkv, rfl⟩ := hm
  show IsPure v
  rw [h k v hkv]
  infer_instance
theorem MemD.set {T : Topo} {D : List Bool} {dm : List (Int × PV)} (h : MemD T D dm) {d : Nat} (hd : (d : Int) < T.nodes) : MemD T D (setM (d : Int) (intsV (distL T D d false)) dm) := fun k v hk => by
  rcases mem_setM hk with e | e
  · cases e; exact ⟨d, rfl, hd, rfl⟩
  · exact h k v e
theorem MemU.set {T : Topo} {D : List Bool} {um : List ((Int × Int) × PV)} (h : MemU T D um) (a b : Int) : MemU T D (setM (a, b) (flag (uniqB T D a b)) um) := fun k v hk => by
  rcases mem_setM hk with e | e
  · cases e; rfl
  · exact h k v e
theorem MemD.look {T : Topo} {D : List Bool} {dm : List (Int × PV)} (h : MemD T D dm) {d : Nat} {v : PV} (hl : lookM (d : Int) dm = some v) : v = intsV (distL T D d false) := by
  obtain ⟨d', h1, _, h2⟩ := h _ _ (lookM_mem hl)
  have : d' = d := by omega
  subst this
  exact h2
/-- The nodes of a path, and the costs of its beginnings. -/
def ndL (T : Topo) (n : Int) (p : List Int) : List Int := n :: p.map fun a => headN T a.toNat
def csL (T : Topo) (p : List Int) : List Int := (List.range (p.length + 1)).map fun i => costL T (p.take i)
theorem ndL_len (T : Topo) (n : Int) (p : List Int) : (ndL T n p).length = p.length + 1 := by simp [ndL]
theorem csL_len (T : Topo) (p : List Int) : (csL T p).length = p.length + 1 := by simp [csL]
theorem ndL_step (T : Topo) (n : Int) (p : List Int) (k : Nat) (h : k < p.length) : ndL T n (p.take (k + 1)) = ndL T n (p.take k) ++ [headN T (p.getD k 0).toNat] := by
  rw [take_step p k 0 h]; simp [ndL]
theorem csL_step (T : Topo) (p : List Int) (k : Nat) (h : k < p.length) : csL T (p.take (k + 1)) = csL T (p.take k) ++ [costL T (p.take (k + 1))] := by
  unfold csL
  rw [show (p.take (k + 1)).length + 1 = (p.take k).length + 1 + 1 by simp; omega, List.range_succ, List.map_append]
  congr 1
  · refine List.map_congr_left fun i hi => ?_
    have := List.mem_range.1 hi
    rw [List.take_take, List.take_take, Nat.min_eq_left (by simp at this; omega), Nat.min_eq_left (by simp at this; omega)]
  · simp only [List.map_cons, List.map_nil, List.take_take]
    rw [Nat.min_eq_left (by simp; omega), show (p.take k).length + 1 = k + 1 by simp; omega]
theorem ndL_get (T : Topo) (n : Int) (p : List Int) (i : Nat) (h : i ≤ p.length) : (ndL T n p).getD i 0 = endL T n (p.take i) := by
  cases i with
  | zero => rfl
  | succ i =>
    rw [endL_step T n p i (by omega)]
    simp only [ndL, List.getD_cons_succ]
    rw [List.getD_eq_getElem?_getD, List.getElem?_map, List.getElem?_eq_getElem (by omega), List.getD_eq_getElem?_getD, List.getElem?_eq_getElem (by omega)]
    rfl
theorem csL_get (T : Topo) (p : List Int) (i : Nat) (h : i ≤ p.length) : (csL T p).getD i 0 = costL T (p.take i) := by
  unfold csL
  rw [List.getD_eq_getElem?_getD, List.getElem?_map, List.getElem?_range (by omega)]
  rfl
/-- The error of a path that is to be used. -/
def folE (T : Topo) (D : List Bool) (n : Int) (p : List Int) : Int := if (validB T && fitsB T D) = true then (if pathX T n p = 0 then (if p.any (fun a => downN D a.toNat) then 7 else 0) else pathX T n p) else 1
abbrev trkB (T : Topo) (D : List Bool) (p : List Int) (i : Nat) : Option Blk := some (.cells 60 (topoP T ++ [boolsV D, intsV p, .own i, .own (i + 1), .own (i + 2), .own (i + 3)]))
/-- The store of a call that has followed a path. -/
def trk (T : Topo) (D : List Bool) (p ns cs : List Int) (dm : List (Int × PV)) (um : List ((Int × Int) × PV)) : Sto :=
  [irow ns, irow cs, some (.mp (encM encI dm)), some (.mp (encM encP um)), trkB T D p 0]
theorem walk_arcs {T : Topo} : ∀ {f : Bool} {n : Int} {l : List Int}, walkE T f n l = 0 → ∀ a ∈ l, arcB T a = true
  | f, n, [], _, a, ha => by cases ha
  | f, n, b :: l, h, a, ha => by
    simp only [walkE] at h
    split at h
    · omega
    · split at h
      · omega
      · rename_i h1 _
        rcases List.mem_cons.1 ha with rfl | ha
        · simpa using h1
        · exact walk_arcs h a ha
theorem pathX_zero {T : Topo} {n : Int} {p : List Int} (h : pathX T n p = 0) : validB T = true ∧ nodeB T n = true ∧ walkE T true n p = 0 := by
  unfold pathX at h
  split at h
  · rename_i h1
    split at h
    · rename_i h2; exact ⟨h1, h2, h⟩
    · omega
  · omega
theorem costL_take_le {T : Topo} (hv : validB T = true) {p : List Int} (ha : ∀ a ∈ p, arcB T a = true) : ∀ k, k ≤ p.length → 0 ≤ costL T (p.take k) ∧ costL T (p.take k) ≤ 65535 * k
  | 0, _ => by simp [costL_nil]
  | k + 1, h => by
    have := costL_take_le hv ha k (by omega)
    rw [costL_step T p k (by omega)]
    have := (arc_facts hv (ha _ (getD_mem (d := 0) (show k < p.length by omega)))).1
    omega
set_option maxRecDepth 10000 in
set_option maxHeartbeats 2000000 in
theorem follow_can (T : Topo) (D : List Bool) (p : List Int) (n : Int) (hp : p.length ≤ 1000) (hlk : T.links.length ≤ 256) : CanS Try.prog 27 [topoV T, boolsV D, intsV p, num n] [] (fun r σ' => (folE T D n p ≠ 0 ∧ r = .tuple [.raw (.pointer none), num (folE T D n p)]) ∨ (folE T D n p = 0 ∧ r = .tuple [.ptr 4 0, num 0] ∧ σ' = trk T D p (ndL T n p) (csL T p) [] [])) := by
  obtain ⟨q1, hq1⟩ : ∃ q, validB T = q := ⟨_, rfl⟩
  obtain ⟨q2, hq2⟩ : ∃ q, fitsB T D = q := ⟨_, rfl⟩
  refine canS_of Try.func27 rfl Try.ntmps27 rfl ?_
  refine W_cs (.a 3 rfl <| .k [1, 2, 3, 4] rfl) ?_
  refine W_seq ?_
  refine W_csK 25 (.raw (.bool ((!q1) || !q2))) [1, 2, 3, 4] rfl ?_ ?_
  · refine .a 1 rfl <| .c rfl (hq1 ▸ valid_can T) rfl <| .a 2 rfl <| ?_
    cases q1
    · exact .a 5 rfl <| .k [25, 1, 2, 3, 4] rfl
    · exact .a 2 rfl <| .c rfl (hq2 ▸ fits_can T D (by omega)) rfl <| .a 2 rfl <| .k [25, 1, 2, 3, 4] rfl
  refine W_cond rfl (fun hc => ?_) (fun hc => ?_)
  · have he : folE T D n p = 1 := by unfold folE; rw [hq1, hq2]; cases q1 <;> cases q2 <;> first | rfl | cases hc
    refine W_cs (.a 2 rfl <| .k [8, 9] rfl) ?_
    refine W_ret ?_
    exact ⟨_, ResL.of rfl, .inl ⟨by rw [he]; decide, by rw [he]; rfl⟩⟩
  · have hv : validB T = true := by rw [hq1]; cases q1; cases hc; rfl
    have hf : fitsB T D = true := by rw [hq2]; cases q2; cases q1 <;> cases hc; rfl
    have hvf : (validB T && fitsB T D) = true := by rw [hv, hf]; rfl
    refine W_skip ?_
    refine W_seq ?_
    refine W_cs (.a 3 rfl <| .c rfl (path_can T n p (by omega)) rfl <| .a 7 rfl <| .k [1, 2, 3, 4, 12] rfl) ?_
    refine W_cs (.a 2 rfl <| .k [1, 2, 3, 4, 12, 35] rfl) ?_
    refine W_cond rfl (fun hx => ?_) (fun hx => ?_)
    · have hx1 : pathX T n p ≠ 0 := tt hx
      have he : folE T D n p = pathX T n p := by unfold folE; rw [if_pos hvf, if_neg hx1]
      refine W_cs (.a 3 rfl <| .k [8, 9] rfl) ?_
      refine W_ret ?_
      exact ⟨_, ResL.of rfl, .inl ⟨by rw [he]; exact hx1, by rw [he]; rfl⟩⟩
    · have hx1 : pathX T n p = 0 := Classical.byContradiction (ff hx)
      obtain ⟨_, hn, hw⟩ := pathX_zero hx1
      have ha := walk_arcs hw
      have hcb := costL_take_le hv ha
      refine W_skip ?_
      refine W_rs ?_
      refine WR_a 4 rfl <| WR_l (l_buildSlice (xs := [_]) rfl (fok.sl.get rfl) ⟨Nat.le_of_ble_eq_true rfl, Nat.le_of_ble_eq_true rfl⟩ rfl rfl) rfl <| WR_l (l_buildSlice (xs := [_]) rfl (fok.sl.get rfl) ⟨Nat.le_of_ble_eq_true rfl, Nat.le_of_ble_eq_true rfl⟩ rfl rfl) rfl <| WR_l (l_makeMap encI rfl) rfl <| WR_l (l_makeMap encP rfl) rfl <| WR_a 1 rfl <| WR_l (l_box rfl rfl rfl) rfl <| WR_a 1 rfl <| WR_k [1, 2, 4, 13] rfl ?_
      refine W_cs (.a 1 rfl <| .k [1, 2, 4, 13, 14] rfl) ?_
      refine W_seq ?_
      refine W_cs (.a 3 rfl <| .k [1, 4, 13, 14, 47, 48, 49] rfl) ?_
      refine W_block ?_
      refine W_k [1, 4, 13, 14, 47, 48, 49] rfl ?_
      refine W_loop (fun r st => ∃ k : Nat, k ≤ p.length ∧ r = p.length - k ∧ (∀ a ∈ p.take k, downN D a.toNat = false) ∧ st = ⟨[(1, boolsV D), (4, .pin (topoP T) 0), (13, .ptr 4 0), (14, num (costL T (p.take k))), (47, intsV p), (48, num p.length), (49, num k)], trk T D p (ndL T n (p.take k)) (csL T (p.take k)) [] []⟩) p.length ⟨0, by omega, by omega, by simp, rfl⟩ ?_
      rintro r st ⟨k, hk, rfl, hdn, rfl⟩
      have hck := hcb k hk
      have hl1 := ndL_len T n (p.take k)
      have hl2 := csL_len T (p.take k)
      have hl3 : (p.take k).length = k := by simp; omega
      refine W_cs (.a 1 rfl <| .k [1, 4, 13, 14, 47, 48, 49, 50] rfl) ?_
      refine W_seq ?_
      refine W_cond rfl (fun hy => ?_) (fun hy => ?_)
      · have hlt : k < p.length := by have := tt hy; omega
        have hmem := getD_mem (d := 0) hlt
        have hab := ha _ hmem
        obtain ⟨hac, m, hm, hmN⟩ := arc_facts hv hab
        have hst1 := ndL_step T n p k hlt
        have hst2 := csL_step T p k hlt
        have hst3 := costL_step T p k hlt
        have hab2 := hab
        simp only [arcB, decide_eq_true_eq] at hab2
        obtain ⟨a, hae⟩ : ∃ a : Nat, p.getD k 0 = (a : Int) := ⟨(p.getD k 0).toNat, by omega⟩
        have ham : a < 2 * T.links.length := by omega
        have hD : D.length = 0 ∨ a < D.length := by simp only [fitsB, decide_eq_true_eq] at hf; omega
        rw [hae, Int.toNat_natCast] at hm hac hst1 hst3
        have hh := head_can T a ham (by omega)
        rw [hm] at hh
        refine W_skip ?_
        refine W_seq ?_
        refine W_block ?_
        refine W_cs (.v (y_ix (k) rfl) rfl <| .v (y_ld rfl ((ints_get p k hlt).trans (by rw [hae]))) rfl <| .a 1 rfl <| .k [1, 4, 13, 14, 16, 47, 48, 49] rfl) ?_
        refine W_seq ?_
        refine W_cs (.a 2 rfl <| .c rfl (down_can D a hD) rfl <| .k [1, 4, 13, 14, 16, 47, 48, 49, 55] rfl) ?_
        refine W_cond rfl (fun hz => ?_) (fun hz => ?_)
        · have he : folE T D n p = 7 := by
            unfold folE
            rw [if_pos hvf, if_pos hx1, if_pos]
            exact List.any_eq_true.2 ⟨_, hmem, by rw [hae]; exact hz⟩
          refine W_cs (.a 2 rfl <| .k [8, 9] rfl) ?_
          refine W_ret ?_
          exact ⟨_, ResL.of rfl, .inl ⟨by rw [he]; decide, by rw [he]; rfl⟩⟩
        · have hdn2 : ∀ a ∈ p.take (k + 1), downN D a.toNat = false := fun x hx => by
            rw [take_step p k 0 hlt] at hx
            rcases List.mem_append.1 hx with h | h
            · exact hdn x h
            · simp only [List.mem_singleton] at h; rw [h, hae]; exact hz
          refine W_skip ?_
          refine W_cs (.a 3 rfl <| .c rfl (cost_can T a ham) rfl <| .v (y_ar rfl (hn := by unfold In64; omega)) rfl <| .a 1 rfl <| .k [1, 4, 13, 14, 16, 47, 48, 49] rfl) ?_
          refine W_dfs 9 8 mixed (
            .late [13] rfl (r_move rfl rfl) inferInstance rfl rfl <|
            .val [13] rfl (y_a rfl) rfl rfl <|
            .val [62] rfl (y_a rfl) rfl rfl <|
            .val [63] rfl (y_a rfl) rfl rfl <|
            .val [64] rfl (y_a rfl) rfl rfl <|
            .val [4] rfl (y_a rfl) rfl rfl <|
            .val [16] rfl (y_a rfl) rfl rfl <|
            .val [66, 67] rfl (y_c rfl (hh)) rfl rfl <|
            .val [68] rfl (y_a rfl) rfl rfl <|
            .nil) (by kernel_rfl) rfl rfl (keepT_sub (ks := [1, 4, 13, 14, 47, 48, 49, 61, 65, 69]) rfl) ?_
          refine WR_l (l_append rfl (fok.rk.get rfl) rfl rfl rfl rfl (by unfold maxLen; omega)) rfl <| WR_a 3 rfl ?_
          refine WR_ren [5, 1, 2, 3, 4] (.c 1 <| .c 4 <| .c 13 <| .c 14 <| .c 47 <| .c 48 <| .c 49 <| .nil) (.kept rfl (.rowP rfl (intsP_snoc _ _)) <| .kept rfl (.row RenL.pure) <| .same (MemD.pure (T := T) (D := D) (dm := []) (fun _ _ h => by cases h)) rfl <| .same (MemU.pure (T := T) (D := D) (um := []) (fun _ _ h => by cases h)) rfl <| .kept rfl (.cells (RenL.c <| RenL.c <| RenL.c <| RenL.c <| RenL.c <| RenL.c <| RenL.c <| RenL.c <| RenL.c <| RenL.nil)) <| .nil) rfl rfl (WR_nil ?_)
          refine W_region ?_
          refine WR_a 7 rfl <| WR_l (l_append rfl (fok.rk.get rfl) rfl rfl rfl rfl (by unfold maxLen; omega)) rfl <| WR_a 3 rfl ?_
          refine WR_ren [0, 5, 2, 3, 4] (.c 1 <| .c 4 <| .c 13 <| .c 14 <| .c 47 <| .c 48 <| .c 49 <| .nil) (.kept rfl (.row RenL.pure) <| .kept rfl (.rowP rfl (intsP_snoc _ _)) <| .same (MemD.pure (T := T) (D := D) (dm := []) (fun _ _ h => by cases h)) rfl <| .same (MemU.pure (T := T) (D := D) (um := []) (fun _ _ h => by cases h)) rfl <| .kept rfl (.cells (RenL.c <| RenL.c <| RenL.c <| RenL.c <| RenL.c <| RenL.c <| RenL.c <| RenL.c <| RenL.c <| RenL.nil)) <| .nil) rfl rfl (WR_nil ?_)
          refine W_chain (.v (y_ar rfl) rfl <| .a 1 rfl <| .k [1, 4, 13, 14, 47, 48, 49] rfl) ?_
          refine ⟨p.length - (k + 1), by omega, k + 1, by omega, rfl, hdn2, ?_⟩
          rw [hst1, hst2, hst3, hm]
          unfold trk irow
          simp only [List.length_append, List.length_singleton]
          rfl
      · have hke : k = p.length := by have := ff hy; omega
        subst hke
        rw [List.take_length] at hdn
        refine W_exit ?_
        refine W_cs (.a 3 rfl <| .k [8, 9] rfl) ?_
        refine W_ret ?_
        refine ⟨_, ResL.of rfl, .inr ⟨?_, rfl, by rw [List.take_length]⟩⟩
        unfold folE
        rw [if_pos hvf, if_pos hx1, if_neg]
        intro h
        obtain ⟨x, hx, hx2⟩ := List.any_eq_true.1 h
        rw [hdn x hx] at hx2
        cases hx2
/-- Whether the node segment of the node at j covers the part from i to j. -/
noncomputable def covB (T : Topo) (D : List Bool) (n : Int) (p : List Int) (i j : Nat) : Bool :=
  decide (dN T D (endL T n (p.take j)).toNat (endL T n (p.take i)).toNat = costL T (p.take j) - costL T (p.take i)) && uniqB T D (endL T n (p.take i)) (endL T n (p.take j))
theorem end_node {T : Topo} (hv : validB T = true) {n : Int} (hn : nodeB T n = true) {p : List Int} (ha : ∀ a ∈ p, arcB T a = true) (i : Nat) (hi : i ≤ p.length) : ∃ u : Nat, endL T n (p.take i) = (u : Int) ∧ (u : Int) < T.nodes := by
  cases i with
  | zero =>
    obtain ⟨h0, h1⟩ := nodeB_iff.1 hn
    obtain ⟨u, hu⟩ := Int.eq_ofNat_of_zero_le h0
    exact ⟨u, hu, by rw [← hu]; exact h1⟩
  | succ i =>
    rw [endL_step T n p i (by omega)]
    exact (arc_facts hv (ha _ (getD_mem (d := 0) (show i < p.length by omega)))).2
theorem chk_of {T : Topo} {D : List Bool} (hv : validB T = true) (hf : fitsB T D = true) {d : Nat} (hd : (d : Int) < T.nodes) : chkE T D [(d : Int)] = 0 := by
  unfold chkE
  rw [hv, hf]
  have : nodeB T (d : Int) = true := nodeB_iff.2 ⟨by omega, hd⟩
  simp [this]
set_option maxRecDepth 10000 in
set_option maxHeartbeats 2000000 in
theorem covered_can (T : Topo) (D : List Bool) (p : List Int) (n : Int) (dm : List (Int × PV)) (um : List ((Int × Int) × PV)) (x : Option Blk) (hx : PureD x) (hv : validB T = true) (hf : fitsB T D = true) (h12 : T.nodes ≤ 12) (hn : nodeB T n = true) (ha : ∀ a ∈ p, arcB T a = true) (hp : p.length ≤ 1000) (i j : Nat) (hi : i ≤ p.length) (hj : j ≤ p.length) (hdm : MemD T D dm) (hum : MemU T D um) :
    CanS Try.prog 28 [.ptr 4 0, num i, num j] (trk T D p (ndL T n p) (csL T p) dm um ++ [x]) (fun r σ' => r = flag (covB T D n p i j) ∧ ∃ dm' um', MemD T D dm' ∧ MemU T D um' ∧ σ' = trk T D p (ndL T n p) (csL T p) dm' um' ++ [x]) := by
  obtain ⟨u, hu, huN⟩ := end_node hv hn ha i hi
  obtain ⟨y, hy, hyN⟩ := end_node hv hn ha j hj
  have hcv : covB T D n p i j = (decide (dN T D y u = costL T (p.take j) - costL T (p.take i)) && uniqB T D u y) := by unfold covB; rw [hu, hy, Int.toNat_natCast, Int.toNat_natCast]
  rw [hcv]
  obtain ⟨hb1, hb2⟩ := distL_bound (D := D) hv (dir := false) hyN
  have hS := sound_of hv
  have hNp := hS.nodes
  have hdi : Can Try.prog 53 [topoV T, boolsV D, num y] (· = .tuple [intsV (distL T D y false), num 0]) := by
    have h := dist_can T D (y : Int)
    rw [chk_of hv hf hyN] at h
    exact h
  have hci := costL_take_le hv ha i hi
  have hcj := costL_take_le hv ha j hj
  have hl1 := ndL_len T n p
  have hl2 := csL_len T p
  have hgi := ndL_get T n p i hi
  have hgj := ndL_get T n p j hj
  have hki := csL_get T p i hi
  have hkj := csL_get T p j hj
  rw [hu] at hgi
  rw [hy] at hgj
  have hmn : ∀ v, lookM (y : Int) dm = some v → ∃ n xs, v = .slice n xs ∧ 0 < n := fun v h => ⟨_, _, hdm.look h, by omega⟩
  refine canS_of Try.func28 rfl Try.ntmps28 rfl ?_
  refine W_cs (.a 1 rfl <| .k [0, 1, 2] rfl) ?_
  refine W_drs mixed (by kernel_rfl) (.a 5 rfl <| .v [15, 16] (y_ix (i) rfl) rfl rfl <| .v [17] (y_ld rfl ((ints_get _ i (by omega)).trans (by rw [hgi]))) rfl rfl <| .a 5 rfl <| .v [22, 23] (y_ix (j) rfl) rfl rfl <| .v [24] (y_ld rfl ((ints_get _ j (by omega)).trans (by rw [hgj]))) rfl rfl <| .a 2 rfl <| .k [0, 1, 2, 7, 8] rfl) ?_
  refine W_seq ?_
  refine W_cs (.a 5 rfl <| .v (y_look keyI rfl mapI zvI rfl rfl rfl (keyRaw _) rfl) rfl <| .v (y_memNil rfl slI rfl rfl hmn) rfl <| .k [0, 1, 2, 7, 8, 32] rfl) ?_
  refine W_cond rfl (fun h1 => ?_) (fun h1 => ?_)
  · obtain ⟨dm1, hdm1⟩ : ∃ z, setM (y : Int) (intsV (distL T D y false)) dm = z := ⟨_, rfl⟩
    have hdm2 : MemD T D dm1 := by rw [← hdm1]; exact hdm.set hyN
    have hlk : lookM (y : Int) dm1 = some (intsV (distL T D y false)) := by rw [← hdm1]; exact lookM_set _ _ _
    refine W_drawFlt 18 8 mixed (
      .val [0] rfl (y_a rfl) rfl rfl <|
      .val [34] rfl (y_a rfl) rfl rfl <|
      .val [35] rfl (y_a rfl) rfl rfl <|
      .val [36] rfl (y_a rfl) rfl rfl <|
      .val [8] rfl (y_a rfl) rfl rfl <|
      .val [0] rfl (y_a rfl) rfl rfl <|
      .val [39] rfl (y_a rfl) rfl rfl <|
      .val [40] rfl (y_a rfl) rfl rfl <|
      .val [41] rfl (y_a rfl) rfl rfl <|
      .val [0] rfl (y_a rfl) rfl rfl <|
      .val [43] rfl (y_a rfl) rfl rfl <|
      .val [44] rfl (y_a rfl) rfl rfl <|
      .val [45] rfl (y_a rfl) rfl rfl <|
      .val [8] rfl (y_a rfl) rfl rfl <|
      .val [42, 46, 47] rfl (y_c rfl (hdi)) rfl rfl <|
      .val [48] rfl (y_a rfl) rfl rfl <|
      .val [33] rfl (y_a rfl) rfl rfl <|
      .late [33] rfl (r_extract rfl rfl rfl) inferInstance rfl rfl <|
      .nil) (by kernel_rfl) rfl rfl (keepT_sub (ks := [0, 1, 2, 7, 8, 37, 38, 49]) rfl) ?_
    refine WR_loud0 (l_mapSet keyI rfl mapI rfl rfl rfl (keyRaw _) rfl) rfl rfl <| WR_k [0, 1, 2, 7, 8] rfl ?_
    refine W_sto (σ' := trk T D p (ndL T n p) (csL T p) dm1 um ++ [x]) (by rw [← hdm1]; rfl) ?_
    refine W_seq ?_
    refine W_drs mixed (by kernel_rfl) (.a 5 rfl <| .v [54, 55] (y_look keyI rfl mapI zvI rfl rfl rfl (keyRaw _) (by rw [hlk])) rfl rfl <| .a 1 rfl <| .v [56, 57] (y_ix (u) rfl) rfl rfl <| .v [58] (y_ld rfl (ints_get _ u (by omega))) rfl rfl <| .a 5 rfl <| .v [63, 64] (y_ix (j) rfl) rfl rfl <| .v [65] (y_ld rfl ((ints_get _ j (by omega)).trans (by rw [hkj]))) rfl rfl <| .a 5 rfl <| .v [70, 71] (y_ix (i) rfl) rfl rfl <| .v [72] (y_ld rfl ((ints_get _ i (by omega)).trans (by rw [hki]))) rfl rfl <| .v [66, 73] (y_ar rfl) rfl rfl <| .a 1 rfl <| .k [0, 7, 8, 75] rfl) ?_
    refine W_cond rfl (fun h2 => ?_) (fun h2 => ?_)
    · have h3 : dN T D y u ≠ costL T (p.take j) - costL T (p.take i) := tt h2
      refine W_cs (.a 1 rfl <| .k [6] rfl) ?_
      refine W_ret ?_
      refine ⟨_, ResL.of rfl, ?_, _, _, hdm2, hum, rfl⟩
      rw [decide_eq_false h3]
      rfl
    · have h3 : dN T D y u = costL T (p.take j) - costL T (p.take i) := Classical.byContradiction (ff h2)
      obtain ⟨b, hb⟩ : ∃ b : Bool, (lookM ((u : Int), (y : Int)) um).getD (.raw (.bool false)) = flag b := by
        cases h : lookM ((u : Int), (y : Int)) um with
        | none => exact ⟨false, rfl⟩
        | some v => exact ⟨_, hum _ _ (lookM_mem h)⟩
      refine W_skip ?_
      refine W_rs ?_
      refine WR_a 2 rfl <| WR_v (y_pair rfl rfl rfl (builtP _ _)) rfl <| WR_a 2 rfl <| WR_k [0, 7, 8, 9] rfl ?_
      refine W_sto (σ' := trk T D p (ndL T n p) (csL T p) dm1 um ++ [x, some (.cells 49 [num u, num y])]) rfl ?_
      refine W_drs mixed (by kernel_rfl) (.a 5 rfl <| .v [83, 84] (y_look2 keyP rfl mapP zvP rfl rfl rfl (keyAgg2 _ _) hb rfl) rfl rfl <| .a 5 rfl <| .k [0, 7, 8, 9, 10, 11] rfl) ?_
      refine W_seq ?_
      refine W_cs (.a 2 rfl <| .k [0, 7, 8, 9, 10, 89] rfl) ?_
      refine W_cond rfl (fun h4 => ?_) (fun h4 => ?_)
      · obtain ⟨um1, hum1⟩ : ∃ z, setM ((u : Int), (y : Int)) (flag (uniqB T D u y)) um = z := ⟨_, rfl⟩
        have hum2 : MemU T D um1 := by rw [← hum1]; exact hum.set u y
        refine W_drs mixed (by kernel_rfl) (.a 10 rfl <| .v [93, 97, 98, 99] (y_c rfl (unique_can T D u y h12)) rfl rfl <| .a 1 rfl <| .k [0, 9, 10] rfl) ?_
        refine W_drawFlt 6 8 mixed (
          .val [0] rfl (y_a rfl) rfl rfl <|
          .val [101] rfl (y_a rfl) rfl rfl <|
          .val [102] rfl (y_a rfl) rfl rfl <|
          .val [103] rfl (y_a rfl) rfl rfl <|
          .val [9] rfl (y_a rfl) rfl rfl <|
          .val [10] rfl (y_a rfl) rfl rfl <|
          .nil) (by kernel_rfl) rfl rfl (keepT_sub (ks := [10, 104, 105, 106]) rfl) ?_
        refine WR_loud0 (l_mapSet keyP (k := ((u : Int), (y : Int))) rfl mapP rfl rfl rfl (keyAgg2 (.int .i64 (u : Int)) (.int .i64 (y : Int))) rfl) rfl rfl <| WR_k [10] rfl ?_
        refine W_sto (σ' := trk T D p (ndL T n p) (csL T p) dm1 um1 ++ [x, some (.cells 49 [num u, num y])]) (by rw [← hum1]; rfl) ?_
        obtain ⟨b, hbu⟩ : ∃ b, b = uniqB T D u y := ⟨_, rfl⟩
        refine W_cs (.a 2 rfl <| .k [6] rfl) ?_
        refine W_ren [0, 1, 2, 3, 4, 5] (.c 6 <| .nil) (.kept rfl (.row RenL.pure) <| .kept rfl (.row RenL.pure) <| .same (MemD.pure hdm2) rfl <| .same (MemU.pure hum2) rfl <| .kept rfl (.cells (RenL.c <| RenL.c <| RenL.c <| RenL.c <| RenL.c <| RenL.c <| RenL.c <| RenL.c <| RenL.c <| RenL.nil)) <| .same hx rfl <| .nil) rfl rfl ?_
        refine W_ret ?_
        refine ⟨_, ResL.of rfl, ?_, _, _, hdm2, hum2, rfl⟩
        rw [decide_eq_true h3, Bool.true_and]
        first
          | rfl
          | (rw [hbu]; rfl)
      · have hbu : b = uniqB T D u y := by
          cases h : lookM ((u : Int), (y : Int)) um with
          | none => rw [h] at h4; cases h4
          | some v =>
            rw [h, hum _ _ (lookM_mem h)] at hb
            have := hb
            simp only [Option.getD_some] at this
            cases this
            rfl
        have hum2 := hum
        obtain ⟨um1, hum1⟩ : ∃ z, z = um := ⟨_, rfl⟩
        subst hum1
        refine W_skip ?_
        refine W_cs (.a 2 rfl <| .k [6] rfl) ?_
        refine W_ren [0, 1, 2, 3, 4, 5] (.c 6 <| .nil) (.kept rfl (.row RenL.pure) <| .kept rfl (.row RenL.pure) <| .same (MemD.pure hdm2) rfl <| .same (MemU.pure hum2) rfl <| .kept rfl (.cells (RenL.c <| RenL.c <| RenL.c <| RenL.c <| RenL.c <| RenL.c <| RenL.c <| RenL.c <| RenL.c <| RenL.nil)) <| .same hx rfl <| .nil) rfl rfl ?_
        refine W_ret ?_
        refine ⟨_, ResL.of rfl, ?_, _, _, hdm2, hum2, rfl⟩
        rw [decide_eq_true h3, Bool.true_and]
        first
          | rfl
          | (rw [hbu]; rfl)
  · obtain ⟨v, hv1⟩ : ∃ v, lookM (y : Int) dm = some v := by
      cases h : lookM (y : Int) dm with
      | none => rw [h] at h1; cases h1
      | some v => exact ⟨v, rfl⟩
    have hlk : lookM (y : Int) dm = some (intsV (distL T D y false)) := by rw [hv1, hdm.look hv1]
    have hdm2 := hdm
    obtain ⟨dm1, hdm1⟩ : ∃ z, z = dm := ⟨_, rfl⟩
    subst hdm1
    refine W_skip ?_
    refine W_seq ?_
    refine W_drs mixed (by kernel_rfl) (.a 5 rfl <| .v [54, 55] (y_look keyI rfl mapI zvI rfl rfl rfl (keyRaw _) (by rw [hlk])) rfl rfl <| .a 1 rfl <| .v [56, 57] (y_ix (u) rfl) rfl rfl <| .v [58] (y_ld rfl (ints_get _ u (by omega))) rfl rfl <| .a 5 rfl <| .v [63, 64] (y_ix (j) rfl) rfl rfl <| .v [65] (y_ld rfl ((ints_get _ j (by omega)).trans (by rw [hkj]))) rfl rfl <| .a 5 rfl <| .v [70, 71] (y_ix (i) rfl) rfl rfl <| .v [72] (y_ld rfl ((ints_get _ i (by omega)).trans (by rw [hki]))) rfl rfl <| .v [66, 73] (y_ar rfl) rfl rfl <| .a 1 rfl <| .k [0, 7, 8, 75] rfl) ?_
    refine W_cond rfl (fun h2 => ?_) (fun h2 => ?_)
    · have h3 : dN T D y u ≠ costL T (p.take j) - costL T (p.take i) := tt h2
      refine W_cs (.a 1 rfl <| .k [6] rfl) ?_
      refine W_ret ?_
      refine ⟨_, ResL.of rfl, ?_, _, _, hdm2, hum, rfl⟩
      rw [decide_eq_false h3]
      rfl
    · have h3 : dN T D y u = costL T (p.take j) - costL T (p.take i) := Classical.byContradiction (ff h2)
      obtain ⟨b, hb⟩ : ∃ b : Bool, (lookM ((u : Int), (y : Int)) um).getD (.raw (.bool false)) = flag b := by
        cases h : lookM ((u : Int), (y : Int)) um with
        | none => exact ⟨false, rfl⟩
        | some v => exact ⟨_, hum _ _ (lookM_mem h)⟩
      refine W_skip ?_
      refine W_rs ?_
      refine WR_a 2 rfl <| WR_v (y_pair rfl rfl rfl (builtP _ _)) rfl <| WR_a 2 rfl <| WR_k [0, 7, 8, 9] rfl ?_
      refine W_sto (σ' := trk T D p (ndL T n p) (csL T p) dm1 um ++ [x, some (.cells 49 [num u, num y])]) rfl ?_
      refine W_drs mixed (by kernel_rfl) (.a 5 rfl <| .v [83, 84] (y_look2 keyP rfl mapP zvP rfl rfl rfl (keyAgg2 _ _) hb rfl) rfl rfl <| .a 5 rfl <| .k [0, 7, 8, 9, 10, 11] rfl) ?_
      refine W_seq ?_
      refine W_cs (.a 2 rfl <| .k [0, 7, 8, 9, 10, 89] rfl) ?_
      refine W_cond rfl (fun h4 => ?_) (fun h4 => ?_)
      · obtain ⟨um1, hum1⟩ : ∃ z, setM ((u : Int), (y : Int)) (flag (uniqB T D u y)) um = z := ⟨_, rfl⟩
        have hum2 : MemU T D um1 := by rw [← hum1]; exact hum.set u y
        refine W_drs mixed (by kernel_rfl) (.a 10 rfl <| .v [93, 97, 98, 99] (y_c rfl (unique_can T D u y h12)) rfl rfl <| .a 1 rfl <| .k [0, 9, 10] rfl) ?_
        refine W_drawFlt 6 8 mixed (
          .val [0] rfl (y_a rfl) rfl rfl <|
          .val [101] rfl (y_a rfl) rfl rfl <|
          .val [102] rfl (y_a rfl) rfl rfl <|
          .val [103] rfl (y_a rfl) rfl rfl <|
          .val [9] rfl (y_a rfl) rfl rfl <|
          .val [10] rfl (y_a rfl) rfl rfl <|
          .nil) (by kernel_rfl) rfl rfl (keepT_sub (ks := [10, 104, 105, 106]) rfl) ?_
        refine WR_loud0 (l_mapSet keyP (k := ((u : Int), (y : Int))) rfl mapP rfl rfl rfl (keyAgg2 (.int .i64 (u : Int)) (.int .i64 (y : Int))) rfl) rfl rfl <| WR_k [10] rfl ?_
        refine W_sto (σ' := trk T D p (ndL T n p) (csL T p) dm1 um1 ++ [x, some (.cells 49 [num u, num y])]) (by rw [← hum1]; rfl) ?_
        obtain ⟨b, hbu⟩ : ∃ b, b = uniqB T D u y := ⟨_, rfl⟩
        refine W_cs (.a 2 rfl <| .k [6] rfl) ?_
        refine W_ren [0, 1, 2, 3, 4, 5] (.c 6 <| .nil) (.kept rfl (.row RenL.pure) <| .kept rfl (.row RenL.pure) <| .same (MemD.pure hdm2) rfl <| .same (MemU.pure hum2) rfl <| .kept rfl (.cells (RenL.c <| RenL.c <| RenL.c <| RenL.c <| RenL.c <| RenL.c <| RenL.c <| RenL.c <| RenL.c <| RenL.nil)) <| .same hx rfl <| .nil) rfl rfl ?_
        refine W_ret ?_
        refine ⟨_, ResL.of rfl, ?_, _, _, hdm2, hum2, rfl⟩
        rw [decide_eq_true h3, Bool.true_and]
        first
          | rfl
          | (rw [hbu]; rfl)
      · have hbu : b = uniqB T D u y := by
          cases h : lookM ((u : Int), (y : Int)) um with
          | none => rw [h] at h4; cases h4
          | some v =>
            rw [h, hum _ _ (lookM_mem h)] at hb
            have := hb
            simp only [Option.getD_some] at this
            cases this
            rfl
        have hum2 := hum
        obtain ⟨um1, hum1⟩ : ∃ z, z = um := ⟨_, rfl⟩
        subst hum1
        refine W_skip ?_
        refine W_cs (.a 2 rfl <| .k [6] rfl) ?_
        refine W_ren [0, 1, 2, 3, 4, 5] (.c 6 <| .nil) (.kept rfl (.row RenL.pure) <| .kept rfl (.row RenL.pure) <| .same (MemD.pure hdm2) rfl <| .same (MemU.pure hum2) rfl <| .kept rfl (.cells (RenL.c <| RenL.c <| RenL.c <| RenL.c <| RenL.c <| RenL.c <| RenL.c <| RenL.c <| RenL.c <| RenL.nil)) <| .same hx rfl <| .nil) rfl rfl ?_
        refine W_ret ?_
        refine ⟨_, ResL.of rfl, ?_, _, _, hdm2, hum2, rfl⟩
        rw [decide_eq_true h3, Bool.true_and]
        first
          | rfl
          | (rw [hbu]; rfl)
end PW
end Go.Proofs.Ytgpdjgifhppnhaa

/- Lists of segments for a path, as plain mathematics; package encode's List. -/
namespace Go.Proofs.Ytgpdjgifhppnhaa
set_option linter.unusedVariables false
set_option linter.unusedSimpArgs false
namespace PW
open Go.RowKit Reg Mem Net

theorem segsP_snoc (l : List Seg) (e : Seg) : segsP l ++ segP e = segsP (l ++ [e]) := by simp [segsP]
theorem segsP_len (l : List Seg) : (segsP l).length = l.length * 2 := by
  induction l with
  | nil => rfl
  | cons a l ih => simp only [segsP, List.flatMap_cons, List.length_append, List.length_cons] at *; rw [ih]; simp [segP]; omega
/-- The greatest of the numbers i + 1 .. m with a property. -/
def topD (c : Nat → Bool) (i : Nat) : Nat → Option Nat
  | 0 => none
  | m + 1 => if m + 1 ≤ i then none else if c (m + 1) then some (m + 1) else topD c i m
theorem topD_some {c : Nat → Bool} {i j : Nat} (hij : i < j) (hc : c j = true) : ∀ m, j ≤ m → (∀ k, j < k → k ≤ m → c k = false) → topD c i m = some j
  | 0, h, _ => by omega
  | m + 1, h, hn => by
    unfold topD
    rw [if_neg (by omega)]
    by_cases e : j = m + 1
    · subst e; rw [if_pos hc]
    · rw [if_neg (by rw [hn (m + 1) (by omega) (by omega)]; simp)]
      exact topD_some hij hc m (by omega) (fun k h1 h2 => hn k h1 (by omega))
theorem topD_none {c : Nat → Bool} {i : Nat} : ∀ m, (∀ k, i < k → k ≤ m → c k = false) → topD c i m = none
  | 0, _ => rfl
  | m + 1, hn => by
    unfold topD
    by_cases e : m + 1 ≤ i
    · rw [if_pos e]
    · rw [if_neg e, if_neg (by rw [hn (m + 1) (by omega) (by omega)]; simp)]
      exact topD_none m (fun k h1 h2 => hn k h1 (by omega))
theorem topD_is {c : Nat → Bool} {i : Nat} : ∀ m j, topD c i m = some j → i < j ∧ j ≤ m ∧ c j = true ∧ ∀ k, j < k → k ≤ m → c k = false
  | 0, j, h => by cases h
  | m + 1, j, h => by
    unfold topD at h
    split at h
    · cases h
    · split at h
      · cases h; rename_i h1 h2; exact ⟨by omega, by omega, h2, fun k h3 h4 => by omega⟩
      · rename_i h1 h2
        obtain ⟨a, b, c1, d⟩ := topD_is m j h
        refine ⟨a, by omega, c1, fun k h3 h4 => ?_⟩
        by_cases e : k = m + 1
        · subst e; simpa using h2
        · exact d k h3 (by omega)
theorem topD_isNone {c : Nat → Bool} {i : Nat} : ∀ m, topD c i m = none → ∀ k, i < k → k ≤ m → c k = false
  | 0, _, k, h1, h2 => by omega
  | m + 1, h, k, h1, h2 => by
    unfold topD at h
    split at h
    · omega
    · split at h
      · cases h
      · rename_i h3 h4
        by_cases e : k = m + 1
        · subst e; simpa using h4
        · exact topD_isNone m h k h1 (by omega)
/-- The list of the part of a path from i on. -/
noncomputable def lstF (T : Topo) (D : List Bool) (n : Int) (p : List Int) : Nat → Nat → List Seg
  | 0, _ => []
  | f + 1, i => if i < p.length then (match topD (covB T D n p i) i p.length with
    | some j => ⟨1, endL T n (p.take j)⟩ :: lstF T D n p f j
    | none => ⟨2, p.getD i 0⟩ :: lstF T D n p f (i + 1)) else []
noncomputable def lstL (T : Topo) (D : List Bool) (n : Int) (p : List Int) : List Seg := lstF T D n p p.length 0
section
variable {T : Topo} {D : List Bool} {n : Int} {p : List Int}
theorem lst_end (f i : Nat) (h : p.length ≤ i) : lstF T D n p f i = [] := by
  cases f with
  | zero => rfl
  | succ f => simp only [lstF]; rw [if_neg (by omega)]
theorem lst_some {f i j : Nat} (hi : i < p.length) (hij : i < j) (hj : j ≤ p.length) (hc : covB T D n p i j = true) (hno : ∀ k, j < k → k ≤ p.length → covB T D n p i k = false) : lstF T D n p (f + 1) i = ⟨1, endL T n (p.take j)⟩ :: lstF T D n p f j := by
  simp only [lstF]
  rw [if_pos hi, topD_some hij hc p.length hj hno]
theorem lst_none {f i : Nat} (hi : i < p.length) (hno : ∀ k, i < k → k ≤ p.length → covB T D n p i k = false) : lstF T D n p (f + 1) i = ⟨2, p.getD i 0⟩ :: lstF T D n p f (i + 1) := by
  simp only [lstF]
  rw [if_pos hi, topD_none p.length hno]
theorem walk_take : ∀ {f : Bool} {x : Int} {l m : List Int}, walkE T f x (l ++ m) = 0 → walkE T f x l = 0 ∧ ∃ g, walkE T g (endL T x l) m = 0
  | f, x, [], m, h => ⟨rfl, f, h⟩
  | f, x, a :: l, m, h => by
    simp only [List.cons_append, walkE] at h ⊢
    split at h
    · omega
    · rename_i h1
      rw [if_neg h1]
      split at h
      · omega
      · rename_i h2
        rw [if_neg h2]
        exact walk_take h
theorem walk_ch (hv : validB T = true) : ∀ {f : Bool} {x : Nat} {l : List Int} {y : Nat}, walkE T f x l = 0 → (∀ a ∈ l, downN D a.toNat = false) → endL T x l = (y : Int) → Ch T D y x l
  | f, x, [], y, _, _, he => by
    have : y = x := by simp only [endL] at he; omega
    subst this
    exact .nil
  | f, x, a :: l, y, h, hd, he => by
    simp only [walkE] at h
    split at h
    · omega
    · rename_i h1
      split at h
      · omega
      · rename_i h2
        have hab : arcB T a = true := by simpa using h1
        obtain ⟨_, m, hm, hmN⟩ := arc_facts hv hab
        simp only [arcB, decide_eq_true_eq] at hab
        obtain ⟨b, rfl⟩ := Int.eq_ofNat_of_zero_le hab.1
        rw [Int.toNat_natCast] at hm
        simp only [endL, Int.toNat_natCast] at he h2 h
        rw [hm] at he h
        have hch := walk_ch hv h (fun c hc => hd c (by simp [hc])) he
        refine .cons (by omega) (Classical.byContradiction fun hn => h2 (.inl hn)) (hd b (by simp)) hm ?_ hch
        cases l with
        | nil => exact .inl rfl
        | cons c l =>
          right
          simp only [walkE] at h
          split at h
          · omega
          · split at h
            · omega
            · rename_i h4
              simp only [Int.toNat_natCast] at h4
              cases ho : overN T m with
              | false => rfl
              | true => exact absurd (.inr ⟨trivial, ho⟩) h4
/-- A path that is to be used. -/
structure Fol (T : Topo) (D : List Bool) (n : Int) (p : List Int) : Prop where
  valid : validB T = true
  fits : fitsB T D = true
  node : nodeB T n = true
  walk : walkE T true n p = 0
  up : ∀ a ∈ p, downN D a.toNat = false
theorem fol_of (h : folE T D n p = 0) : Fol T D n p := by
  unfold folE at h
  split at h
  · rename_i h1
    obtain ⟨hv, hf⟩ := Bool.and_eq_true_iff.1 h1
    split at h
    · rename_i h2
      obtain ⟨_, hn, hw⟩ := pathX_zero h2
      split at h
      · omega
      · rename_i h3
        exact ⟨hv, hf, hn, hw, fun a ha => by
          cases hd : downN D a.toNat with
          | false => rfl
          | true => exact absurd (List.any_eq_true.2 ⟨a, ha, hd⟩) h3⟩
    · omega
  · omega
theorem Fol.arcs (h : Fol T D n p) : ∀ a ∈ p, arcB T a = true := walk_arcs h.walk
/-- A part of the path. -/
def partL (p : List Int) (i j : Nat) : List Int := (p.drop i).take (j - i)
theorem take_part (p : List Int) {i j : Nat} (hij : i ≤ j) : p.take j = p.take i ++ partL p i j := by
  unfold partL
  have h : (p.take j) = (p.take j).take i ++ (p.take j).drop i := (List.take_append_drop i _).symm
  rw [h, List.take_take, Nat.min_eq_left hij, List.drop_take]
theorem part_len (p : List Int) {i j : Nat} (hij : i ≤ j) (hj : j ≤ p.length) : (partL p i j).length = j - i := by unfold partL; simp; omega
theorem Fol.ch (h : Fol T D n p) {i j u y : Nat} (hij : i ≤ j) (hj : j ≤ p.length) (hu : endL T n (p.take i) = (u : Int)) (hy : endL T n (p.take j) = (y : Int)) : Ch T D y u (partL p i j) := by
  have h1 : walkE T true n (p.take j) = 0 := (walk_take (l := p.take j) (m := p.drop j) (by rw [List.take_append_drop]; exact h.walk)).1
  rw [take_part p hij] at h1
  obtain ⟨_, g, hg⟩ := walk_take h1
  rw [hu] at hg
  refine walk_ch h.valid hg (fun a ha => h.up a ?_) ?_
  · exact List.mem_of_mem_drop (List.mem_of_mem_take ha)
  · rw [← hu, ← endL_append, ← take_part p hij]; exact hy
theorem part_cost (T : Topo) (p : List Int) {i j : Nat} (hij : i ≤ j) : costL T (p.take j) - costL T (p.take i) = costL T (partL p i j) := by
  rw [take_part p hij, costL_append]; omega
theorem cov_iff (h : Fol T D n p) {i j u y : Nat} (hij : i ≤ j) (hj : j ≤ p.length) (hu : endL T n (p.take i) = (u : Int)) (hy : endL T n (p.take j) = (y : Int)) : covB T D n p i j = true ↔ SP T D y u (partL p i j) ∧ cntS T D y u = 1 := by
  have hch := h.ch hij hj hu hy
  have ha := h.arcs
  obtain ⟨u', hu', huN⟩ := end_node h.valid h.node ha i (by omega)
  obtain ⟨y', hy', hyN⟩ := end_node h.valid h.node ha j hj
  have e1 : u' = u := by omega
  have e2 : y' = y := by omega
  subst e1
  subst e2
  have hne : nodeE T D (u' : Int) (y' : Int) = 0 := by
    unfold nodeE
    rw [if_pos (chk_of h.valid h.fits hyN), nodeB_iff.2 ⟨by omega, huN⟩]
    rfl
  unfold covB uniqB
  rw [hu, hy, Int.toNat_natCast, Int.toNat_natCast, part_cost T p hij, hne]
  simp only [decide_true, Bool.true_and, Bool.and_eq_true, decide_eq_true_eq]
  constructor
  · rintro ⟨h1, h2⟩; exact ⟨hch.sp h.valid hyN h1, h2⟩
  · rintro ⟨h1, h2⟩; exact ⟨(h1.cost h.valid hyN).1, h2⟩
theorem cov_far (h : Fol T D n p) {i j : Nat} (hij : i ≤ j) (hj : j ≤ p.length) (hc : covB T D n p i j = true) : (j : Int) - i < T.nodes := by
  have ha := h.arcs
  obtain ⟨u, hu, huN⟩ := end_node h.valid h.node ha i (by omega)
  obtain ⟨y, hy, hyN⟩ := end_node h.valid h.node ha j hj
  have := ((cov_iff h hij hj hu hy).1 hc).1.len_lt h.valid hyN
  rw [part_len p hij hj] at this
  omega
end
def segsE (e : Int) (l : List Seg) : PV := .tuple [segsV (if e = 0 then l else []), num e]
def srow (l : List Seg) : Option Blk := some (.row 43 2 l.length (segsP l))
theorem srow_pure (l : List Seg) : PureD (srow l) := fun b hb => by cases hb; exact (inferInstance : IsPureL (segsP l))
theorem follow_one (T : Topo) (D : List Bool) (p : List Int) (n : Int) (hp : p.length ≤ 1000) (hlk : T.links.length ≤ 256) : CanS Try.prog 27 [topoV T, boolsV D, intsV p, num n] [] (fun r σ' => ∃ x, r = .tuple [x, num (folE T D n p)] ∧ (folE T D n p = 0 → x = .ptr 4 0 ∧ σ' = trk T D p (ndL T n p) (csL T p) [] [])) :=
  CanS.mono (follow_can T D p n hp hlk) fun r σ' h => by
    rcases h with ⟨he, rfl⟩ | ⟨he, rfl, rfl⟩
    · exact ⟨_, rfl, fun h => absurd h he⟩
    · exact ⟨_, by rw [he], fun _ => ⟨rfl, rfl⟩⟩
set_option maxRecDepth 10000 in
set_option maxHeartbeats 2000000 in
theorem elist_can (T : Topo) (D : List Bool) (p : List Int) (n : Int) (hp : p.length ≤ 1000) (hlk : T.links.length ≤ 256) (h12 : T.nodes ≤ 12) : Can Try.prog 13 [topoV T, boolsV D, intsV p, num n] (· = segsE (folE T D n p) (lstL T D n p)) := by
  refine can_of Try.func13 rfl Try.ntmps13 rfl ?_
  refine W_cs (.a 3 rfl <| .k [1, 2, 3, 4] rfl) ?_
  refine W_scope ?_
  refine W_rs ?_
  refine WR_a 4 rfl <| WR_cS rfl rfl (CanS.mono (follow_one T D p n hp hlk) (fun r σ' h => ?_))
  obtain ⟨x, rfl, hx⟩ := h
  refine WR_a 5 rfl <| WR_k [2, 4, 10, 11] rfl ?_
  refine W_seq ?_
  refine W_cs (.a 2 rfl <| .k [2, 4, 10, 11, 24] rfl) ?_
  refine W_cond rfl (fun hc => ?_) (fun hc => ?_)
  · have he : folE T D n p ≠ 0 := tt hc
    refine W_cs (.a 3 rfl <| .k [8, 9] rfl) ?_
    refine W_ret ?_
    exact ⟨_, _, ResL.of rfl, Pur.tupleL (PurL.cons Pur.nils (PurL.cons Pur.pure PurL.nil)), by unfold segsE; rw [if_neg he]; rfl⟩
  · have he : folE T D n p = 0 := Classical.byContradiction (ff hc)
    obtain ⟨rfl, rfl⟩ := hx he
    have hF := fol_of he
    have hv := hF.valid
    have hS := sound_of hv
    have hN := hS.nodes
    have ha := hF.arcs
    obtain ⟨N, hNN⟩ : ∃ N : Nat, T.nodes = (N : Int) := ⟨T.nodes.toNat, by omega⟩
    rw [he]
    clear hc
    refine W_skip ?_
    refine W_cs (.a 1 rfl <| .k [2, 4, 10, 12] rfl) ?_
    refine W_adopt 12 43 2 rfl ?_
    refine W_cs (.a 1 rfl <| .k [2, 4, 10, 12, 13] rfl) ?_
    refine W_seq ?_
    refine W_label ?_
    refine W_seq ?_
    refine W_block ?_
    refine W_k [2, 4, 10, 12, 13] rfl ?_
    refine W_loop (fun r st => ∃ (l : List Seg) (i f : Nat) (dm : List (Int × PV)) (um : List ((Int × Int) × PV)), i ≤ p.length ∧ p.length - i ≤ f ∧ l.length ≤ i ∧ r = p.length - i ∧ lstL T D n p = l ++ lstF T D n p f i ∧ MemD T D dm ∧ MemU T D um ∧ st = ⟨[(2, intsV p), (4, .pin (topoP T) 0), (10, .ptr 4 0), (12, .own 5), (13, num i)], trk T D p (ndL T n p) (csL T p) dm um ++ [srow l]⟩) p.length ⟨[], 0, p.length, [], [], by omega, by omega, by simp, by omega, rfl, (fun _ _ h => by cases h), (fun _ _ h => by cases h), rfl⟩ ?_
    rintro r st ⟨l, i, f, dm, um, hi, hif, hli, rfl, hl, hdm, hum, rfl⟩
    refine W_seq ?_
    refine W_cs (.a 4 rfl <| .k [2, 4, 10, 12, 13, 29] rfl) ?_
    refine W_cond rfl (fun h1 => ?_) (fun h1 => ?_)
    · have hlt : i < p.length := by have := tt h1; omega
      refine W_skip ?_
      refine W_block ?_
      refine W_seq ?_
      obtain ⟨m, hm⟩ : ∃ m : Nat, min (p.length : Int) ((i : Int) + (N : Int) - 1) = (m : Int) := ⟨(min (p.length : Int) ((i : Int) + (N : Int) - 1)).toNat, by omega⟩
      have hfar : ∀ k, m < k → k ≤ p.length → covB T D n p i k = false := fun k h2 h3 => by
        cases hcv : covB T D n p i k with
        | false => rfl
        | true =>
          have := cov_far hF (i := i) (j := k) (by omega) h3 hcv
          omega
      refine W_cs (.a 4 rfl <| .v (y_ld rfl ((show some (num T.nodes) = some (num (N : Int)) by rw [hNN]))) rfl <| .v (y_ar rfl) rfl <| .v (y_ar rfl) rfl <| .v (y_min rfl rfl rfl (hm)) rfl <| .a 1 rfl <| .k [2, 4, 10, 12, 13, 14] rfl) ?_
      refine W_block ?_
      refine W_k [2, 4, 10, 12, 13, 14] rfl ?_
      refine W_loop (fun r st => ∃ (j : Nat) (dm : List (Int × PV)) (um : List ((Int × Int) × PV)), i ≤ j ∧ j ≤ p.length ∧ r = j ∧ (∀ k, j < k → k ≤ p.length → covB T D n p i k = false) ∧ MemD T D dm ∧ MemU T D um ∧ st = ⟨[(2, intsV p), (4, .pin (topoP T) 0), (10, .ptr 4 0), (12, .own 5), (13, num i), (14, num j)], trk T D p (ndL T n p) (csL T p) dm um ++ [srow l]⟩) m ⟨m, dm, um, by omega, by omega, rfl, hfar, hdm, hum, rfl⟩ ?_
      clear hdm hum
      rintro r st ⟨j, dm, um, hij, hj, rfl, hno, hdm, hum, rfl⟩
      refine W_seq ?_
      refine W_cs (.a 3 rfl <| .k [2, 4, 10, 12, 13, 14, 40] rfl) ?_
      refine W_cond rfl (fun h2 => ?_) (fun h2 => ?_)
      · have hlt2 : i < r := by have := tt h2; omega
        refine W_skip ?_
        refine W_seq ?_
        refine W_block ?_
        refine W_rs ?_
        refine WR_a 3 rfl <| WR_cS rfl rfl (CanS.mono (covered_can T D p n dm um (srow l) (srow_pure l) hv hF.fits h12 hF.node ha hp i r (by omega) hj hdm hum) (fun _ σ' h => ?_))
        obtain ⟨rfl, dm1, um1, hdm1, hum1, rfl⟩ := h
        refine WR_k [2, 4, 10, 12, 13, 14, 46] rfl ?_
        refine W_cond rfl (fun h3 => ?_) (fun h3 => ?_)
        · have hgj := ndL_get T n p r hj
          have hl1 := ndL_len T n p
          refine W_rs ?_
          refine WR_a 6 rfl <| WR_v (y_ix (r) rfl) rfl <| WR_v (y_ld rfl ((ints_get _ r (by omega)).trans (by rw [hgj]))) rfl <| WR_a 2 rfl <| WR_l (l_append rfl (fok.rk.get rfl) rfl rfl rfl rfl (by unfold maxLen; omega)) rfl <| WR_a 1 rfl ?_
          refine WR_ren [0, 1, 2, 3, 4, 6] (.c 2 <| .c 4 <| .c 10 <| .c 12 <| .c 14 <| .nil) (.kept rfl (.row RenL.pure) <| .kept rfl (.row RenL.pure) <| .same (MemD.pure hdm1) rfl <| .same (MemU.pure hum1) rfl <| .kept rfl (.cells (RenL.c <| RenL.c <| RenL.c <| RenL.c <| RenL.c <| RenL.c <| RenL.c <| RenL.c <| RenL.c <| RenL.nil)) <| .kept rfl (.rowP rfl (segsP_snoc _ ⟨1, endL T n (p.take r)⟩)) <| .nil) rfl rfl (WR_nil ?_)
          refine W_cs (.a 2 rfl <| .k [2, 4, 10, 12, 13] rfl) ?_
          refine W_exit ?_
          cases f with
          | zero => omega
          | succ f =>
            first
              | (refine ⟨p.length - r, by omega, l ++ [⟨1, endL T n (p.take r)⟩], r, f, dm1, um1, by omega, by omega, by simp; omega, rfl, ?_, hdm1, hum1, ?_⟩
                 · rw [hl, lst_some hlt hlt2 hj h3 hno, List.append_assoc]; rfl
                 · unfold srow; simp only [List.length_append, List.length_singleton]; rfl)
              | (refine ⟨p.length - (i + 1), by omega, l ++ [⟨2, p.getD i 0⟩], i + 1, f, dm, um, by omega, by omega, by simp; omega, rfl, ?_, hdm, hum, ?_⟩
                 · rw [hl, lst_none hlt hno2, List.append_assoc]; rfl
                 · unfold srow; simp only [List.length_append, List.length_singleton]; rfl)
        · skip
          refine W_skip ?_
          refine W_chain (.a 1 rfl <| .v (y_ar rfl) rfl <| .a 1 rfl <| .k [2, 4, 10, 12, 13, 14] rfl) ?_
          refine ⟨r - 1, by omega, r - 1, dm1, um1, by omega, by omega, rfl, fun k h4 h5 => ?_, hdm1, hum1, ?_⟩
          · by_cases e : k = r
            · rw [e]; exact h3
            · exact hno k (by omega) h5
          · rw [show ((r - 1 : Nat) : Int) = (r : Int) - 1 by omega]
      · have hno2 : ∀ k, i < k → k ≤ p.length → covB T D n p i k = false := fun k h3 h4 => hno k (by have := ff h2; omega) h4
        refine W_exit ?_
        refine W_rs ?_
        refine WR_a 3 rfl <| WR_v (y_ix (i) rfl) rfl <| WR_v (y_ld rfl (ints_get _ i hlt)) rfl <| WR_a 2 rfl <| WR_l (l_append rfl (fok.rk.get rfl) rfl rfl rfl rfl (by unfold maxLen; omega)) rfl <| WR_a 1 rfl ?_
        refine WR_ren [0, 1, 2, 3, 4, 6] (.c 2 <| .c 4 <| .c 10 <| .c 12 <| .c 13 <| .nil) (.kept rfl (.row RenL.pure) <| .kept rfl (.row RenL.pure) <| .same (MemD.pure hdm) rfl <| .same (MemU.pure hum) rfl <| .kept rfl (.cells (RenL.c <| RenL.c <| RenL.c <| RenL.c <| RenL.c <| RenL.c <| RenL.c <| RenL.c <| RenL.c <| RenL.nil)) <| .kept rfl (.rowP rfl (segsP_snoc _ ⟨2, p.getD i 0⟩)) <| .nil) rfl rfl (WR_nil ?_)
        refine W_chain (.a 1 rfl <| .v (y_ar rfl) rfl <| .a 1 rfl <| .k [2, 4, 10, 12, 13] rfl) ?_
        cases f with
        | zero => omega
        | succ f =>
          first
            | (refine ⟨p.length - r, by omega, l ++ [⟨1, endL T n (p.take r)⟩], r, f, dm1, um1, by omega, by omega, by simp; omega, rfl, ?_, hdm1, hum1, ?_⟩
               · rw [hl, lst_some hlt hlt2 hj h3 hno, List.append_assoc]; rfl
               · unfold srow; simp only [List.length_append, List.length_singleton]; rfl)
            | (refine ⟨p.length - (i + 1), by omega, l ++ [⟨2, p.getD i 0⟩], i + 1, f, dm, um, by omega, by omega, by simp; omega, rfl, ?_, hdm, hum, ?_⟩
               · rw [hl, lst_none hlt hno2, List.append_assoc]; rfl
               · unfold srow; simp only [List.length_append, List.length_singleton]; rfl)
    · have hie : i = p.length := by have := ff h1; omega
      rw [lst_end f i (by omega), List.append_nil] at hl
      refine W_exit ?_
      refine W_cs (.a 3 rfl <| .k [8, 9] rfl) ?_
      refine W_ret ?_
      exact ⟨_, _, ResL.of rfl, Pur.tupleL (PurL.cons (Pur.ownL rfl PurL.pure) (PurL.cons Pur.pure PurL.nil)), by unfold segsE; rw [if_pos rfl, hl]; rfl⟩
end PW
end Go.Proofs.Ytgpdjgifhppnhaa

/- The reference of layer 20: Check, Covers, List. -/
namespace Go.Proofs.Ytgpdjgifhppnhaa
set_option linter.unusedVariables false
set_option linter.unusedSimpArgs false
namespace PW
open Go.RowKit Reg Mem Net

set_option maxRecDepth 10000 in
set_option maxHeartbeats 2000000 in
theorem rcheck_can (T : Topo) (D : List Bool) (p : List Int) (n : Int) (hp : p.length ≤ 1000) : Can Try.prog 29 [topoV T, boolsV D, intsV p, num n] (· = num (folE T D n p)) := by
  obtain ⟨q1, hq1⟩ : ∃ q, (validB T && fitsB T D) = q := ⟨_, rfl⟩
  refine can_of Try.func29 rfl Try.ntmps29 rfl ?_
  refine W_cs (.a 2 rfl <| .k [1, 2, 3, 4] rfl) ?_
  refine W_seq ?_
  refine W_cs (.a 2 rfl <| .c rfl (hq1 ▸ rfits_can T D) rfl <| .a 1 rfl <| .k [1, 2, 3, 4, 16] rfl) ?_
  refine W_cond rfl (fun hc => ?_) (fun hc => ?_)
  · have h1 : q1 = false := by cases q1; rfl; cases hc
    have he : folE T D n p = 1 := by unfold folE; rw [hq1, h1]; rfl
    refine W_cs (.a 1 rfl <| .k [8] rfl) ?_
    refine W_ret ?_
    exact ⟨_, _, ResL.of rfl, Pur.pure, by rw [he]; rfl⟩
  · have h1 : q1 = true := by cases q1; cases hc; rfl
    subst h1
    obtain ⟨hv, hf⟩ := Bool.and_eq_true_iff.1 hq1
    refine W_skip ?_
    refine W_cs (.a 3 rfl <| .c rfl (rpath_can T n p (by omega)) rfl <| .a 7 rfl <| .k [1, 2, 11] rfl) ?_
    refine W_seq ?_
    refine W_cs (.a 2 rfl <| .k [1, 2, 11, 26] rfl) ?_
    refine W_cond rfl (fun hx => ?_) (fun hx => ?_)
    · have hx1 : pathX T n p ≠ 0 := tt hx
      have he : folE T D n p = pathX T n p := by unfold folE; rw [if_pos hq1, if_neg hx1]
      refine W_cs (.a 2 rfl <| .k [8] rfl) ?_
      refine W_ret ?_
      exact ⟨_, _, ResL.of rfl, Pur.pure, by rw [he]; rfl⟩
    · have hx1 : pathX T n p = 0 := Classical.byContradiction (ff hx)
      obtain ⟨_, hn, hw⟩ := pathX_zero hx1
      have ha := walk_arcs hw
      refine W_skip ?_
      refine W_seq ?_
      refine W_cs (.a 1 rfl <| .k [1, 2, 12] rfl) ?_
      refine W_block ?_
      refine W_k [1, 2, 12] rfl ?_
      refine W_loop (fun r st => ∃ k : Nat, k ≤ p.length ∧ r = p.length - k ∧ (∀ a ∈ p.take k, downN D a.toNat = false) ∧ st = ⟨[(1, boolsV D), (2, intsV p), (12, num k)], []⟩) p.length ⟨0, by omega, by omega, by simp, rfl⟩ ?_
      rintro r st ⟨k, hk, rfl, hdn, rfl⟩
      refine W_seq ?_
      refine W_cs (.a 4 rfl <| .k [1, 2, 12, 31] rfl) ?_
      refine W_cond rfl (fun hy => ?_) (fun hy => ?_)
      · have hlt : k < p.length := by have := tt hy; omega
        have hmem := getD_mem (d := 0) hlt
        have hab := ha _ hmem
        simp only [arcB, decide_eq_true_eq] at hab
        obtain ⟨a, hae⟩ : ∃ a : Nat, p.getD k 0 = (a : Int) := ⟨(p.getD k 0).toNat, by omega⟩
        have hD : D.length = 0 ∨ a < D.length := by simp only [fitsB, decide_eq_true_eq] at hf; omega
        refine W_skip ?_
        refine W_seq ?_
        refine W_block ?_
        refine W_cs (.a 3 rfl <| .v (y_ix (k) rfl) rfl <| .v (y_ld rfl ((ints_get p k hlt).trans (by rw [hae]))) rfl <| .c rfl (rup_can D a hD) rfl <| .a 1 rfl <| .k [1, 2, 12, 40] rfl) ?_
        refine W_cond rfl (fun hz => ?_) (fun hz => ?_)
        · have hz1 : downN D a = true := by simpa using hz
          have he : folE T D n p = 7 := by
            unfold folE
            rw [if_pos hq1, if_pos hx1, if_pos]
            exact List.any_eq_true.2 ⟨_, hmem, by rw [hae]; exact hz1⟩
          refine W_cs (.a 1 rfl <| .k [8] rfl) ?_
          refine W_ret ?_
          exact ⟨_, _, ResL.of rfl, Pur.pure, by rw [he]; rfl⟩
        · have hz1 : downN D a = false := by simpa using hz
          refine W_skip ?_
          refine W_chain (.a 1 rfl <| .v (y_ar rfl) rfl <| .a 1 rfl <| .k [1, 2, 12] rfl) ?_
          refine ⟨p.length - (k + 1), by omega, k + 1, by omega, rfl, fun x hx => ?_, rfl⟩
          rw [take_step p k 0 hlt] at hx
          rcases List.mem_append.1 hx with h | h
          · exact hdn x h
          · simp only [List.mem_singleton] at h; rw [h, hae]; exact hz1
      · have hke : k = p.length := by have := ff hy; omega
        subst hke
        rw [List.take_length] at hdn
        refine W_exit ?_
        refine W_cs (.a 1 rfl <| .k [8] rfl) ?_
        refine W_ret ?_
        refine ⟨_, _, ResL.of rfl, Pur.pure, ?_⟩
        have he : folE T D n p = 0 := by
          unfold folE
          rw [if_pos hq1, if_pos hx1, if_neg]
          intro h
          obtain ⟨x, hx, hx2⟩ := List.any_eq_true.1 h
          rw [hdn x hx] at hx2
          cases hx2
        rw [he]
        rfl
noncomputable def covQ (T : Topo) (D : List Bool) (x y : Nat) (q : List Int) : Bool := (decide (spE T D x y = 0) && uniqB T D x y) && sameB (if spE T D x y = 0 then spathL T D x y else []) q
set_option maxRecDepth 10000 in
set_option maxHeartbeats 2000000 in
theorem rcovers_can (T : Topo) (D : List Bool) (q : List Int) (hv : validB T = true) (h12 : T.nodes ≤ 12) (hq0 : 0 < q.length) (hq : q.length ≤ 1000) (ha : ∀ a ∈ q, arcB T a = true) (x y : Nat) (hx : tailN T (q.getD 0 0).toNat = (x : Int)) (hy : headN T (q.getD (q.length - 1) 0).toNat = (y : Int)) : Can Try.prog 30 [topoV T, boolsV D, intsV q] (· = flag (covQ T D x y q)) := by
  obtain ⟨p1, hp1⟩ : ∃ b, decide (spE T D x y = 0) = b := ⟨_, rfl⟩
  obtain ⟨p2, hp2⟩ : ∃ b, uniqB T D x y = b := ⟨_, rfl⟩
  obtain ⟨p3, hp3⟩ : ∃ b, sameB (if spE T D x y = 0 then spathL T D x y else []) q = b := ⟨_, rfl⟩
  have hcov : covQ T D x y q = ((p1 && p2) && p3) := by unfold covQ; rw [hp1, hp2, hp3]
  rw [hcov]
  have ht := rtailI_can T hv _ (ha _ (getD_mem (d := 0) hq0))
  have hh := rheadI_can T hv _ (ha _ (getD_mem (d := 0) (show q.length - 1 < q.length by omega)))
  rw [hx] at ht
  rw [hy] at hh
  refine can_of Try.func30 rfl Try.ntmps30 rfl ?_
  refine W_cs (.a 2 rfl <| .k [1, 2, 3] rfl) ?_
  refine W_drs mixed (by kernel_rfl) (.a 2 rfl <| .v [12] (y_ix (0) rfl) rfl rfl <| .v [13] (y_ld rfl (ints_get q 0 hq0)) rfl rfl <| .v [11, 14] (y_c rfl (ht)) rfl rfl <| .a 4 rfl <| .v [19] (y_ar rfl) rfl rfl <| .v [17, 20] (y_ix ((q.length - 1)) rfl) rfl rfl <| .v [21] (y_ld rfl (ints_get q (q.length - 1) (by omega))) rfl rfl <| .v [16, 22] (y_c rfl (hh)) rfl rfl <| .a 2 rfl <| .k [1, 2, 3, 7, 8] rfl) ?_
  refine W_cs (.a 4 rfl <| .c rfl (rspath_can T D x y) rfl <| .a 5 rfl <| .k [1, 2, 3, 7, 8, 9, 10] rfl) ?_
  refine W_csK 6 (.raw (.bool ((p1 && p2) && p3))) [] rfl ?_ ?_
  · refine .a 1 rfl <| .v (y_q rfl (hp1)) rfl <| .a 1 rfl <| ?_
    cases p1
    · exact .a 12 rfl <| .k [6] rfl
    · refine .a 4 rfl <| .c rfl (hp2 ▸ runique_can T D x y h12) rfl <| .a 2 rfl <| ?_
      cases p2
      · exact .a 5 rfl <| .k [6] rfl
      · exact .a 2 rfl <| .c rfl (hp3 ▸ rsame_can _ q) rfl <| .a 2 rfl <| .k [6] rfl
  refine W_ret ?_
  exact ⟨_, _, ResL.of rfl, Pur.pure, rfl⟩
section
variable {T : Topo} {D : List Bool} {n : Int} {p : List Int}
theorem part_first (p : List Int) {i k : Nat} (hik : i < k) (hk : k ≤ p.length) : (partL p i k).getD 0 0 = p.getD i 0 := by
  unfold partL
  rw [List.getD_eq_getElem?_getD, List.getElem?_take, if_pos (by omega), List.getElem?_drop, List.getD_eq_getElem?_getD, Nat.add_zero]
theorem part_get (p : List Int) {i k m : Nat} (hm : m < k - i) : (partL p i k).getD m 0 = p.getD (i + m) 0 := by
  unfold partL
  rw [List.getD_eq_getElem?_getD, List.getElem?_take, if_pos hm, List.getElem?_drop, List.getD_eq_getElem?_getD]
theorem part_mem {i k : Nat} {a : Int} (h : a ∈ partL p i k) : a ∈ p := List.mem_of_mem_drop (List.mem_of_mem_take h)
theorem cov_ref (h : Fol T D n p) {i k x y : Nat} (hik : i < k) (hk : k ≤ p.length) (hx : endL T n (p.take i) = (x : Int)) (hy : endL T n (p.take k) = (y : Int)) : covQ T D x y (partL p i k) = covB T D n p i k := by
  have ha := h.arcs
  have hv := h.valid
  obtain ⟨x', hx', hxN⟩ := end_node hv h.node ha i (by omega)
  obtain ⟨y', hy', hyN⟩ := end_node hv h.node ha k hk
  have e1 : x' = x := by omega
  have e2 : y' = y := by omega
  subst e1
  subst e2
  have hne : nodeE T D (x' : Int) (y' : Int) = 0 := by
    unfold nodeE
    rw [if_pos (chk_of hv h.fits hyN), nodeB_iff.2 ⟨by omega, hxN⟩]
    rfl
  have hi := cov_iff h (by omega) hk hx hy
  have hsp : spE T D (x' : Int) (y' : Int) = if dN T D y' x' < 0 then 11 else 0 := by unfold spE; rw [if_pos hne]; simp only [Int.toNat_natCast]
  rw [Bool.eq_iff_iff, hi]
  by_cases h0 : dN T D y' x' < 0
  · rw [if_pos h0] at hsp
    unfold covQ
    rw [hsp]
    constructor
    · intro h; cases h
    · rintro ⟨h1, _⟩; have := (h1.cost hv hyN).2; omega
  · rw [if_neg h0] at hsp
    unfold covQ uniqB sameB
    rw [hsp, hne, if_pos rfl]
    simp only [Int.toNat_natCast, decide_true, Bool.true_and, Bool.and_eq_true, decide_eq_true_eq]
    constructor
    · rintro ⟨h2, h3⟩
      exact ⟨by rw [← h3]; exact spath_sp hv hyN hxN (by omega), h2⟩
    · rintro ⟨h1, h2⟩
      exact ⟨h2, (spath_sp hv hyN hxN (by omega)).unique hv hyN h1 h2⟩
theorem part_tail (h : Fol T D n p) {i : Nat} (hi : i < p.length) {x : Nat} (hx : endL T n (p.take i) = (x : Int)) : tailN T (p.getD i 0).toNat = (x : Int) := by
  have ha := h.arcs
  obtain ⟨y, hy, hyN⟩ := end_node h.valid h.node ha (i + 1) hi
  have hch := h.ch (i := i) (j := i + 1) (by omega) hi hx hy
  have hp : partL p i (i + 1) = [p.getD i 0] := by
    unfold partL
    rw [drop_cons p i hi, show i + 1 - i = 1 by omega]
    rfl
  rw [hp] at hch
  generalize p.getD i 0 = a at hch
  cases hch with
  | cons _ h2 _ _ _ _ => exact h2
end
theorem y_part {P : Program} {σ : Sto} {t : Tms} {o : Oper} {ty e i k : Nat} {x lo hi' : Operand} {L : List Int} (ho : o.op = .slice ty x (some lo) (some hi') none) (he : elK P ty = some (e, 1)) (hx : evalO t x = some (intsV L)) (hlo : evalO t lo = some (num i)) (hhi : evalO t hi' = some (num k)) (hik : i ≤ k) (hk : k ≤ L.length) : Yield P σ t o (intsV (partL L i k)) := by
  have := y_sliceLoHi (σ := σ) ho he hx hlo hhi (by rw [intsP_len]; omega) rfl rfl hik hk
  have e1 : intsV (partL L i k) = .slice (k - i) (((intsP L).drop (i * 1)).take ((k - i) * 1)) := by
    unfold intsV
    rw [part_len L hik hk, Nat.mul_one, Nat.mul_one]
    unfold partL intsP
    rw [List.map_take, List.map_drop]
  rw [e1]
  exact this
/-- The segment and the end of the next part, as far as m. -/
noncomputable def bestS (T : Topo) (D : List Bool) (n : Int) (p : List Int) (i m : Nat) : Seg × Nat := match topD (covB T D n p i) i m with
  | some j => (⟨1, endL T n (p.take j)⟩, j)
  | none => (⟨2, p.getD i 0⟩, i + 1)
section
variable {T : Topo} {D : List Bool} {n : Int} {p : List Int}
theorem best_start (i : Nat) : bestS T D n p i i = (⟨2, p.getD i 0⟩, i + 1) := by
  unfold bestS
  rw [topD_none i (fun k h1 h2 => by omega)]
theorem best_yes {i m : Nat} (h : i ≤ m) (hc : covB T D n p i (m + 1) = true) : bestS T D n p i (m + 1) = (⟨1, endL T n (p.take (m + 1))⟩, m + 1) := by
  unfold bestS
  rw [topD_some (j := m + 1) (by omega) hc (m + 1) (by omega) (fun k h1 h2 => by omega)]
theorem best_no {i m : Nat} (h : i ≤ m) (hc : covB T D n p i (m + 1) = false) : bestS T D n p i (m + 1) = bestS T D n p i m := by
  unfold bestS
  have : topD (covB T D n p i) i (m + 1) = topD (covB T D n p i) i m := by
    rw [topD, if_neg (by omega), if_neg (by rw [hc]; simp)]
  rw [this]
theorem best_end {f i : Nat} (hi : i < p.length) : lstF T D n p (f + 1) i = (bestS T D n p i p.length).1 :: lstF T D n p f (bestS T D n p i p.length).2 := by
  unfold bestS
  simp only [lstF]
  rw [if_pos hi]
  cases topD (covB T D n p i) i p.length <;> rfl
theorem best_next (i : Nat) (hi : i < p.length) : i < (bestS T D n p i p.length).2 ∧ (bestS T D n p i p.length).2 ≤ p.length := by
  unfold bestS
  cases h : topD (covB T D n p i) i p.length with
  | none => exact ⟨by simp, by simp; omega⟩
  | some j => have := topD_is _ _ h; exact ⟨this.1, this.2.1⟩
end
set_option maxRecDepth 10000 in
set_option maxHeartbeats 2000000 in
theorem rlist_can (T : Topo) (D : List Bool) (p : List Int) (n : Int) (hp : p.length ≤ 1000) (h12 : T.nodes ≤ 12) : Can Try.prog 14 [topoV T, boolsV D, intsV p, num n] (· = segsE (folE T D n p) (lstL T D n p)) := by
  refine can_of Try.func14 rfl Try.ntmps14 rfl ?_
  refine W_cs (.a 3 rfl <| .k [1, 2, 3, 4] rfl) ?_
  refine W_cs (.a 4 rfl <| .c rfl (rcheck_can T D p n hp) rfl <| .a 1 rfl <| .k [1, 2, 4, 10] rfl) ?_
  refine W_seq ?_
  refine W_cs (.a 2 rfl <| .k [1, 2, 4, 10, 22] rfl) ?_
  refine W_cond rfl (fun hc => ?_) (fun hc => ?_)
  · have he : folE T D n p ≠ 0 := tt hc
    refine W_cs (.a 3 rfl <| .k [8, 9] rfl) ?_
    refine W_ret ?_
    exact ⟨_, _, ResL.of rfl, Pur.tupleL (PurL.cons Pur.nils (PurL.cons Pur.pure PurL.nil)), by unfold segsE; rw [if_neg he]; rfl⟩
  · have he : folE T D n p = 0 := Classical.byContradiction (ff hc)
    have hF := fol_of he
    have hv := hF.valid
    have ha := hF.arcs
    rw [he]
    clear hc
    refine W_skip ?_
    refine W_cs (.a 1 rfl <| .k [1, 2, 4, 11] rfl) ?_
    refine W_adopt 11 43 2 rfl ?_
    refine W_seq ?_
    refine W_cs (.a 1 rfl <| .k [1, 2, 4, 11, 12] rfl) ?_
    refine W_block ?_
    refine W_k [1, 2, 4, 11, 12] rfl ?_
    refine W_loop (fun r st => ∃ (l : List Seg) (i f : Nat), i ≤ p.length ∧ p.length - i ≤ f ∧ l.length ≤ i ∧ r = p.length - i ∧ lstL T D n p = l ++ lstF T D n p f i ∧ st = ⟨[(1, boolsV D), (2, intsV p), (4, .pin (topoP T) 0), (11, .own 0), (12, num i)], [srow l]⟩) p.length ⟨[], 0, p.length, by omega, by omega, by simp, by omega, rfl, rfl⟩ ?_
    rintro r st ⟨l, i, f, hi, hif, hli, rfl, hl, rfl⟩
    refine W_seq ?_
    refine W_cs (.a 4 rfl <| .k [1, 2, 4, 11, 12, 27] rfl) ?_
    refine W_cond rfl (fun h1 => ?_) (fun h1 => ?_)
    · have hlt : i < p.length := by have := tt h1; omega
      obtain ⟨x, hx, hxN⟩ := end_node hv hF.node ha i hi
      have htl := part_tail hF hlt hx
      obtain ⟨hn1, hn2⟩ := best_next (T := T) (D := D) (n := n) i hlt
      refine W_skip ?_
      refine W_block ?_
      refine W_rs ?_
      refine WR_a 2 rfl <| WR_v (y_ix (i) rfl) rfl <| WR_v (y_ld rfl (ints_get p i hlt)) rfl <| WR_a 2 rfl <| WR_v (y_ar rfl) rfl <| WR_a 3 rfl <| WR_k [1, 2, 4, 11, 12, 13, 14] rfl ?_
      refine W_seq ?_
      refine W_cs (.a 1 rfl <| .v (y_ar rfl) rfl <| .a 1 rfl <| .k [1, 2, 4, 11, 12, 13, 14, 15] rfl) ?_
      refine W_block ?_
      refine W_k [1, 2, 4, 11, 12, 13, 14, 15] rfl ?_
      refine W_loop (fun r st => ∃ m : Nat, i ≤ m ∧ m ≤ p.length ∧ r = p.length - m ∧ st = ⟨[(1, boolsV D), (2, intsV p), (4, .pin (topoP T) 0), (11, .own 0), (12, num i), (13, .ptr 1 0), (14, num (bestS T D n p i m).2), (15, num ((m + 1 : Nat) : Int))], [srow l, some (.cells 43 (segP (bestS T D n p i m).1))]⟩) (p.length - i) ⟨i, by omega, by omega, rfl, by rw [best_start]; rfl⟩ ?_
      rintro r st ⟨m, him, hm, rfl, rfl⟩
      refine W_seq ?_
      refine W_cs (.a 4 rfl <| .k [1, 2, 4, 11, 12, 13, 14, 15, 40] rfl) ?_
      refine W_cond rfl (fun h2 => ?_) (fun h2 => ?_)
      · have hlt2 : m + 1 ≤ p.length := by have := tt h2; omega
        obtain ⟨y, hy, hyN⟩ := end_node hv hF.node ha (m + 1) hlt2
        have hed := endL_step T n p m (by omega)
        have hcr := cov_ref hF (i := i) (k := m + 1) (by omega) hlt2 hx hy
        have hpl := part_len p (show i ≤ m + 1 by omega) hlt2
        have hco := rcovers_can T D (partL p i (m + 1)) hv h12 (by omega) (by omega) (fun a h => ha a (part_mem h)) x y (by rw [part_first p (by omega) hlt2]; exact htl) (by rw [hpl, part_get p (by omega), show i + (m + 1 - i - 1) = m by omega, ← hed]; exact hy)
        rw [hcr] at hco
        have hhd := rheadI_can T hv (p.getD m 0) (ha _ (getD_mem (by omega)))
        rw [← hed] at hhd
        refine W_skip ?_
        refine W_seq ?_
        refine W_block ?_
        refine W_drs mixed (by kernel_rfl) (.a 5 rfl <| .v [45, 46, 47] (y_part rfl (fok.el.get rfl) rfl rfl rfl (by omega) hlt2) rfl rfl <| .v [43, 44, 48] (y_c rfl (hco)) rfl rfl <| .k [1, 2, 4, 11, 12, 13, 14, 15, 49] rfl) ?_
        refine W_cond rfl (fun h3 => ?_) (fun h3 => ?_)
        · have hb := best_yes him h3
          refine W_drawFlt 9 8 mixed (
            .val [4] rfl (y_a rfl) rfl rfl <|
            .val [2] rfl (y_a rfl) rfl rfl <|
            .val [15] rfl (y_a rfl) rfl rfl <|
            .val [52] rfl (y_ar rfl) rfl rfl <|
            .val [51, 53] rfl (y_ix (m) rfl) rfl rfl <|
            .val [54] rfl (y_ld rfl (ints_get p m (by omega))) rfl rfl <|
            .val [50, 55] rfl (y_c rfl (hhd)) rfl rfl <|
            .val [56] rfl (y_a rfl) rfl rfl <|
            .late [15] rfl (r_move rfl rfl) inferInstance rfl rfl <|
            .nil) (by kernel_rfl) rfl rfl (keepT_sub (ks := [1, 2, 4, 11, 12, 13, 15, 57, 58]) rfl) ?_
          refine WR_a 2 rfl <| WR_k [1, 2, 4, 11, 12, 13, 14, 15] rfl ?_
          refine W_chain (.a 1 rfl <| .v (y_ar rfl) rfl <| .a 1 rfl <| .k [1, 2, 4, 11, 12, 13, 14, 15] rfl) ?_
          refine ⟨p.length - (m + 1), by omega, m + 1, by omega, hlt2, rfl, ?_⟩
          rw [hb]
          rfl
        · have hb := best_no him h3
          refine W_skip ?_
          refine W_chain (.a 1 rfl <| .v (y_ar rfl) rfl <| .a 1 rfl <| .k [1, 2, 4, 11, 12, 13, 14, 15] rfl) ?_
          refine ⟨p.length - (m + 1), by omega, m + 1, by omega, hlt2, rfl, ?_⟩
          rw [hb]
          rfl
      · have hme : m = p.length := by have := ff h2; omega
        refine W_exit ?_
        refine W_rs ?_
        refine WR_a 3 rfl <| WR_l (l_append rfl (fok.rk.get rfl) rfl rfl rfl rfl (by unfold maxLen; omega)) rfl <| WR_a 1 rfl ?_
        refine WR_ren [2] (.c 1 <| .c 2 <| .c 4 <| .c 11 <| .c 14 <| .nil) (.kept rfl (.rowP rfl (segsP_snoc _ (bestS T D n p i m).1)) <| .nil) rfl rfl (WR_nil ?_)
        refine W_chain (.a 2 rfl <| .k [1, 2, 4, 11, 12] rfl) ?_
        subst hme
        cases f with
        | zero => omega
        | succ f =>
          refine ⟨p.length - (bestS T D n p i p.length).2, by omega, l ++ [(bestS T D n p i p.length).1], (bestS T D n p i p.length).2, f, hn2, by omega, by simp; omega, rfl, ?_, ?_⟩
          · rw [hl, best_end hlt, List.append_assoc]; rfl
          · unfold srow; simp only [List.length_append, List.length_singleton]
    · have hie : i = p.length := by have := ff h1; omega
      rw [lst_end f i (by omega), List.append_nil] at hl
      refine W_exit ?_
      refine W_cs (.a 3 rfl <| .k [8, 9] rfl) ?_
      refine W_ret ?_
      exact ⟨_, _, ResL.of rfl, Pur.tupleL (PurL.cons (Pur.ownL rfl PurL.pure) (PurL.cons Pur.pure PurL.nil)), by unfold segsE; rw [if_pos rfl, hl]; rfl⟩
end PW
end Go.Proofs.Ytgpdjgifhppnhaa

/- The laws on lists of segments: awake, large. -/
namespace Go.Proofs.Ytgpdjgifhppnhaa
set_option linter.unusedVariables false
set_option linter.unusedSimpArgs false
namespace PW
open Go.RowKit Reg Mem Net

def nextC (T : Topo) (D : List Bool) (L : List Int) (m d : Nat) : List Int := if m = d ∨ L.getD m 0 < 0 then [] else passL T D L (L.getD m 0) d (outL T m)
def cntC (T : Topo) (D : List Bool) (L : List Int) (d : Nat) : Nat → Nat → Int
  | 0, m => if m = d then 1 else 0
  | f + 1, m => if m = d then 1 else (nextC T D L m d).foldl (fun c a => min 2 (c + cntC T D L d f (headN T a.toNat).toNat)) 0
theorem cntF_C (T : Topo) (D : List Bool) (d : Nat) : ∀ f m, cntF T D d f m = cntC T D (distL T D d false) d f m
  | 0, m => rfl
  | f + 1, m => by
    simp only [cntF, cntC]
    split
    · rfl
    · exact foldl_congr fun c a _ => by rw [cntF_C T D d f]
def covC (y u : Nat) (c : Int) : Bool := decide ((ringD y).getD u 0 = c) && (decide (nodeE ringT [] (u : Int) (y : Int) = 0) && decide (cntC ringT [] (ringD y) y ((ringD y).getD u 0).toNat u = 1))
theorem cov_ring {p : List Int} {i j u y : Nat} {c : Int} (hu : endL ringT 0 (p.take i) = (u : Int)) (hy : endL ringT 0 (p.take j) = (y : Int)) (h4 : y < 4) (hc : costL ringT (p.take j) - costL ringT (p.take i) = c) : covB ringT [] 0 p i j = covC y u c := by
  unfold covB uniqB cntS dN covC
  rw [hu, hy, hc]
  simp only [Int.toNat_natCast, cntF_C, ring_dist y h4]
theorem c02 : covC 2 0 2 = false := by kernel_rfl
theorem c01 : covC 1 0 1 = true := by kernel_rfl
theorem c12 : covC 2 1 1 = true := by kernel_rfl
theorem c03 : covC 3 0 3 = false := by kernel_rfl
theorem c13 : covC 3 1 2 = false := by kernel_rfl
theorem c23 : covC 3 2 1 = true := by kernel_rfl
theorem ring_lst2 : lstL ringT [] 0 [0, 2] = nodeS [1, 2] := by
  have e01 : covB ringT [] 0 [0, 2] 0 1 = true := (cov_ring (u := 0) (y := 1) (c := 1) (by kernel_rfl) (by kernel_rfl) (by omega) (by kernel_rfl)).trans c01
  have e02 : covB ringT [] 0 [0, 2] 0 2 = false := (cov_ring (u := 0) (y := 2) (c := 2) (by kernel_rfl) (by kernel_rfl) (by omega) (by kernel_rfl)).trans c02
  have e12 : covB ringT [] 0 [0, 2] 1 2 = true := (cov_ring (u := 1) (y := 2) (c := 1) (by kernel_rfl) (by kernel_rfl) (by omega) (by kernel_rfl)).trans c12
  have h1 : lstF ringT [] 0 [0, 2] 2 0 = _ := lst_some (f := 1) (i := 0) (j := 1) (by decide) (by omega) (by decide) e01 (fun k h1 h2 => by
    have : k = 2 := by simp at h2; omega
    subst this; exact e02)
  have h2 : lstF ringT [] 0 [0, 2] 1 1 = _ := lst_some (f := 0) (i := 1) (j := 2) (by decide) (by omega) (by decide) e12 (fun k h1 h2 => by simp at h2; omega)
  show lstF ringT [] 0 [0, 2] 2 0 = _
  rw [h1, h2]
  kernel_rfl
theorem ring_lst3 : lstL ringT [] 0 [0, 2, 4] = nodeS [1, 2, 3] := by
  have e01 : covB ringT [] 0 [0, 2, 4] 0 1 = true := (cov_ring (u := 0) (y := 1) (c := 1) (by kernel_rfl) (by kernel_rfl) (by omega) (by kernel_rfl)).trans c01
  have e02 : covB ringT [] 0 [0, 2, 4] 0 2 = false := (cov_ring (u := 0) (y := 2) (c := 2) (by kernel_rfl) (by kernel_rfl) (by omega) (by kernel_rfl)).trans c02
  have e03 : covB ringT [] 0 [0, 2, 4] 0 3 = false := (cov_ring (u := 0) (y := 3) (c := 3) (by kernel_rfl) (by kernel_rfl) (by omega) (by kernel_rfl)).trans c03
  have e12 : covB ringT [] 0 [0, 2, 4] 1 2 = true := (cov_ring (u := 1) (y := 2) (c := 1) (by kernel_rfl) (by kernel_rfl) (by omega) (by kernel_rfl)).trans c12
  have e13 : covB ringT [] 0 [0, 2, 4] 1 3 = false := (cov_ring (u := 1) (y := 3) (c := 2) (by kernel_rfl) (by kernel_rfl) (by omega) (by kernel_rfl)).trans c13
  have e23 : covB ringT [] 0 [0, 2, 4] 2 3 = true := (cov_ring (u := 2) (y := 3) (c := 1) (by kernel_rfl) (by kernel_rfl) (by omega) (by kernel_rfl)).trans c23
  have h1 : lstF ringT [] 0 [0, 2, 4] 3 0 = _ := lst_some (f := 2) (i := 0) (j := 1) (by decide) (by omega) (by decide) e01 (fun k h1 h2 => by
    have : k = 2 ∨ k = 3 := by simp at h2; omega
    rcases this with rfl | rfl
    · exact e02
    · exact e03)
  have h2 : lstF ringT [] 0 [0, 2, 4] 2 1 = _ := lst_some (f := 1) (i := 1) (j := 2) (by decide) (by omega) (by decide) e12 (fun k h1 h2 => by
    have : k = 3 := by simp at h2; omega
    subst this; exact e13)
  have h3 : lstF ringT [] 0 [0, 2, 4] 1 2 = _ := lst_some (f := 0) (i := 2) (j := 3) (by decide) (by omega) (by decide) e23 (fun k h1 h2 => by simp at h2; omega)
  show lstF ringT [] 0 [0, 2, 4] 3 0 = _
  rw [h1, h2, h3]
  kernel_rfl
set_option maxRecDepth 10000 in
set_option maxHeartbeats 1000000 in
theorem awake20_can : Can Try.prog 11 [] (· = flag true) := by
  have hl2 := elist_can ringT [] [0, 2] 0 (by decide) (by decide) (by decide)
  rw [ring_lst2, show folE ringT [] 0 [0, 2] = 0 by kernel_rfl] at hl2
  have hl3 := elist_can ringT [] [0, 2, 4] 0 (by decide) (by decide) (by decide)
  rw [ring_lst3, show folE ringT [] 0 [0, 2, 4] = 0 by kernel_rfl] at hl3
  have ht2 := tlist_can [1, 2] (by decide) (by decide)
  have ht3 := tlist_can [1, 2, 3] (by decide) (by decide)
  refine can_of Try.func11 rfl Try.ntmps11 rfl ?_
  refine W_cs (.a 1 rfl <| .k [] rfl) ?_
  refine W_cs (.a 1 rfl <| .k [1] rfl) ?_
  refine W_adopt 1 51 7 rfl ?_
  refine W_seq ?_
  refine W_cs (.a 1 rfl <| .k [1, 8] rfl) ?_
  refine W_block ?_
  refine W_k [1, 8] rfl ?_
  refine W_loop (fun r s => ∃ k, k ≤ 4 ∧ r = 4 - k ∧ s = ⟨[(1, .own 0), (8, num k)], [some (.row 51 7 k (lnksP (ringL k)))]⟩) 4 ⟨0, by omega, by omega, rfl⟩ ?_
  rintro r s ⟨k, hk, rfl, rfl⟩
  refine W_cs (.a 1 rfl <| .k [1, 8, 9] rfl) ?_
  refine W_seq ?_
  refine W_cond rfl (fun hc => ?_) (fun hc => ?_)
  · have hlt : k < 4 := by have := of_decide_eq_true hc; omega
    refine W_skip ?_
    refine W_seq ?_
    refine W_block ?_
    refine W_cs (.a 2 rfl <| .k [1, 2, 8] rfl) ?_
    refine W_region ?_
    refine WR_a 3 rfl <| WR_v (y_ar rfl) rfl <| WR_v (y_rem rfl rfl rfl (by decide) ((show ((k : Int) + 1).tmod 4 = (((k + 1) % 4 : Nat) : Int) by rw [Int.tmod_eq_emod_of_nonneg (by omega)]; omega))) rfl <| WR_v (y_build2 rfl (show Try.prog.built 49 [(0, .int .i64 1), (1, .int .i64 1)] = some #[.int .i64 1, .int .i64 1] by kernel_rfl)) rfl <| WR_a 2 rfl <| WR_l (l_append rfl (fok.rk.get rfl) rfl rfl rfl rfl (by unfold maxLen; omega)) rfl <| WR_a 1 rfl ?_
    refine WR_ren [1] (.c 1 <| .c 8 <| .nil) (.kept rfl (.rowP rfl (show _ = lnksP (ringL (k + 1)) by rw [ringL_step]; exact lnksP_snoc _ ⟨(k : Int), (((k + 1) % 4 : Nat) : Int), 1, 1, 0, 1, 0⟩)) <| .nil) rfl rfl (WR_nil ?_)
    refine W_chain (.v (y_ar rfl) rfl <| .a 1 rfl <| .k [1, 8] rfl) ?_
    exact ⟨4 - (k + 1), by omega, k + 1, by omega, rfl, rfl⟩
  · have hke : k = 4 := by have := of_decide_eq_false hc; omega
    subst hke
    refine W_seal 1 0 rfl rfl ?_
    refine W_ren [] (.cons 1 rfl (Ren.pure (p := .slice 4 (lnksP (ringL 4)))) .nil) .nil rfl rfl ?_
    refine W_exit ?_
    refine W_rs ?_
    refine WR_a 4 rfl <| WR_k [3] rfl ?_
    refine W_sto (σ' := [some (.cells 25 [num 4, .raw (.slice none 0 0), .slice 4 (lnksP (ringL 4))])]) rfl ?_
    refine W_sealPtr 3 0 0 rfl rfl ?_
    refine W_ren [] (.cons 3 rfl (Ren.pure (p := .pin [num 4, .raw (.slice none 0 0), .slice 4 (lnksP (ringL 4))] 0)) .nil) .nil rfl rfl ?_
    refine W_cs (.a 2 rfl <| .v (y_cP rfl (PurL.cons (Pur.aggL (PurL.cons Pur.pure <| PurL.cons Pur.nils <| PurL.cons Pur.pure PurL.nil)) <| PurL.cons Pur.nils <| PurL.cons (Pur.pure (p := intsV [0, 2])) <| PurL.cons Pur.pure PurL.nil) (hl2)) rfl <| .a 5 rfl <| .k [3, 4, 5] rfl) ?_
    refine W_cs (.a 2 rfl <| .v (y_cP rfl (PurL.cons (Pur.aggL (PurL.cons Pur.pure <| PurL.cons Pur.nils <| PurL.cons Pur.pure PurL.nil)) <| PurL.cons Pur.nils <| PurL.cons (Pur.pure (p := intsV [0, 2, 4])) <| PurL.cons Pur.pure PurL.nil) (hl3)) rfl <| .a 5 rfl <| .k [4, 5, 6, 7] rfl) ?_
    refine W_csK 0 (.raw (.bool (true))) [] rfl ?_ ?_
    · exact .a 8 rfl <| .c rfl (ht2) rfl <| .v (y_strEql rfl rfl rfl (beq_self_eq_true (ByteArray.toList ⟨[110, 49, 32, 110, 50].toArray⟩))) rfl <| .a 3 rfl <| .c rfl (ht3) rfl <| .v (y_strEql rfl rfl rfl (beq_self_eq_true (ByteArray.toList ⟨[110, 49, 32, 110, 50, 32, 110, 51].toArray⟩))) rfl <| .a 2 rfl <| .k [0] rfl
    refine W_ret ?_
    exact ⟨_, _, ResL.of rfl, Pur.pure, rfl⟩
end PW
end Go.Proofs.Ytgpdjgifhppnhaa

/- The arguments of the laws: segments, entries, tables. -/
namespace Go.Proofs.Ytgpdjgifhppnhaa
set_option linter.unusedVariables false
set_option linter.unusedSimpArgs false
namespace PW
open Go.RowKit Reg Mem Net
section
variable {H : Type} {enc : TypeId × Value → H} {W : World}
set_option maxRecDepth 10000 in
theorem rd_seg {n : Nat} {cs : List Value} {y : DataW H × List MemPlace} (h : DataW.trod enc Try.prog W 0 (fun _ => true) true n 43 cs = some y) (hl : cs.length = 2) : ∃ s : Seg, RepL EN W cs (segP s) := by
  have c3 : Try.prog.cellsOf 3 = 1 := by kernel_rfl
  obtain ⟨xs, m, _, _, _, hlen, hf⟩ := DataW.trod_struct Try.underlying43 h
  match cs, hl with
  | [c0, c1], _ =>
    match xs, hlen with
    | [y0, y1], _ =>
      have f0 : DataW.trod enc Try.prog W 0 (fun _ => true) true m 3 (([c0, c1].drop 0).take (Try.prog.cellsOf 3)) = some y0 := hf 0 _ rfl
      rw [c3] at f0
      have f1 : DataW.trod enc Try.prog W 0 (fun _ => true) true m 3 (([c0, c1].drop 1).take (Try.prog.cellsOf 3)) = some y1 := hf 1 _ rfl
      rw [c3] at f1
      obtain ⟨a0, h0⟩ := rd_int f0
      obtain ⟨a1, h1⟩ := rd_int f1
      simp at h0 h1
      subst h0 h1
      exact ⟨⟨a0, a1⟩, RepL.cons (.raw _) <| RepL.cons (.raw _) (RepL.nil _ _)⟩
theorem rd_segs {n : Nat} {v : Value} {y : DataW H × List MemPlace} (h : DataW.trod enc Try.prog W 0 (fun _ => true) true n 27 [v] = some y) : ∃ L, Rep EN W v (segsV L) :=
  rd_slice (f := segP) (s := 2) Try.underlying27 (by kernel_rfl) (by omega) (fun n cs y hy hl => rd_seg hy hl) h
end
end PW
end Go.Proofs.Ytgpdjgifhppnhaa

/- The argument of the laws of layer 20: a case. -/
namespace Go.Proofs.Ytgpdjgifhppnhaa
set_option linter.unusedVariables false
set_option linter.unusedSimpArgs false
namespace PW
open Go.RowKit Reg Mem Net Go.WideShapes
/-- A case: a topology with a mask, a path from a node, a list of segments. -/
structure Cas where
  T : Topo
  D : List Bool
  n : Int
  p : List Int
  l : List Seg
def casP (c : Cas) : List PV := topoP c.T ++ [boolsV c.D, num c.n, intsV c.p, segsV c.l]
def casV (c : Cas) : PV := .agg (casP c)
instance (c : Cas) : IsPureL (casP c) := by unfold casP; unfold topoP; simp only [List.cons_append, List.nil_append]; infer_instance
instance (c : Cas) : IsPure (casV c) := by unfold casV; infer_instance
section
variable {H : Type} {enc : TypeId × Value → H} {W : World}
set_option maxRecDepth 10000 in
theorem rd_topo3 {n : Nat} {cs : List Value} {y : DataW H × List MemPlace} (h : DataW.trod enc Try.prog W 0 (fun _ => true) true n 25 cs = some y) (hl : cs.length = 3) : ∃ T : Topo, RepL EN W cs (topoP T) := by
  have c0' : Try.prog.cellsOf 3 = 1 := by kernel_rfl
  have c1' : Try.prog.cellsOf 22 = 1 := by kernel_rfl
  have c2' : Try.prog.cellsOf 23 = 1 := by kernel_rfl
  obtain ⟨xs, m, _, _, _, hlen, hf⟩ := DataW.trod_struct Try.underlying25 h
  match cs, hl with
  | [c0, c1, c2], _ =>
    match xs, hlen with
    | [y0, y1, y2], _ =>
      have f0 : DataW.trod enc Try.prog W 0 (fun _ => true) true m 3 (([c0, c1, c2].drop 0).take (Try.prog.cellsOf 3)) = some y0 := hf 0 _ rfl
      rw [c0'] at f0
      have f1 : DataW.trod enc Try.prog W 0 (fun _ => true) true m 22 (([c0, c1, c2].drop 1).take (Try.prog.cellsOf 22)) = some y1 := hf 1 _ rfl
      rw [c1'] at f1
      have f2 : DataW.trod enc Try.prog W 0 (fun _ => true) true m 23 (([c0, c1, c2].drop 2).take (Try.prog.cellsOf 23)) = some y2 := hf 2 _ rfl
      rw [c2'] at f2
      obtain ⟨a, ha⟩ := rd_int f0
      obtain ⟨B, hB⟩ := rd_bools f1
      obtain ⟨L, hL⟩ := rd_slice (f := lnkP) (s := 7) Try.underlying23 (by kernel_rfl) (by omega) (fun n cs y hy hl => rd_link hy hl) f2
      simp at ha
      subst ha
      exact ⟨⟨a, B, L⟩, RepL.cons (.raw _) <| RepL.cons hB <| RepL.cons hL (RepL.nil _ _)⟩
set_option maxRecDepth 10000 in
theorem rd_case {base : Nat} {v : Value} {d : DataW H} {p : List MemPlace} (hv : Value.okWide Try.prog W .any base 29 v) (h : DataW.Trod enc Try.prog W 0 (fun _ => true) true 29 v d p) : ∃ c : Cas, Rep EN W v (casV c) := by
  have hC : Try.prog.cellsOf 29 = 7 := by kernel_rfl
  have k0 : Try.prog.cellsOf 25 = 3 := by kernel_rfl
  have k1 : Try.prog.cellsOf 22 = 1 := by kernel_rfl
  have k2 : Try.prog.cellsOf 3 = 1 := by kernel_rfl
  have k3 : Try.prog.cellsOf 26 = 1 := by kernel_rfl
  have k4 : Try.prog.cellsOf 27 = 1 := by kernel_rfl
  obtain ⟨cs, rfl, hsz⟩ := okWide_struct Try.underlying29 hv
  rw [hC] at hsz
  obtain ⟨fuel, hf⟩ := h
  obtain ⟨cl⟩ := cs
  match cl, hsz with
  | [c0, c1, c2, c3, c4, c5, c6], _ =>
    obtain ⟨xs, m, _, _, _, hlen, hg⟩ := DataW.trod_struct Try.underlying29 hf
    match xs, hlen with
    | [y0, y1, y2, y3, y4], _ =>
      have f0 : DataW.trod enc Try.prog W 0 (fun _ => true) true m 25 (([c0, c1, c2, c3, c4, c5, c6].drop 0).take (Try.prog.cellsOf 25)) = some y0 := hg 0 _ rfl
      rw [k0] at f0
      have f1 : DataW.trod enc Try.prog W 0 (fun _ => true) true m 22 (([c0, c1, c2, c3, c4, c5, c6].drop 3).take (Try.prog.cellsOf 22)) = some y1 := hg 1 _ rfl
      rw [k1] at f1
      have f2 : DataW.trod enc Try.prog W 0 (fun _ => true) true m 3 (([c0, c1, c2, c3, c4, c5, c6].drop 4).take (Try.prog.cellsOf 3)) = some y2 := hg 2 _ rfl
      rw [k2] at f2
      have f3 : DataW.trod enc Try.prog W 0 (fun _ => true) true m 26 (([c0, c1, c2, c3, c4, c5, c6].drop 5).take (Try.prog.cellsOf 26)) = some y3 := hg 3 _ rfl
      rw [k3] at f3
      have f4 : DataW.trod enc Try.prog W 0 (fun _ => true) true m 27 (([c0, c1, c2, c3, c4, c5, c6].drop 6).take (Try.prog.cellsOf 27)) = some y4 := hg 4 _ rfl
      rw [k4] at f4
      obtain ⟨T, hT⟩ := rd_topo3 f0 rfl
      obtain ⟨D, hD⟩ := rd_bools f1
      obtain ⟨a, ha⟩ := rd_int f2
      obtain ⟨P, hP⟩ := rd_ints f3
      obtain ⟨S, hS⟩ := rd_segs f4
      simp at ha
      subst ha
      have hall : RepL EN W [c0, c1, c2, c3, .int .i64 a, c5, c6] (casP ⟨T, D, a, P, S⟩) := hT.append (RepL.cons hD <| RepL.cons (.raw _) <| RepL.cons hP <| RepL.cons hS (RepL.nil _ _))
      exact ⟨⟨T, D, a, P, S⟩, .agg _ _ (by simpa using hall.1) (fun i x u h1 h2 => hall.2 i x u (by simpa using h1) h2)⟩
end
end PW
end Go.Proofs.Ytgpdjgifhppnhaa

/- The laws of layer 20, walked. -/
namespace Go.Proofs.Ytgpdjgifhppnhaa
set_option linter.unusedVariables false
set_option linter.unusedSimpArgs false
namespace PW
open Go.RowKit Reg Mem Net

/-- A case that is to be checked. -/
def smallC (c : Cas) : Prop := c.T.over.length ≤ 100 ∧ c.T.links.length ≤ 20 ∧ c.D.length ≤ 100 ∧ c.T.nodes ≤ 12 ∧ c.p.length ≤ 10 ∧ c.l.length ≤ 12
def largeB (c : Cas) : Bool := ((((decide ((100 : Int) < c.T.over.length) || decide ((20 : Int) < c.T.links.length)) || decide ((100 : Int) < c.D.length)) || decide ((12 : Int) < c.T.nodes)) || decide ((10 : Int) < c.p.length)) || decide ((12 : Int) < c.l.length)
theorem large_small {c : Cas} (h : largeB c = false) : smallC c := by
  unfold largeB at h
  simp only [Bool.or_eq_false_iff, decide_eq_false_iff_not] at h
  unfold smallC
  omega
set_option maxRecDepth 10000 in
set_option maxHeartbeats 1000000 in
theorem large_can (c : Cas) : Can Try.prog 12 [casV c] (· = flag (largeB c)) := by
  obtain ⟨q1, h1⟩ : ∃ q, decide ((100 : Int) < c.T.over.length) = q := ⟨_, rfl⟩
  obtain ⟨q2, h2⟩ : ∃ q, decide ((20 : Int) < c.T.links.length) = q := ⟨_, rfl⟩
  obtain ⟨q3, h3⟩ : ∃ q, decide ((100 : Int) < c.D.length) = q := ⟨_, rfl⟩
  obtain ⟨q4, h4⟩ : ∃ q, decide ((12 : Int) < c.T.nodes) = q := ⟨_, rfl⟩
  obtain ⟨q5, h5⟩ : ∃ q, decide ((10 : Int) < c.p.length) = q := ⟨_, rfl⟩
  obtain ⟨q6, h6⟩ : ∃ q, decide ((12 : Int) < c.l.length) = q := ⟨_, rfl⟩
  have he : largeB c = ((((((q1 || q2) || q3) || q4) || q5)) || q6) := by unfold largeB; rw [h1, h2, h3, h4, h5, h6]
  rw [he]
  refine can_of Try.func12 rfl Try.ntmps12 rfl ?_
  refine W_cs (.a 2 rfl <| .k [1] rfl) ?_
  refine W_csK 2 (.raw (.bool (((((q1 || q2) || q3) || q4) || q5) || q6))) [] rfl ?_ ?_
  · refine .a 4 rfl <| .v (y_q rfl (h1)) rfl <| .a 1 rfl <| ?_
    cases q1
    · refine .a 4 rfl <| .v (y_q rfl (h2)) rfl <| .a 2 rfl <| ?_
      cases q2
      · refine .a 3 rfl <| .v (y_q rfl (h3)) rfl <| .a 2 rfl <| ?_
        cases q3
        · refine .a 3 rfl <| .v (y_q rfl (h4)) rfl <| .a 2 rfl <| ?_
          cases q4
          · refine .a 3 rfl <| .v (y_q rfl (h5)) rfl <| .a 2 rfl <| ?_
            cases q5
            · exact .a 3 rfl <| .v (y_q rfl (h6)) rfl <| .a 2 rfl <| .k [2] rfl
            · exact .a 6 rfl <| .k [2] rfl
          · exact .a 12 rfl <| .k [2] rfl
        · exact .a 18 rfl <| .k [2] rfl
      · exact .a 24 rfl <| .k [2] rfl
    · exact .a 31 rfl <| .k [2] rfl
  refine W_ret ?_
  exact ⟨_, _, ResL.of rfl, Pur.pure, rfl⟩
set_option maxRecDepth 10000 in
set_option maxHeartbeats 1000000 in
theorem lawList_can (c : Cas) : Can Try.prog 3 [casV c] (· = flag true) := by
  refine can_of Try.func3 rfl Try.ntmps3 rfl ?_
  refine W_cs (.a 2 rfl <| .k [1] rfl) ?_
  refine W_seq ?_
  refine W_cs (.c rfl (awake20_can) rfl <| .a 1 rfl <| .k [1, 8] rfl) ?_
  refine W_cond rfl (fun hc => ?_) (fun hc => ?_)
  · cases hc
  · refine W_skip ?_
    refine W_seq ?_
    refine W_cs (.a 1 rfl <| .c rfl (large_can c) rfl <| .k [1, 10] rfl) ?_
    refine W_cond rfl (fun hy => ?_) (fun hy => ?_)
    · skip
      refine W_cs (.a 1 rfl <| .k [2] rfl) ?_
      refine W_ret ?_
      exact ⟨_, _, ResL.of rfl, Pur.pure, rfl⟩
    · obtain ⟨s1, s2, s3, s4, s5, s6⟩ := large_small hy
      obtain ⟨q1, h1⟩ : ∃ q, decide (folE c.T c.D c.n c.p = folE c.T c.D c.n c.p) = q := ⟨_, rfl⟩
      have hq1 : q1 = true := by rw [← h1]; exact decide_eq_true rfl
      obtain ⟨L, hL⟩ : ∃ L, (if folE c.T c.D c.n c.p = 0 then lstL c.T c.D c.n c.p else []) = L := ⟨_, rfl⟩
      have he1 : Can Try.prog 13 [topoV c.T, boolsV c.D, intsV c.p, num c.n] (· = .tuple [segsV L, num (folE c.T c.D c.n c.p)]) := hL ▸ elist_can c.T c.D c.p c.n (by omega) (by omega) s4
      have he2 : Can Try.prog 14 [topoV c.T, boolsV c.D, intsV c.p, num c.n] (· = .tuple [segsV L, num (folE c.T c.D c.n c.p)]) := hL ▸ rlist_can c.T c.D c.p c.n (by omega) s4
      have he3 : Can Try.prog 15 [segsV L, segsV L] (· = flag true) := by
        have := rsegs_can L L
        rw [decide_eq_true rfl] at this
        exact this
      obtain ⟨q2, hq2⟩ : ∃ q, q = true := ⟨_, rfl⟩
      rw [← hq2] at he3
      refine W_skip ?_
      refine W_cs (.a 8 rfl <| .c rfl (he1) rfl <| .a 5 rfl <| .k [1, 3, 4] rfl) ?_
      refine W_cs (.a 8 rfl <| .c rfl (he2) rfl <| .a 5 rfl <| .k [3, 4, 5, 6] rfl) ?_
      refine W_csK 2 (.raw (.bool (q1 && q2))) [] rfl ?_ ?_
      · refine .a 2 rfl <| .v (y_q rfl (h1)) rfl <| .a 1 rfl <| ?_
        cases q1
        · exact .a 5 rfl <| .k [2] rfl
        · exact .a 2 rfl <| .c rfl (he3) rfl <| .a 2 rfl <| .k [2] rfl
      refine W_ret ?_
      exact ⟨_, _, ResL.of rfl, Pur.pure, by rw [hq1, hq2]; rfl⟩
end PW
end Go.Proofs.Ytgpdjgifhppnhaa

/- Parts of covered parts are covered; the greedy list is the shortest. Plain mathematics. -/
namespace Go.Proofs.Ytgpdjgifhppnhaa
set_option linter.unusedVariables false
set_option linter.unusedSimpArgs false
namespace PW
open Go.RowKit Reg Mem Net
section
variable {T : Topo} {D : List Bool} {d : Nat}
/-- Where there is not only one shortest path, there are two. -/
theorem cnt_two (hv : validB T = true) (hd : (d : Int) < T.nodes) : ∀ (K m : Nat), (m : Int) < T.nodes → 0 ≤ dN T D d m → dN T D d m ≤ K → cntS T D d m ≠ 1 → ∃ p q, SP T D d m p ∧ SP T D d m q ∧ p ≠ q
  | K, m, hmN, h0, hK, hc => by
    by_cases hmd : m = d
    · subst hmd; exact absurd (cnt_self m) hc
    · obtain ⟨k, hk⟩ := next_ex (D := D) hv hmN hd hmd h0
      have hmem := next_of hk ((sound_of hv).cost k hk.arc).1
      cases hx : nextL T D m d with
      | nil => rw [hx] at hmem; cases hmem
      | cons a l =>
        obtain ⟨b, rfl, hb⟩ := next_mem (T := T) (D := D) (n := m) (d := d) (a := a) (by rw [hx]; simp)
        obtain ⟨x, hxh, hxN⟩ := head_nat hv hb.arc
        have gx := hb.dN hxh
        have cx := (sound_of hv).cost b hb.arc
        cases l with
        | nil =>
          cases K with
          | zero => omega
          | succ K =>
            have hcx : cntS T D d x ≠ 1 := fun h => hc (cnt_of_one hv hd hmN hmd hx hxh h)
            obtain ⟨p, q, h1, h2, h3⟩ := cnt_two hv hd K x hxN gx.1 (by omega) hcx
            exact ⟨b :: p, b :: q, .cons hb hxh h1, .cons hb hxh h2, fun e => h3 (List.cons.inj e).2⟩
        | cons a2 l =>
          obtain ⟨b2, rfl, hb2⟩ := next_mem (T := T) (D := D) (n := m) (d := d) (a := a2) (by rw [hx]; simp)
          obtain ⟨x2, hxh2, hxN2⟩ := head_nat hv hb2.arc
          have gx2 := hb2.dN hxh2
          refine ⟨b :: spathL T D x d, b2 :: spathL T D x2 d, .cons hb hxh (spath_sp hv hd hxN gx.1), .cons hb2 hxh2 (spath_sp hv hd hxN2 gx2.1), fun e => ?_⟩
          have he := (List.cons.inj e).1
          have hlt := next_sorted T D m d
          rw [hx] at hlt
          have := (List.pairwise_cons.1 hlt).1 (b2 : Int) (by simp)
          omega
/-- Paths one after the other. -/
theorem Ch.append {e n : Nat} {p q : List Int} (h : Ch T D e n p) (hq : Ch T D d e q) (ho : q = [] ∨ overN T e = false) : Ch T D d n (p ++ q) := by
  induction h with
  | nil => exact hq
  | @cons n a m p ha ht hu hm hov hp ih =>
    refine .cons ha ht hu hm ?_ ih
    rcases hov with h | h
    · subst h
      have := hp.to rfl
      subst this
      rcases ho with h | h
      · subst h; exact .inl rfl
      · exact .inr h
    · exact .inr h
/-- The end of a shortest path is one, and the only one if the whole is. -/
theorem SP.suffix (hv : validB T = true) (hd : (d : Int) < T.nodes) {e : Nat} : ∀ {n : Nat} {p q : List Int}, SP T D d n (p ++ q) → cntS T D d n = 1 → Ch T D e n p → SP T D d e q ∧ cntS T D d e = 1
  | n, [], q, h, hc, hch => by
    have := hch.to rfl
    subst this
    exact ⟨h, hc⟩
  | n, a :: p, q, h, hc, hch => by
    cases h with
    | @cons _ b m _ h1 hm hp =>
      cases hch with
      | @cons _ b2 m2 _ _ _ _ hm2 _ hch2 =>
        have : m2 = m := by rw [hm] at hm2; omega
        subst this
        obtain ⟨b3, h3, _, h4⟩ := cnt_one hv hd (h1.node hv) h1.ne hc
        have e1 := next_of h1 ((sound_of hv).cost b h1.arc).1
        rw [h3] at e1
        simp only [List.mem_singleton] at e1
        have : b3 = b := by omega
        subst this
        exact SP.suffix hv hd hp (h4 m2 hm) hch2
/-- The beginning of an only shortest path is one. -/
theorem SP.pre (hv : validB T = true) (hd : (d : Int) < T.nodes) {e n : Nat} {p q : List Int} (he : (e : Int) < T.nodes) (h : SP T D d n (p ++ q)) (hc : cntS T D d n = 1) (hp : Ch T D e n p) (hq : Ch T D d e q) (ho : q = [] ∨ overN T e = false) : SP T D e n p ∧ cntS T D e n = 1 := by
  have hcost := (h.cost hv hd).1
  rw [costL_append] at hcost
  have hle := hp.le hv he
  have hn := hp.node hv he
  have hspe : SP T D e n p := by
    refine hp.sp hv he ?_
    have hs := spath_sp hv he hn hle.1
    have hc2 := (hs.cost hv he).1
    have := ((hs.ch).append hq ho).le hv hd
    rw [costL_append] at this
    omega
  refine ⟨hspe, Classical.byContradiction fun h1 => ?_⟩
  obtain ⟨p1, p2, g1, g2, g3⟩ := cnt_two hv he (dN T D e n).toNat n hn hle.1 (by omega) h1
  have key : ∀ r, SP T D e n r → SP T D d n (r ++ q) := fun r hr => by
    refine ((hr.ch).append hq ho).sp hv hd ?_
    rw [costL_append, hcost, ← (hr.cost hv he).1, (hspe.cost hv he).1]
  have := (key p1 g1).unique hv hd (key p2 g2) hc
  exact g3 (List.append_cancel_right this)
theorem Ch.mid {e : Nat} : ∀ {n : Nat} {p q : List Int}, Ch T D d n (p ++ q) → p ≠ [] → Ch T D e n p → q = [] ∨ overN T e = false
  | n, [], q, _, h, _ => absurd rfl h
  | n, a :: p, q, h, _, hch => by
    cases h with
    | @cons _ b m _ _ _ _ hm hov hp =>
      cases hch with
      | @cons _ b2 m2 _ _ _ _ hm2 _ hch2 =>
        have : m2 = m := by rw [hm] at hm2; omega
        subst this
        cases p with
        | nil =>
          have := hch2.to rfl
          subst this
          exact hov
        | cons c p => exact Ch.mid hp (by simp) hch2
variable {n : Int} {p : List Int}
theorem part_split (p : List Int) {i j k : Nat} (h1 : i ≤ j) (h2 : j ≤ k) : partL p i k = partL p i j ++ partL p j k := by
  have e1 := take_part p (show i ≤ k by omega)
  have e2 := take_part p h2
  rw [take_part p h1, List.append_assoc] at e2
  rw [e1] at e2
  exact List.append_cancel_left e2
theorem cov_sub (h : Fol T D n p) {i j i' j' : Nat} (h1 : i ≤ i') (h2 : i' < j') (h3 : j' ≤ j) (hj : j ≤ p.length) (hc : covB T D n p i j = true) : covB T D n p i' j' = true := by
  have ha := h.arcs
  have hv := h.valid
  obtain ⟨u, hu, huN⟩ := end_node hv h.node ha i (by omega)
  obtain ⟨y, hy, hyN⟩ := end_node hv h.node ha j hj
  obtain ⟨u', hu', huN'⟩ := end_node hv h.node ha i' (by omega)
  obtain ⟨y', hy', hyN'⟩ := end_node hv h.node ha j' (by omega)
  obtain ⟨c1, c2⟩ := (cov_iff h (by omega) hj hu hy).1 hc
  rw [part_split p h1 (show i' ≤ j by omega)] at c1
  obtain ⟨c3, c4⟩ := c1.suffix hv hyN c2 (h.ch h1 (by omega) hu hu')
  rw [part_split p (show i' ≤ j' by omega) h3] at c3
  have hp := h.ch (show i' ≤ j' by omega) (by omega) hu' hy'
  have hq := h.ch h3 hj hy' hy
  have ho := c3.ch.mid (e := y') (by
    intro e
    have := part_len p (show i' ≤ j' by omega) (by omega)
    rw [e] at this
    simp at this
    omega) hp
  exact (cov_iff h (by omega) (by omega) hu' hy').2 (c3.pre hv hyN hyN' c4 hp hq ho)
/-- How many segments the list from i on has. -/
noncomputable def gN (T : Topo) (D : List Bool) (n : Int) (p : List Int) (i : Nat) : Nat := (lstF T D n p (p.length - i) i).length
theorem lst_fuel : ∀ (f g i : Nat), p.length - i ≤ f → p.length - i ≤ g → lstF T D n p f i = lstF T D n p g i
  | f, g, i, hf, hg => by
    by_cases hi : i < p.length
    · cases f with
      | zero => omega
      | succ f =>
        cases g with
        | zero => omega
        | succ g =>
          simp only [lstF]
          rw [if_pos hi, if_pos hi]
          cases ht : topD (covB T D n p i) i p.length with
          | none => simp only; rw [lst_fuel f g (i + 1) (by omega) (by omega)]
          | some j =>
            have := topD_is _ _ ht
            simp only; rw [lst_fuel f g j (by omega) (by omega)]
    · rw [lst_end f i (by omega), lst_end g i (by omega)]
theorem gN_end {i : Nat} (h : p.length ≤ i) : gN T D n p i = 0 := by unfold gN; rw [lst_end _ _ h]; rfl
theorem gN_some {i j : Nat} (hi : i < p.length) (ht : topD (covB T D n p i) i p.length = some j) : gN T D n p i = 1 + gN T D n p j := by
  unfold gN
  obtain ⟨f, hf⟩ : ∃ f, p.length - i = f + 1 := ⟨p.length - i - 1, by omega⟩
  have := topD_is _ _ ht
  rw [hf]
  simp only [lstF]
  rw [if_pos hi, ht]
  simp only [List.length_cons]
  rw [lst_fuel f (p.length - j) j (by omega) (by omega)]
  omega
theorem gN_none {i : Nat} (hi : i < p.length) (ht : topD (covB T D n p i) i p.length = none) : gN T D n p i = 1 + gN T D n p (i + 1) := by
  unfold gN
  obtain ⟨f, hf⟩ : ∃ f, p.length - i = f + 1 := ⟨p.length - i - 1, by omega⟩
  rw [hf]
  simp only [lstF]
  rw [if_pos hi, ht]
  simp only [List.length_cons]
  rw [lst_fuel f (p.length - (i + 1)) (i + 1) (by omega) (by omega)]
  omega
/-- From a later node on, the list is not longer. -/
theorem gN_mono (h : Fol T D n p) : ∀ (K i i' : Nat), p.length - i ≤ K → i ≤ i' → gN T D n p i' ≤ gN T D n p i
  | K, i, i', hK, hii => by
    by_cases he : i = i'
    · subst he; exact Nat.le_refl _
    · by_cases hi : i < p.length
      · by_cases hi' : i' < p.length
        · cases K with
          | zero => omega
          | succ K =>
            cases ht : topD (covB T D n p i) i p.length with
            | none =>
              rw [gN_none hi ht]
              have := gN_mono h K (i + 1) i' (by omega) (by omega)
              omega
            | some j =>
              have hj := topD_is _ _ ht
              rw [gN_some hi ht]
              by_cases hij : j ≤ i'
              · have := gN_mono h K j i' (by omega) hij
                omega
              · have hcs := cov_sub h (i := i) (j := j) (i' := i') (j' := j) (by omega) (by omega) (Nat.le_refl _) hj.2.1 hj.2.2.1
                cases ht' : topD (covB T D n p i') i' p.length with
                | none =>
                  have := topD_isNone _ ht' j (by omega) hj.2.1
                  rw [hcs] at this
                  cases this
                | some j2 =>
                  have hj2 := topD_is _ _ ht'
                  rw [gN_some hi' ht']
                  have hjj : j ≤ j2 := Nat.not_lt.1 fun hlt => by
                    have := hj2.2.2.2 j hlt hj.2.1
                    rw [hcs] at this
                    cases this
                  have := gN_mono h K j j2 (by omega) hjj
                  omega
        · rw [gN_end (by omega)]; omega
      · rw [gN_end (show p.length ≤ i' by omega)]; omega
/-- No way to part the path is shorter: the next part may be any arc or any covered part. -/
theorem gN_le (h : Fol T D n p) {i k : Nat} (hi : i < p.length) (hk : k = i + 1 ∨ (i < k ∧ k ≤ p.length ∧ covB T D n p i k = true)) : gN T D n p i ≤ 1 + gN T D n p k := by
  cases ht : topD (covB T D n p i) i p.length with
  | none =>
    rw [gN_none hi ht]
    rcases hk with rfl | ⟨h1, h2, h3⟩
    · exact Nat.le_refl _
    · have := topD_isNone _ ht k h1 h2
      rw [h3] at this
      cases this
  | some j =>
    have hj := topD_is _ _ ht
    rw [gN_some hi ht]
    have hkj : k ≤ j := by
      rcases hk with rfl | ⟨h1, h2, h3⟩
      · exact hj.1
      · exact Nat.not_lt.1 fun hlt => by
          have := hj.2.2.2 k hlt h2
          rw [h3] at this
          cases this
    have := gN_mono h (p.length - k) k j (Nat.le_refl _) hkj
    omega
theorem gN_get {i : Nat} (hi : i < p.length) : gN T D n p i = 1 + gN T D n p (i + 1) ∨ ∃ k, i < k ∧ k ≤ p.length ∧ covB T D n p i k = true ∧ gN T D n p i = 1 + gN T D n p k := by
  cases ht : topD (covB T D n p i) i p.length with
  | none => exact .inl (gN_none hi ht)
  | some j => have hj := topD_is _ _ ht; exact .inr ⟨j, hj.1, hj.2.1, hj.2.2.1, gN_some hi ht⟩
end
end PW
end Go.Proofs.Ytgpdjgifhppnhaa
