/- Texts of the proof, part 9. -/
import Derived.Test.YtbpgndbjbaoolaaGreatCardPCB8
/- Package encode: a path with its nodes, its costs and what is known of distances. -/
namespace Go.Proofs.YtbpgndbjbaoolaaGreat
set_option linter.unusedVariables false
set_option linter.unusedSimpArgs false
namespace PW
open Go.RowKit Reg Mem Net

theorem mapI : mapK Tryz.prog 157 = some (3, 33) := by kernel_rfl
theorem mapP : mapK Tryz.prog 158 = some (70, 4) := by kernel_rfl
theorem zvI : zvK Tryz.prog 33 = some (.slice none 0 0) := by kernel_rfl
theorem zvP : zvK Tryz.prog 4 = some (.bool false) := by kernel_rfl
theorem slI : slK1 Tryz.prog 33 = true := by kernel_rfl
abbrev encI (n : Int) : Value := .int .i64 n
abbrev encP (p : Int × Int) : Value := .agg (pairV p)
theorem keyI : MapKey Tryz.prog 3 encI := intKey Tryz.underlying3
theorem keyP : MapKey Tryz.prog 70 encP := by
  have h : (Tryz.prog.info? 3).map (·.size) = some 1 := by kernel_rfl
  obtain ⟨i, h1, h2⟩ := Option.map_eq_some_iff.1 h
  exact pairKey Tryz.underlying70 Tryz.underlying3 h1 h2
theorem builtP (a b : Int) : Tryz.prog.built 70 [(0, .int .i64 a), (1, .int .i64 b)] = some #[.int .i64 a, .int .i64 b] := by kernel_rfl
/-- A pair of numbers. -/
theorem y_pair {P : Program} {σ : Sto} {t : Tms} {o : Oper} {ty : TypeId} {x y : Operand} {a b : Int} (ho : o.op = .build ty #[(0, x), (1, y)]) (hx : evalO t x = some (num a)) (hy : evalO t y = some (num b)) (hb : P.built ty [(0, .int .i64 a), (1, .int .i64 b)] = some #[.int .i64 a, .int .i64 b]) : Yield P σ t o (.agg [num a, num b]) := by
  intro F base E ρ w hρ hS hT
  have hrun := run_build (P := P) w ty #[(0, .int .i64 a), (1, .int .i64 b)] #[.int .i64 a, .int .i64 b] hb
  have h0 : ρ x = .int .i64 a := rep_raw (evalO_rep hρ hT hx)
  have h1 : ρ y = .int .i64 b := rep_raw (evalO_rep hρ hT hy)
  have hr : (execOp ρ o).run P w = .ok (.value (.agg #[.int .i64 a, .int .i64 b])) w := by
    simp only [execOp, ho, Sem.run_bind, List.map_toArray, List.map_cons, List.map_nil, h0, h1, hrun, Result.andThen_ok, Sem.run_pure]
  rw [hr]
  refine upon_val (.agg #[.int .i64 a, .int .i64 b] _ rfl (fun i x u k1 k2 => ?_))
  match i, k1, k2 with
  | 0, k1, k2 => simp at k1 k2; subst k1; subst k2; exact .raw _
  | 1, k1, k2 => simp at k1 k2; subst k1; subst k2; exact .raw _
  | _ + 2, k1, k2 => simp at k2
section
variable {κ : Type} [DecidableEq κ]
theorem lookM_set (k : κ) (p : PV) : ∀ l : List (κ × PV), lookM k (setM k p l) = some p
  | [] => by simp [setM, lookM]
  | (a, q) :: l => by
    unfold setM
    split
    · rename_i h; simp [lookM, h]
    · rename_i h; simp only [lookM, if_neg h]; exact lookM_set k p l
theorem y_memNil {P : Program} {σ : Sto} {t : Tms} {o : Oper} {x y : Operand} {ty tz : TypeId} {m : Option PV} (ho : o.op = .binOp .eql ty x y tz) (hk : slK1 P ty = true) (hx : evalO t x = some (m.getD (.raw (.slice none 0 0)))) (hy : evalO t y = some (.raw (.slice none 0 0))) (hm : ∀ v, m = some v → ∃ n xs, v = .slice n xs ∧ 0 < n) : Yield P σ t o (.raw (.bool m.isNone)) := by
  cases m with
  | none => exact y_isNil ho hk hx hy
  | some v =>
    obtain ⟨n, xs, rfl, hn⟩ := hm v rfl
    exact y_notNil ho hk hx hy hn
end
/-- What is known of distances and of only paths. -/
def MemD (T : Topo) (D : List Bool) (dm : List (Int × PV)) : Prop := ∀ k v, (k, v) ∈ dm → ∃ d : Nat, k = (d : Int) ∧ (d : Int) < T.nodes ∧ v = intsV (distL T D d false)
def MemU (T : Topo) (D : List Bool) (um : List ((Int × Int) × PV)) : Prop := ∀ k v, (k, v) ∈ um → v = flag (uniqB T D k.1 k.2)
theorem MemD.pure {T : Topo} {D : List Bool} {dm : List (Int × PV)} (h : MemD T D dm) : PureD (some (.mp (encM encI dm))) := fun b hb => by
  cases hb
  refine ⟨fun i u hu => ?_⟩
  have hm := List.mem_of_getElem? hu
  simp only [encM, List.map_map, List.mem_map, Function.comp] at hm
  obtain ⟨⟨k, v⟩, hkv, rfl⟩ := hm
  obtain ⟨d, _, _, hv⟩ := h k v hkv
  show IsPure v
  rw [hv]
  infer_instance
theorem MemU.pure {T : Topo} {D : List Bool} {um : List ((Int × Int) × PV)} (h : MemU T D um) : PureD (some (.mp (encM encP um))) := fun b hb => by
  cases hb
  refine ⟨fun i u hu => ?_⟩
  have hm := List.mem_of_getElem? hu
  simp only [encM, List.map_map, List.mem_map, Function.comp] at hm
  obtain ⟨⟨k, v⟩, hkv, rfl⟩ := hm
  show IsPure v
  rw [h k v hkv]
  infer_instance
theorem MemD.set {T : Topo} {D : List Bool} {dm : List (Int × PV)} (h : MemD T D dm) {d : Nat} (hd : (d : Int) < T.nodes) : MemD T D (setM (d : Int) (intsV (distL T D d false)) dm) := fun k v hk => by
  rcases mem_setM hk with e | e
  · cases e; exact ⟨d, rfl, hd, rfl⟩
  · exact h k v e
theorem MemU.set {T : Topo} {D : List Bool} {um : List ((Int × Int) × PV)} (h : MemU T D um) (a b : Int) : MemU T D (setM (a, b) (flag (uniqB T D a b)) um) := fun k v hk => by
  rcases mem_setM hk with e | e
  · cases e; rfl
  · exact h k v e
theorem MemD.look {T : Topo} {D : List Bool} {dm : List (Int × PV)} (h : MemD T D dm) {d : Nat} {v : PV} (hl : lookM (d : Int) dm = some v) : v = intsV (distL T D d false) := by
  obtain ⟨d', h1, _, h2⟩ := h _ _ (lookM_mem hl)
  have : d' = d := by omega
  subst this
  exact h2
/-- The nodes of a path, and the costs of its beginnings. -/
def ndL (T : Topo) (n : Int) (p : List Int) : List Int := n :: p.map fun a => headN T a.toNat
def csL (T : Topo) (p : List Int) : List Int := (List.range (p.length + 1)).map fun i => costL T (p.take i)
theorem ndL_len (T : Topo) (n : Int) (p : List Int) : (ndL T n p).length = p.length + 1 := by simp [ndL]
theorem csL_len (T : Topo) (p : List Int) : (csL T p).length = p.length + 1 := by simp [csL]
theorem ndL_step (T : Topo) (n : Int) (p : List Int) (k : Nat) (h : k < p.length) : ndL T n (p.take (k + 1)) = ndL T n (p.take k) ++ [headN T (p.getD k 0).toNat] := by
  rw [take_step p k 0 h]; simp [ndL]
theorem csL_step (T : Topo) (p : List Int) (k : Nat) (h : k < p.length) : csL T (p.take (k + 1)) = csL T (p.take k) ++ [costL T (p.take (k + 1))] := by
  unfold csL
  rw [show (p.take (k + 1)).length + 1 = (p.take k).length + 1 + 1 by simp; omega, List.range_succ, List.map_append]
  congr 1
  · refine List.map_congr_left fun i hi => ?_
    have := List.mem_range.1 hi
    rw [List.take_take, List.take_take, Nat.min_eq_left (by simp at this; omega), Nat.min_eq_left (by simp at this; omega)]
  · simp only [List.map_cons, List.map_nil, List.take_take]
    rw [Nat.min_eq_left (by simp; omega), show (p.take k).length + 1 = k + 1 by simp; omega]
theorem ndL_get (T : Topo) (n : Int) (p : List Int) (i : Nat) (h : i ≤ p.length) : (ndL T n p).getD i 0 = endL T n (p.take i) := by
  cases i with
  | zero => rfl
  | succ i =>
    rw [endL_step T n p i (by omega)]
    simp only [ndL, List.getD_cons_succ]
    rw [List.getD_eq_getElem?_getD, List.getElem?_map, List.getElem?_eq_getElem (by omega), List.getD_eq_getElem?_getD, List.getElem?_eq_getElem (by omega)]
    rfl
theorem csL_get (T : Topo) (p : List Int) (i : Nat) (h : i ≤ p.length) : (csL T p).getD i 0 = costL T (p.take i) := by
  unfold csL
  rw [List.getD_eq_getElem?_getD, List.getElem?_map, List.getElem?_range (by omega)]
  rfl
/-- The error of a path that is to be used. -/
def folE (T : Topo) (D : List Bool) (n : Int) (p : List Int) : Int := if (validB T && fitsB T D) = true then (if pathX T n p = 0 then (if p.any (fun a => downN D a.toNat) then 7 else 0) else pathX T n p) else 1
abbrev trkB (T : Topo) (D : List Bool) (p : List Int) (i : Nat) : Option Blk := some (.cells 160 (topoP T ++ [boolsV D, intsV p, .own i, .own (i + 1), .own (i + 2), .own (i + 3)]))
/-- The store of a call that has followed a path. -/
def trk (T : Topo) (D : List Bool) (p ns cs : List Int) (dm : List (Int × PV)) (um : List ((Int × Int) × PV)) : Sto :=
  [irow ns, irow cs, some (.mp (encM encI dm)), some (.mp (encM encP um)), trkB T D p 0]
theorem walk_arcs {T : Topo} : ∀ {f : Bool} {n : Int} {l : List Int}, walkE T f n l = 0 → ∀ a ∈ l, arcB T a = true
  | f, n, [], _, a, ha => by cases ha
  | f, n, b :: l, h, a, ha => by
    simp only [walkE] at h
    split at h
    · omega
    · split at h
      · omega
      · rename_i h1 _
        rcases List.mem_cons.1 ha with rfl | ha
        · simpa using h1
        · exact walk_arcs h a ha
theorem pathX_zero {T : Topo} {n : Int} {p : List Int} (h : pathX T n p = 0) : validB T = true ∧ nodeB T n = true ∧ walkE T true n p = 0 := by
  unfold pathX at h
  split at h
  · rename_i h1
    split at h
    · rename_i h2; exact ⟨h1, h2, h⟩
    · omega
  · omega
theorem costL_take_le {T : Topo} (hv : validB T = true) {p : List Int} (ha : ∀ a ∈ p, arcB T a = true) : ∀ k, k ≤ p.length → 0 ≤ costL T (p.take k) ∧ costL T (p.take k) ≤ 65535 * k
  | 0, _ => by simp [costL_nil]
  | k + 1, h => by
    have := costL_take_le hv ha k (by omega)
    rw [costL_step T p k (by omega)]
    have := (arc_facts hv (ha _ (getD_mem (d := 0) (show k < p.length by omega)))).1
    omega
set_option maxRecDepth 10000 in
set_option maxHeartbeats 2000000 in
theorem follow_can (T : Topo) (D : List Bool) (p : List Int) (n : Int) (hp : p.length ≤ 1000) (hlk : T.links.length ≤ 256) : CanS Tryz.prog 149 [topoV T, boolsV D, intsV p, num n] [] (fun r σ' => (folE T D n p ≠ 0 ∧ r = .tuple [.raw (.pointer none), num (folE T D n p)]) ∨ (folE T D n p = 0 ∧ r = .tuple [.ptr 4 0, num 0] ∧ σ' = trk T D p (ndL T n p) (csL T p) [] [])) := by
  obtain ⟨q1, hq1⟩ : ∃ q, validB T = q := ⟨_, rfl⟩
  obtain ⟨q2, hq2⟩ : ∃ q, fitsB T D = q := ⟨_, rfl⟩
  refine canS_of Tryz.func149 rfl Tryz.ntmps149 rfl ?_
  refine W_cs (.a 3 rfl <| .k [1, 2, 3, 4] rfl) ?_
  refine W_seq ?_
  refine W_csK 25 (.raw (.bool ((!q1) || !q2))) [1, 2, 3, 4] rfl ?_ ?_
  · refine .a 1 rfl <| .c rfl (hq1 ▸ valid_can T) rfl <| .a 2 rfl <| ?_
    cases q1
    · exact .a 5 rfl <| .k [25, 1, 2, 3, 4] rfl
    · exact .a 2 rfl <| .c rfl (hq2 ▸ fits_can T D (by omega)) rfl <| .a 2 rfl <| .k [25, 1, 2, 3, 4] rfl
  refine W_cond rfl (fun hc => ?_) (fun hc => ?_)
  · have he : folE T D n p = 1 := by unfold folE; rw [hq1, hq2]; cases q1 <;> cases q2 <;> first | rfl | cases hc
    refine W_cs (.a 2 rfl <| .k [8, 9] rfl) ?_
    refine W_ret ?_
    exact ⟨_, ResL.of rfl, .inl ⟨by rw [he]; decide, by rw [he]; rfl⟩⟩
  · have hv : validB T = true := by rw [hq1]; cases q1; cases hc; rfl
    have hf : fitsB T D = true := by rw [hq2]; cases q2; cases q1 <;> cases hc; rfl
    have hvf : (validB T && fitsB T D) = true := by rw [hv, hf]; rfl
    refine W_skip ?_
    refine W_seq ?_
    refine W_cs (.a 3 rfl <| .c rfl (path_can T n p (by omega)) rfl <| .a 7 rfl <| .k [1, 2, 3, 4, 12] rfl) ?_
    refine W_cs (.a 2 rfl <| .k [1, 2, 3, 4, 12, 35] rfl) ?_
    refine W_cond rfl (fun hx => ?_) (fun hx => ?_)
    · have hx1 : pathX T n p ≠ 0 := tt hx
      have he : folE T D n p = pathX T n p := by unfold folE; rw [if_pos hvf, if_neg hx1]
      refine W_cs (.a 3 rfl <| .k [8, 9] rfl) ?_
      refine W_ret ?_
      exact ⟨_, ResL.of rfl, .inl ⟨by rw [he]; exact hx1, by rw [he]; rfl⟩⟩
    · have hx1 : pathX T n p = 0 := Classical.byContradiction (ff hx)
      obtain ⟨_, hn, hw⟩ := pathX_zero hx1
      have ha := walk_arcs hw
      have hcb := costL_take_le hv ha
      refine W_skip ?_
      refine W_rs ?_
      refine WR_a 4 rfl <| WR_l (l_buildSlice (xs := [_]) rfl (fok.sl.get rfl) ⟨Nat.le_of_ble_eq_true rfl, Nat.le_of_ble_eq_true rfl⟩ rfl rfl) rfl <| WR_l (l_buildSlice (xs := [_]) rfl (fok.sl.get rfl) ⟨Nat.le_of_ble_eq_true rfl, Nat.le_of_ble_eq_true rfl⟩ rfl rfl) rfl <| WR_l (l_makeMap encI rfl) rfl <| WR_l (l_makeMap encP rfl) rfl <| WR_a 1 rfl <| WR_l (l_box rfl rfl rfl) rfl <| WR_a 1 rfl <| WR_k [1, 2, 4, 13] rfl ?_
      refine W_cs (.a 1 rfl <| .k [1, 2, 4, 13, 14] rfl) ?_
      refine W_seq ?_
      refine W_cs (.a 3 rfl <| .k [1, 4, 13, 14, 47, 48, 49] rfl) ?_
      refine W_block ?_
      refine W_k [1, 4, 13, 14, 47, 48, 49] rfl ?_
      refine W_loop (fun r st => ∃ k : Nat, k ≤ p.length ∧ r = p.length - k ∧ (∀ a ∈ p.take k, downN D a.toNat = false) ∧ st = ⟨[(1, boolsV D), (4, .pin (topoP T) 0), (13, .ptr 4 0), (14, num (costL T (p.take k))), (47, intsV p), (48, num p.length), (49, num k)], trk T D p (ndL T n (p.take k)) (csL T (p.take k)) [] []⟩) p.length ⟨0, by omega, by omega, by simp, rfl⟩ ?_
      rintro r st ⟨k, hk, rfl, hdn, rfl⟩
      have hck := hcb k hk
      have hl1 := ndL_len T n (p.take k)
      have hl2 := csL_len T (p.take k)
      have hl3 : (p.take k).length = k := by simp; omega
      refine W_cs (.a 1 rfl <| .k [1, 4, 13, 14, 47, 48, 49, 50] rfl) ?_
      refine W_seq ?_
      refine W_cond rfl (fun hy => ?_) (fun hy => ?_)
      · have hlt : k < p.length := by have := tt hy; omega
        have hmem := getD_mem (d := 0) hlt
        have hab := ha _ hmem
        obtain ⟨hac, m, hm, hmN⟩ := arc_facts hv hab
        have hst1 := ndL_step T n p k hlt
        have hst2 := csL_step T p k hlt
        have hst3 := costL_step T p k hlt
        have hab2 := hab
        simp only [arcB, decide_eq_true_eq] at hab2
        obtain ⟨a, hae⟩ : ∃ a : Nat, p.getD k 0 = (a : Int) := ⟨(p.getD k 0).toNat, by omega⟩
        have ham : a < 2 * T.links.length := by omega
        have hD : D.length = 0 ∨ a < D.length := by simp only [fitsB, decide_eq_true_eq] at hf; omega
        rw [hae, Int.toNat_natCast] at hm hac hst1 hst3
        have hh := head_can T a ham (by omega)
        rw [hm] at hh
        refine W_skip ?_
        refine W_seq ?_
        refine W_block ?_
        refine W_cs (.v (y_ix (k) rfl) rfl <| .v (y_ld rfl ((ints_get p k hlt).trans (by rw [hae]))) rfl <| .a 1 rfl <| .k [1, 4, 13, 14, 16, 47, 48, 49] rfl) ?_
        refine W_seq ?_
        refine W_cs (.a 2 rfl <| .c rfl (down_can D a hD) rfl <| .k [1, 4, 13, 14, 16, 47, 48, 49, 55] rfl) ?_
        refine W_cond rfl (fun hz => ?_) (fun hz => ?_)
        · have he : folE T D n p = 7 := by
            unfold folE
            rw [if_pos hvf, if_pos hx1, if_pos]
            exact List.any_eq_true.2 ⟨_, hmem, by rw [hae]; exact hz⟩
          refine W_cs (.a 2 rfl <| .k [8, 9] rfl) ?_
          refine W_ret ?_
          exact ⟨_, ResL.of rfl, .inl ⟨by rw [he]; decide, by rw [he]; rfl⟩⟩
        · have hdn2 : ∀ a ∈ p.take (k + 1), downN D a.toNat = false := fun x hx => by
            rw [take_step p k 0 hlt] at hx
            rcases List.mem_append.1 hx with h | h
            · exact hdn x h
            · simp only [List.mem_singleton] at h; rw [h, hae]; exact hz
          refine W_skip ?_
          refine W_cs (.a 3 rfl <| .c rfl (cost_can T a ham) rfl <| .v (y_ar rfl (hn := by unfold In64; omega)) rfl <| .a 1 rfl <| .k [1, 4, 13, 14, 16, 47, 48, 49] rfl) ?_
          refine W_dfs 9 8 mixed (
            .late [13] rfl (r_move rfl rfl) inferInstance rfl rfl <|
            .val [13] rfl (y_a rfl) rfl rfl <|
            .val [62] rfl (y_a rfl) rfl rfl <|
            .val [63] rfl (y_a rfl) rfl rfl <|
            .val [64] rfl (y_a rfl) rfl rfl <|
            .val [4] rfl (y_a rfl) rfl rfl <|
            .val [16] rfl (y_a rfl) rfl rfl <|
            .val [66, 67] rfl (y_c rfl (hh)) rfl rfl <|
            .val [68] rfl (y_a rfl) rfl rfl <|
            .nil) (by kernel_rfl) rfl rfl (keepT_sub (ks := [1, 4, 13, 14, 47, 48, 49, 61, 65, 69]) rfl) ?_
          refine WR_l (l_append rfl (fok.rk.get rfl) rfl rfl rfl rfl (by unfold maxLen; omega)) rfl <| WR_a 3 rfl ?_
          refine WR_ren [5, 1, 2, 3, 4] (.c 1 <| .c 4 <| .c 13 <| .c 14 <| .c 47 <| .c 48 <| .c 49 <| .nil) (.kept rfl (.rowP rfl (intsP_snoc _ _)) <| .kept rfl (.row RenL.pure) <| .same (MemD.pure (T := T) (D := D) (dm := []) (fun _ _ h => by cases h)) rfl <| .same (MemU.pure (T := T) (D := D) (um := []) (fun _ _ h => by cases h)) rfl <| .kept rfl (.cells (RenL.c <| RenL.c <| RenL.c <| RenL.c <| RenL.c <| RenL.c <| RenL.c <| RenL.c <| RenL.c <| RenL.nil)) <| .nil) rfl rfl (WR_nil ?_)
          refine W_region ?_
          refine WR_a 7 rfl <| WR_l (l_append rfl (fok.rk.get rfl) rfl rfl rfl rfl (by unfold maxLen; omega)) rfl <| WR_a 3 rfl ?_
          refine WR_ren [0, 5, 2, 3, 4] (.c 1 <| .c 4 <| .c 13 <| .c 14 <| .c 47 <| .c 48 <| .c 49 <| .nil) (.kept rfl (.row RenL.pure) <| .kept rfl (.rowP rfl (intsP_snoc _ _)) <| .same (MemD.pure (T := T) (D := D) (dm := []) (fun _ _ h => by cases h)) rfl <| .same (MemU.pure (T := T) (D := D) (um := []) (fun _ _ h => by cases h)) rfl <| .kept rfl (.cells (RenL.c <| RenL.c <| RenL.c <| RenL.c <| RenL.c <| RenL.c <| RenL.c <| RenL.c <| RenL.c <| RenL.nil)) <| .nil) rfl rfl (WR_nil ?_)
          refine W_chain (.v (y_ar rfl) rfl <| .a 1 rfl <| .k [1, 4, 13, 14, 47, 48, 49] rfl) ?_
          refine ⟨p.length - (k + 1), by omega, k + 1, by omega, rfl, hdn2, ?_⟩
          rw [hst1, hst2, hst3, hm]
          unfold trk irow
          simp only [List.length_append, List.length_singleton]
          rfl
      · have hke : k = p.length := by have := ff hy; omega
        subst hke
        rw [List.take_length] at hdn
        refine W_exit ?_
        refine W_cs (.a 3 rfl <| .k [8, 9] rfl) ?_
        refine W_ret ?_
        refine ⟨_, ResL.of rfl, .inr ⟨?_, rfl, by rw [List.take_length]⟩⟩
        unfold folE
        rw [if_pos hvf, if_pos hx1, if_neg]
        intro h
        obtain ⟨x, hx, hx2⟩ := List.any_eq_true.1 h
        rw [hdn x hx] at hx2
        cases hx2
/-- Whether the node segment of the node at j covers the part from i to j. -/
noncomputable def covB (T : Topo) (D : List Bool) (n : Int) (p : List Int) (i j : Nat) : Bool :=
  decide (dN T D (endL T n (p.take j)).toNat (endL T n (p.take i)).toNat = costL T (p.take j) - costL T (p.take i)) && uniqB T D (endL T n (p.take i)) (endL T n (p.take j))
theorem end_node {T : Topo} (hv : validB T = true) {n : Int} (hn : nodeB T n = true) {p : List Int} (ha : ∀ a ∈ p, arcB T a = true) (i : Nat) (hi : i ≤ p.length) : ∃ u : Nat, endL T n (p.take i) = (u : Int) ∧ (u : Int) < T.nodes := by
  cases i with
  | zero =>
    obtain ⟨h0, h1⟩ := nodeB_iff.1 hn
    obtain ⟨u, hu⟩ := Int.eq_ofNat_of_zero_le h0
    exact ⟨u, hu, by rw [← hu]; exact h1⟩
  | succ i =>
    rw [endL_step T n p i (by omega)]
    exact (arc_facts hv (ha _ (getD_mem (d := 0) (show i < p.length by omega)))).2
theorem chk_of {T : Topo} {D : List Bool} (hv : validB T = true) (hf : fitsB T D = true) {d : Nat} (hd : (d : Int) < T.nodes) : chkE T D [(d : Int)] = 0 := by
  unfold chkE
  rw [hv, hf]
  have : nodeB T (d : Int) = true := nodeB_iff.2 ⟨by omega, hd⟩
  simp [this]
set_option maxRecDepth 10000 in
set_option maxHeartbeats 2000000 in
theorem covered_can (T : Topo) (D : List Bool) (p : List Int) (n : Int) (dm : List (Int × PV)) (um : List ((Int × Int) × PV)) (x : Option Blk) (hx : PureD x) (hv : validB T = true) (hf : fitsB T D = true) (h12 : T.nodes ≤ 12) (hn : nodeB T n = true) (ha : ∀ a ∈ p, arcB T a = true) (hp : p.length ≤ 1000) (i j : Nat) (hi : i ≤ p.length) (hj : j ≤ p.length) (hdm : MemD T D dm) (hum : MemU T D um) :
    CanS Tryz.prog 150 [.ptr 4 0, num i, num j] (trk T D p (ndL T n p) (csL T p) dm um ++ [x]) (fun r σ' => r = flag (covB T D n p i j) ∧ ∃ dm' um', MemD T D dm' ∧ MemU T D um' ∧ σ' = trk T D p (ndL T n p) (csL T p) dm' um' ++ [x]) := by
  obtain ⟨u, hu, huN⟩ := end_node hv hn ha i hi
  obtain ⟨y, hy, hyN⟩ := end_node hv hn ha j hj
  have hcv : covB T D n p i j = (decide (dN T D y u = costL T (p.take j) - costL T (p.take i)) && uniqB T D u y) := by unfold covB; rw [hu, hy, Int.toNat_natCast, Int.toNat_natCast]
  rw [hcv]
  obtain ⟨hb1, hb2⟩ := distL_bound (D := D) hv (dir := false) hyN
  have hS := sound_of hv
  have hNp := hS.nodes
  have hdi : Can Tryz.prog 163 [topoV T, boolsV D, num y] (· = .tuple [intsV (distL T D y false), num 0]) := by
    have h := dist_can T D (y : Int)
    rw [chk_of hv hf hyN] at h
    exact h
  have hci := costL_take_le hv ha i hi
  have hcj := costL_take_le hv ha j hj
  have hl1 := ndL_len T n p
  have hl2 := csL_len T p
  have hgi := ndL_get T n p i hi
  have hgj := ndL_get T n p j hj
  have hki := csL_get T p i hi
  have hkj := csL_get T p j hj
  rw [hu] at hgi
  rw [hy] at hgj
  have hmn : ∀ v, lookM (y : Int) dm = some v → ∃ n xs, v = .slice n xs ∧ 0 < n := fun v h => ⟨_, _, hdm.look h, by omega⟩
  refine canS_of Tryz.func150 rfl Tryz.ntmps150 rfl ?_
  refine W_cs (.a 1 rfl <| .k [0, 1, 2] rfl) ?_
  refine W_drs mixed (by kernel_rfl) (.a 5 rfl <| .v [15, 16] (y_ix (i) rfl) rfl rfl <| .v [17] (y_ld rfl ((ints_get _ i (by omega)).trans (by rw [hgi]))) rfl rfl <| .a 5 rfl <| .v [22, 23] (y_ix (j) rfl) rfl rfl <| .v [24] (y_ld rfl ((ints_get _ j (by omega)).trans (by rw [hgj]))) rfl rfl <| .a 2 rfl <| .k [0, 1, 2, 7, 8] rfl) ?_
  refine W_seq ?_
  refine W_cs (.a 5 rfl <| .v (y_look keyI rfl mapI zvI rfl rfl rfl (keyRaw _) rfl) rfl <| .v (y_memNil rfl slI rfl rfl hmn) rfl <| .k [0, 1, 2, 7, 8, 32] rfl) ?_
  refine W_cond rfl (fun h1 => ?_) (fun h1 => ?_)
  · obtain ⟨dm1, hdm1⟩ : ∃ z, setM (y : Int) (intsV (distL T D y false)) dm = z := ⟨_, rfl⟩
    have hdm2 : MemD T D dm1 := by rw [← hdm1]; exact hdm.set hyN
    have hlk : lookM (y : Int) dm1 = some (intsV (distL T D y false)) := by rw [← hdm1]; exact lookM_set _ _ _
    refine W_drawFlt 18 8 mixed (
      .val [0] rfl (y_a rfl) rfl rfl <|
      .val [34] rfl (y_a rfl) rfl rfl <|
      .val [35] rfl (y_a rfl) rfl rfl <|
      .val [36] rfl (y_a rfl) rfl rfl <|
      .val [8] rfl (y_a rfl) rfl rfl <|
      .val [0] rfl (y_a rfl) rfl rfl <|
      .val [39] rfl (y_a rfl) rfl rfl <|
      .val [40] rfl (y_a rfl) rfl rfl <|
      .val [41] rfl (y_a rfl) rfl rfl <|
      .val [0] rfl (y_a rfl) rfl rfl <|
      .val [43] rfl (y_a rfl) rfl rfl <|
      .val [44] rfl (y_a rfl) rfl rfl <|
      .val [45] rfl (y_a rfl) rfl rfl <|
      .val [8] rfl (y_a rfl) rfl rfl <|
      .val [42, 46, 47] rfl (y_c rfl (hdi)) rfl rfl <|
      .val [48] rfl (y_a rfl) rfl rfl <|
      .val [33] rfl (y_a rfl) rfl rfl <|
      .late [33] rfl (r_extract rfl rfl rfl) inferInstance rfl rfl <|
      .nil) (by kernel_rfl) rfl rfl (keepT_sub (ks := [0, 1, 2, 7, 8, 37, 38, 49]) rfl) ?_
    refine WR_loud0 (l_mapSet keyI rfl mapI rfl rfl rfl (keyRaw _) rfl) rfl rfl <| WR_k [0, 1, 2, 7, 8] rfl ?_
    refine W_sto (σ' := trk T D p (ndL T n p) (csL T p) dm1 um ++ [x]) (by rw [← hdm1]; rfl) ?_
    refine W_seq ?_
    refine W_drs mixed (by kernel_rfl) (.a 5 rfl <| .v [54, 55] (y_look keyI rfl mapI zvI rfl rfl rfl (keyRaw _) (by rw [hlk])) rfl rfl <| .a 1 rfl <| .v [56, 57] (y_ix (u) rfl) rfl rfl <| .v [58] (y_ld rfl (ints_get _ u (by omega))) rfl rfl <| .a 5 rfl <| .v [63, 64] (y_ix (j) rfl) rfl rfl <| .v [65] (y_ld rfl ((ints_get _ j (by omega)).trans (by rw [hkj]))) rfl rfl <| .a 5 rfl <| .v [70, 71] (y_ix (i) rfl) rfl rfl <| .v [72] (y_ld rfl ((ints_get _ i (by omega)).trans (by rw [hki]))) rfl rfl <| .v [66, 73] (y_ar rfl) rfl rfl <| .a 1 rfl <| .k [0, 7, 8, 75] rfl) ?_
    refine W_cond rfl (fun h2 => ?_) (fun h2 => ?_)
    · have h3 : dN T D y u ≠ costL T (p.take j) - costL T (p.take i) := tt h2
      refine W_cs (.a 1 rfl <| .k [6] rfl) ?_
      refine W_ret ?_
      refine ⟨_, ResL.of rfl, ?_, _, _, hdm2, hum, rfl⟩
      rw [decide_eq_false h3]
      rfl
    · have h3 : dN T D y u = costL T (p.take j) - costL T (p.take i) := Classical.byContradiction (ff h2)
      obtain ⟨b, hb⟩ : ∃ b : Bool, (lookM ((u : Int), (y : Int)) um).getD (.raw (.bool false)) = flag b := by
        cases h : lookM ((u : Int), (y : Int)) um with
        | none => exact ⟨false, rfl⟩
        | some v => exact ⟨_, hum _ _ (lookM_mem h)⟩
      refine W_skip ?_
      refine W_rs ?_
      refine WR_a 2 rfl <| WR_v (y_pair rfl rfl rfl (builtP _ _)) rfl <| WR_a 2 rfl <| WR_k [0, 7, 8, 9] rfl ?_
      refine W_sto (σ' := trk T D p (ndL T n p) (csL T p) dm1 um ++ [x, some (.cells 70 [num u, num y])]) rfl ?_
      refine W_drs mixed (by kernel_rfl) (.a 5 rfl <| .v [83, 84] (y_look2 keyP rfl mapP zvP rfl rfl rfl (keyAgg2 _ _) hb rfl) rfl rfl <| .a 5 rfl <| .k [0, 7, 8, 9, 10, 11] rfl) ?_
      refine W_seq ?_
      refine W_cs (.a 2 rfl <| .k [0, 7, 8, 9, 10, 89] rfl) ?_
      refine W_cond rfl (fun h4 => ?_) (fun h4 => ?_)
      · obtain ⟨um1, hum1⟩ : ∃ z, setM ((u : Int), (y : Int)) (flag (uniqB T D u y)) um = z := ⟨_, rfl⟩
        have hum2 : MemU T D um1 := by rw [← hum1]; exact hum.set u y
        refine W_drs mixed (by kernel_rfl) (.a 10 rfl <| .v [93, 97, 98, 99] (y_c rfl (unique_can T D u y h12)) rfl rfl <| .a 1 rfl <| .k [0, 9, 10] rfl) ?_
        refine W_drawFlt 6 8 mixed (
          .val [0] rfl (y_a rfl) rfl rfl <|
          .val [101] rfl (y_a rfl) rfl rfl <|
          .val [102] rfl (y_a rfl) rfl rfl <|
          .val [103] rfl (y_a rfl) rfl rfl <|
          .val [9] rfl (y_a rfl) rfl rfl <|
          .val [10] rfl (y_a rfl) rfl rfl <|
          .nil) (by kernel_rfl) rfl rfl (keepT_sub (ks := [10, 104, 105, 106]) rfl) ?_
        refine WR_loud0 (l_mapSet keyP (k := ((u : Int), (y : Int))) rfl mapP rfl rfl rfl (keyAgg2 (.int .i64 (u : Int)) (.int .i64 (y : Int))) rfl) rfl rfl <| WR_k [10] rfl ?_
        refine W_sto (σ' := trk T D p (ndL T n p) (csL T p) dm1 um1 ++ [x, some (.cells 70 [num u, num y])]) (by rw [← hum1]; rfl) ?_
        obtain ⟨b, hbu⟩ : ∃ b, b = uniqB T D u y := ⟨_, rfl⟩
        refine W_cs (.a 2 rfl <| .k [6] rfl) ?_
        refine W_ren [0, 1, 2, 3, 4, 5] (.c 6 <| .nil) (.kept rfl (.row RenL.pure) <| .kept rfl (.row RenL.pure) <| .same (MemD.pure hdm2) rfl <| .same (MemU.pure hum2) rfl <| .kept rfl (.cells (RenL.c <| RenL.c <| RenL.c <| RenL.c <| RenL.c <| RenL.c <| RenL.c <| RenL.c <| RenL.c <| RenL.nil)) <| .same hx rfl <| .nil) rfl rfl ?_
        refine W_ret ?_
        refine ⟨_, ResL.of rfl, ?_, _, _, hdm2, hum2, rfl⟩
        rw [decide_eq_true h3, Bool.true_and]
        first
          | rfl
          | (rw [hbu]; rfl)
      · have hbu : b = uniqB T D u y := by
          cases h : lookM ((u : Int), (y : Int)) um with
          | none => rw [h] at h4; cases h4
          | some v =>
            rw [h, hum _ _ (lookM_mem h)] at hb
            have := hb
            simp only [Option.getD_some] at this
            cases this
            rfl
        have hum2 := hum
        obtain ⟨um1, hum1⟩ : ∃ z, z = um := ⟨_, rfl⟩
        subst hum1
        refine W_skip ?_
        refine W_cs (.a 2 rfl <| .k [6] rfl) ?_
        refine W_ren [0, 1, 2, 3, 4, 5] (.c 6 <| .nil) (.kept rfl (.row RenL.pure) <| .kept rfl (.row RenL.pure) <| .same (MemD.pure hdm2) rfl <| .same (MemU.pure hum2) rfl <| .kept rfl (.cells (RenL.c <| RenL.c <| RenL.c <| RenL.c <| RenL.c <| RenL.c <| RenL.c <| RenL.c <| RenL.c <| RenL.nil)) <| .same hx rfl <| .nil) rfl rfl ?_
        refine W_ret ?_
        refine ⟨_, ResL.of rfl, ?_, _, _, hdm2, hum2, rfl⟩
        rw [decide_eq_true h3, Bool.true_and]
        first
          | rfl
          | (rw [hbu]; rfl)
  · obtain ⟨v, hv1⟩ : ∃ v, lookM (y : Int) dm = some v := by
      cases h : lookM (y : Int) dm with
      | none => rw [h] at h1; cases h1
      | some v => exact ⟨v, rfl⟩
    have hlk : lookM (y : Int) dm = some (intsV (distL T D y false)) := by rw [hv1, hdm.look hv1]
    have hdm2 := hdm
    obtain ⟨dm1, hdm1⟩ : ∃ z, z = dm := ⟨_, rfl⟩
    subst hdm1
    refine W_skip ?_
    refine W_seq ?_
    refine W_drs mixed (by kernel_rfl) (.a 5 rfl <| .v [54, 55] (y_look keyI rfl mapI zvI rfl rfl rfl (keyRaw _) (by rw [hlk])) rfl rfl <| .a 1 rfl <| .v [56, 57] (y_ix (u) rfl) rfl rfl <| .v [58] (y_ld rfl (ints_get _ u (by omega))) rfl rfl <| .a 5 rfl <| .v [63, 64] (y_ix (j) rfl) rfl rfl <| .v [65] (y_ld rfl ((ints_get _ j (by omega)).trans (by rw [hkj]))) rfl rfl <| .a 5 rfl <| .v [70, 71] (y_ix (i) rfl) rfl rfl <| .v [72] (y_ld rfl ((ints_get _ i (by omega)).trans (by rw [hki]))) rfl rfl <| .v [66, 73] (y_ar rfl) rfl rfl <| .a 1 rfl <| .k [0, 7, 8, 75] rfl) ?_
    refine W_cond rfl (fun h2 => ?_) (fun h2 => ?_)
    · have h3 : dN T D y u ≠ costL T (p.take j) - costL T (p.take i) := tt h2
      refine W_cs (.a 1 rfl <| .k [6] rfl) ?_
      refine W_ret ?_
      refine ⟨_, ResL.of rfl, ?_, _, _, hdm2, hum, rfl⟩
      rw [decide_eq_false h3]
      rfl
    · have h3 : dN T D y u = costL T (p.take j) - costL T (p.take i) := Classical.byContradiction (ff h2)
      obtain ⟨b, hb⟩ : ∃ b : Bool, (lookM ((u : Int), (y : Int)) um).getD (.raw (.bool false)) = flag b := by
        cases h : lookM ((u : Int), (y : Int)) um with
        | none => exact ⟨false, rfl⟩
        | some v => exact ⟨_, hum _ _ (lookM_mem h)⟩
      refine W_skip ?_
      refine W_rs ?_
      refine WR_a 2 rfl <| WR_v (y_pair rfl rfl rfl (builtP _ _)) rfl <| WR_a 2 rfl <| WR_k [0, 7, 8, 9] rfl ?_
      refine W_sto (σ' := trk T D p (ndL T n p) (csL T p) dm1 um ++ [x, some (.cells 70 [num u, num y])]) rfl ?_
      refine W_drs mixed (by kernel_rfl) (.a 5 rfl <| .v [83, 84] (y_look2 keyP rfl mapP zvP rfl rfl rfl (keyAgg2 _ _) hb rfl) rfl rfl <| .a 5 rfl <| .k [0, 7, 8, 9, 10, 11] rfl) ?_
      refine W_seq ?_
      refine W_cs (.a 2 rfl <| .k [0, 7, 8, 9, 10, 89] rfl) ?_
      refine W_cond rfl (fun h4 => ?_) (fun h4 => ?_)
      · obtain ⟨um1, hum1⟩ : ∃ z, setM ((u : Int), (y : Int)) (flag (uniqB T D u y)) um = z := ⟨_, rfl⟩
        have hum2 : MemU T D um1 := by rw [← hum1]; exact hum.set u y
        refine W_drs mixed (by kernel_rfl) (.a 10 rfl <| .v [93, 97, 98, 99] (y_c rfl (unique_can T D u y h12)) rfl rfl <| .a 1 rfl <| .k [0, 9, 10] rfl) ?_
        refine W_drawFlt 6 8 mixed (
          .val [0] rfl (y_a rfl) rfl rfl <|
          .val [101] rfl (y_a rfl) rfl rfl <|
          .val [102] rfl (y_a rfl) rfl rfl <|
          .val [103] rfl (y_a rfl) rfl rfl <|
          .val [9] rfl (y_a rfl) rfl rfl <|
          .val [10] rfl (y_a rfl) rfl rfl <|
          .nil) (by kernel_rfl) rfl rfl (keepT_sub (ks := [10, 104, 105, 106]) rfl) ?_
        refine WR_loud0 (l_mapSet keyP (k := ((u : Int), (y : Int))) rfl mapP rfl rfl rfl (keyAgg2 (.int .i64 (u : Int)) (.int .i64 (y : Int))) rfl) rfl rfl <| WR_k [10] rfl ?_
        refine W_sto (σ' := trk T D p (ndL T n p) (csL T p) dm1 um1 ++ [x, some (.cells 70 [num u, num y])]) (by rw [← hum1]; rfl) ?_
        obtain ⟨b, hbu⟩ : ∃ b, b = uniqB T D u y := ⟨_, rfl⟩
        refine W_cs (.a 2 rfl <| .k [6] rfl) ?_
        refine W_ren [0, 1, 2, 3, 4, 5] (.c 6 <| .nil) (.kept rfl (.row RenL.pure) <| .kept rfl (.row RenL.pure) <| .same (MemD.pure hdm2) rfl <| .same (MemU.pure hum2) rfl <| .kept rfl (.cells (RenL.c <| RenL.c <| RenL.c <| RenL.c <| RenL.c <| RenL.c <| RenL.c <| RenL.c <| RenL.c <| RenL.nil)) <| .same hx rfl <| .nil) rfl rfl ?_
        refine W_ret ?_
        refine ⟨_, ResL.of rfl, ?_, _, _, hdm2, hum2, rfl⟩
        rw [decide_eq_true h3, Bool.true_and]
        first
          | rfl
          | (rw [hbu]; rfl)
      · have hbu : b = uniqB T D u y := by
          cases h : lookM ((u : Int), (y : Int)) um with
          | none => rw [h] at h4; cases h4
          | some v =>
            rw [h, hum _ _ (lookM_mem h)] at hb
            have := hb
            simp only [Option.getD_some] at this
            cases this
            rfl
        have hum2 := hum
        obtain ⟨um1, hum1⟩ : ∃ z, z = um := ⟨_, rfl⟩
        subst hum1
        refine W_skip ?_
        refine W_cs (.a 2 rfl <| .k [6] rfl) ?_
        refine W_ren [0, 1, 2, 3, 4, 5] (.c 6 <| .nil) (.kept rfl (.row RenL.pure) <| .kept rfl (.row RenL.pure) <| .same (MemD.pure hdm2) rfl <| .same (MemU.pure hum2) rfl <| .kept rfl (.cells (RenL.c <| RenL.c <| RenL.c <| RenL.c <| RenL.c <| RenL.c <| RenL.c <| RenL.c <| RenL.c <| RenL.nil)) <| .same hx rfl <| .nil) rfl rfl ?_
        refine W_ret ?_
        refine ⟨_, ResL.of rfl, ?_, _, _, hdm2, hum2, rfl⟩
        rw [decide_eq_true h3, Bool.true_and]
        first
          | rfl
          | (rw [hbu]; rfl)
end PW
end Go.Proofs.YtbpgndbjbaoolaaGreat

/- Lists of segments for a path, as plain mathematics; package encode's List. -/
namespace Go.Proofs.YtbpgndbjbaoolaaGreat
set_option linter.unusedVariables false
set_option linter.unusedSimpArgs false
namespace PW
open Go.RowKit Reg Mem Net

theorem segsP_snoc (l : List Seg) (e : Seg) : segsP l ++ segP e = segsP (l ++ [e]) := by simp [segsP]
theorem segsP_len (l : List Seg) : (segsP l).length = l.length * 2 := by
  induction l with
  | nil => rfl
  | cons a l ih => simp only [segsP, List.flatMap_cons, List.length_append, List.length_cons] at *; rw [ih]; simp [segP]; omega
/-- The greatest of the numbers i + 1 .. m with a property. -/
def topD (c : Nat → Bool) (i : Nat) : Nat → Option Nat
  | 0 => none
  | m + 1 => if m + 1 ≤ i then none else if c (m + 1) then some (m + 1) else topD c i m
theorem topD_some {c : Nat → Bool} {i j : Nat} (hij : i < j) (hc : c j = true) : ∀ m, j ≤ m → (∀ k, j < k → k ≤ m → c k = false) → topD c i m = some j
  | 0, h, _ => by omega
  | m + 1, h, hn => by
    unfold topD
    rw [if_neg (by omega)]
    by_cases e : j = m + 1
    · subst e; rw [if_pos hc]
    · rw [if_neg (by rw [hn (m + 1) (by omega) (by omega)]; simp)]
      exact topD_some hij hc m (by omega) (fun k h1 h2 => hn k h1 (by omega))
theorem topD_none {c : Nat → Bool} {i : Nat} : ∀ m, (∀ k, i < k → k ≤ m → c k = false) → topD c i m = none
  | 0, _ => rfl
  | m + 1, hn => by
    unfold topD
    by_cases e : m + 1 ≤ i
    · rw [if_pos e]
    · rw [if_neg e, if_neg (by rw [hn (m + 1) (by omega) (by omega)]; simp)]
      exact topD_none m (fun k h1 h2 => hn k h1 (by omega))
theorem topD_is {c : Nat → Bool} {i : Nat} : ∀ m j, topD c i m = some j → i < j ∧ j ≤ m ∧ c j = true ∧ ∀ k, j < k → k ≤ m → c k = false
  | 0, j, h => by cases h
  | m + 1, j, h => by
    unfold topD at h
    split at h
    · cases h
    · split at h
      · cases h; rename_i h1 h2; exact ⟨by omega, by omega, h2, fun k h3 h4 => by omega⟩
      · rename_i h1 h2
        obtain ⟨a, b, c1, d⟩ := topD_is m j h
        refine ⟨a, by omega, c1, fun k h3 h4 => ?_⟩
        by_cases e : k = m + 1
        · subst e; simpa using h2
        · exact d k h3 (by omega)
theorem topD_isNone {c : Nat → Bool} {i : Nat} : ∀ m, topD c i m = none → ∀ k, i < k → k ≤ m → c k = false
  | 0, _, k, h1, h2 => by omega
  | m + 1, h, k, h1, h2 => by
    unfold topD at h
    split at h
    · omega
    · split at h
      · cases h
      · rename_i h3 h4
        by_cases e : k = m + 1
        · subst e; simpa using h4
        · exact topD_isNone m h k h1 (by omega)
/-- The list of the part of a path from i on. -/
noncomputable def lstF (T : Topo) (D : List Bool) (n : Int) (p : List Int) : Nat → Nat → List Seg
  | 0, _ => []
  | f + 1, i => if i < p.length then (match topD (covB T D n p i) i p.length with
    | some j => ⟨1, endL T n (p.take j)⟩ :: lstF T D n p f j
    | none => ⟨2, p.getD i 0⟩ :: lstF T D n p f (i + 1)) else []
noncomputable def lstL (T : Topo) (D : List Bool) (n : Int) (p : List Int) : List Seg := lstF T D n p p.length 0
section
variable {T : Topo} {D : List Bool} {n : Int} {p : List Int}
theorem lst_end (f i : Nat) (h : p.length ≤ i) : lstF T D n p f i = [] := by
  cases f with
  | zero => rfl
  | succ f => simp only [lstF]; rw [if_neg (by omega)]
theorem lst_some {f i j : Nat} (hi : i < p.length) (hij : i < j) (hj : j ≤ p.length) (hc : covB T D n p i j = true) (hno : ∀ k, j < k → k ≤ p.length → covB T D n p i k = false) : lstF T D n p (f + 1) i = ⟨1, endL T n (p.take j)⟩ :: lstF T D n p f j := by
  simp only [lstF]
  rw [if_pos hi, topD_some hij hc p.length hj hno]
theorem lst_none {f i : Nat} (hi : i < p.length) (hno : ∀ k, i < k → k ≤ p.length → covB T D n p i k = false) : lstF T D n p (f + 1) i = ⟨2, p.getD i 0⟩ :: lstF T D n p f (i + 1) := by
  simp only [lstF]
  rw [if_pos hi, topD_none p.length hno]
theorem walk_take : ∀ {f : Bool} {x : Int} {l m : List Int}, walkE T f x (l ++ m) = 0 → walkE T f x l = 0 ∧ ∃ g, walkE T g (endL T x l) m = 0
  | f, x, [], m, h => ⟨rfl, f, h⟩
  | f, x, a :: l, m, h => by
    simp only [List.cons_append, walkE] at h ⊢
    split at h
    · omega
    · rename_i h1
      rw [if_neg h1]
      split at h
      · omega
      · rename_i h2
        rw [if_neg h2]
        exact walk_take h
theorem walk_ch (hv : validB T = true) : ∀ {f : Bool} {x : Nat} {l : List Int} {y : Nat}, walkE T f x l = 0 → (∀ a ∈ l, downN D a.toNat = false) → endL T x l = (y : Int) → Ch T D y x l
  | f, x, [], y, _, _, he => by
    have : y = x := by simp only [endL] at he; omega
    subst this
    exact .nil
  | f, x, a :: l, y, h, hd, he => by
    simp only [walkE] at h
    split at h
    · omega
    · rename_i h1
      split at h
      · omega
      · rename_i h2
        have hab : arcB T a = true := by simpa using h1
        obtain ⟨_, m, hm, hmN⟩ := arc_facts hv hab
        simp only [arcB, decide_eq_true_eq] at hab
        obtain ⟨b, rfl⟩ := Int.eq_ofNat_of_zero_le hab.1
        rw [Int.toNat_natCast] at hm
        simp only [endL, Int.toNat_natCast] at he h2 h
        rw [hm] at he h
        have hch := walk_ch hv h (fun c hc => hd c (by simp [hc])) he
        refine .cons (by omega) (Classical.byContradiction fun hn => h2 (.inl hn)) (hd b (by simp)) hm ?_ hch
        cases l with
        | nil => exact .inl rfl
        | cons c l =>
          right
          simp only [walkE] at h
          split at h
          · omega
          · split at h
            · omega
            · rename_i h4
              simp only [Int.toNat_natCast] at h4
              cases ho : overN T m with
              | false => rfl
              | true => exact absurd (.inr ⟨trivial, ho⟩) h4
/-- A path that is to be used. -/
structure Fol (T : Topo) (D : List Bool) (n : Int) (p : List Int) : Prop where
  valid : validB T = true
  fits : fitsB T D = true
  node : nodeB T n = true
  walk : walkE T true n p = 0
  up : ∀ a ∈ p, downN D a.toNat = false
theorem fol_of (h : folE T D n p = 0) : Fol T D n p := by
  unfold folE at h
  split at h
  · rename_i h1
    obtain ⟨hv, hf⟩ := Bool.and_eq_true_iff.1 h1
    split at h
    · rename_i h2
      obtain ⟨_, hn, hw⟩ := pathX_zero h2
      split at h
      · omega
      · rename_i h3
        exact ⟨hv, hf, hn, hw, fun a ha => by
          cases hd : downN D a.toNat with
          | false => rfl
          | true => exact absurd (List.any_eq_true.2 ⟨a, ha, hd⟩) h3⟩
    · omega
  · omega
theorem Fol.arcs (h : Fol T D n p) : ∀ a ∈ p, arcB T a = true := walk_arcs h.walk
/-- A part of the path. -/
def partL (p : List Int) (i j : Nat) : List Int := (p.drop i).take (j - i)
theorem take_part (p : List Int) {i j : Nat} (hij : i ≤ j) : p.take j = p.take i ++ partL p i j := by
  unfold partL
  have h : (p.take j) = (p.take j).take i ++ (p.take j).drop i := (List.take_append_drop i _).symm
  rw [h, List.take_take, Nat.min_eq_left hij, List.drop_take]
theorem part_len (p : List Int) {i j : Nat} (hij : i ≤ j) (hj : j ≤ p.length) : (partL p i j).length = j - i := by unfold partL; simp; omega
theorem Fol.ch (h : Fol T D n p) {i j u y : Nat} (hij : i ≤ j) (hj : j ≤ p.length) (hu : endL T n (p.take i) = (u : Int)) (hy : endL T n (p.take j) = (y : Int)) : Ch T D y u (partL p i j) := by
  have h1 : walkE T true n (p.take j) = 0 := (walk_take (l := p.take j) (m := p.drop j) (by rw [List.take_append_drop]; exact h.walk)).1
  rw [take_part p hij] at h1
  obtain ⟨_, g, hg⟩ := walk_take h1
  rw [hu] at hg
  refine walk_ch h.valid hg (fun a ha => h.up a ?_) ?_
  · exact List.mem_of_mem_drop (List.mem_of_mem_take ha)
  · rw [← hu, ← endL_append, ← take_part p hij]; exact hy
theorem part_cost (T : Topo) (p : List Int) {i j : Nat} (hij : i ≤ j) : costL T (p.take j) - costL T (p.take i) = costL T (partL p i j) := by
  rw [take_part p hij, costL_append]; omega
theorem cov_iff (h : Fol T D n p) {i j u y : Nat} (hij : i ≤ j) (hj : j ≤ p.length) (hu : endL T n (p.take i) = (u : Int)) (hy : endL T n (p.take j) = (y : Int)) : covB T D n p i j = true ↔ SP T D y u (partL p i j) ∧ cntS T D y u = 1 := by
  have hch := h.ch hij hj hu hy
  have ha := h.arcs
  obtain ⟨u', hu', huN⟩ := end_node h.valid h.node ha i (by omega)
  obtain ⟨y', hy', hyN⟩ := end_node h.valid h.node ha j hj
  have e1 : u' = u := by omega
  have e2 : y' = y := by omega
  subst e1
  subst e2
  have hne : nodeE T D (u' : Int) (y' : Int) = 0 := by
    unfold nodeE
    rw [if_pos (chk_of h.valid h.fits hyN), nodeB_iff.2 ⟨by omega, huN⟩]
    rfl
  unfold covB uniqB
  rw [hu, hy, Int.toNat_natCast, Int.toNat_natCast, part_cost T p hij, hne]
  simp only [decide_true, Bool.true_and, Bool.and_eq_true, decide_eq_true_eq]
  constructor
  · rintro ⟨h1, h2⟩; exact ⟨hch.sp h.valid hyN h1, h2⟩
  · rintro ⟨h1, h2⟩; exact ⟨(h1.cost h.valid hyN).1, h2⟩
theorem cov_far (h : Fol T D n p) {i j : Nat} (hij : i ≤ j) (hj : j ≤ p.length) (hc : covB T D n p i j = true) : (j : Int) - i < T.nodes := by
  have ha := h.arcs
  obtain ⟨u, hu, huN⟩ := end_node h.valid h.node ha i (by omega)
  obtain ⟨y, hy, hyN⟩ := end_node h.valid h.node ha j hj
  have := ((cov_iff h hij hj hu hy).1 hc).1.len_lt h.valid hyN
  rw [part_len p hij hj] at this
  omega
end
def segsE (e : Int) (l : List Seg) : PV := .tuple [segsV (if e = 0 then l else []), num e]
def srow (l : List Seg) : Option Blk := some (.row 53 2 l.length (segsP l))
theorem srow_pure (l : List Seg) : PureD (srow l) := fun b hb => by cases hb; exact (inferInstance : IsPureL (segsP l))
theorem follow_one (T : Topo) (D : List Bool) (p : List Int) (n : Int) (hp : p.length ≤ 1000) (hlk : T.links.length ≤ 256) : CanS Tryz.prog 149 [topoV T, boolsV D, intsV p, num n] [] (fun r σ' => ∃ x, r = .tuple [x, num (folE T D n p)] ∧ (folE T D n p = 0 → x = .ptr 4 0 ∧ σ' = trk T D p (ndL T n p) (csL T p) [] [])) :=
  CanS.mono (follow_can T D p n hp hlk) fun r σ' h => by
    rcases h with ⟨he, rfl⟩ | ⟨he, rfl, rfl⟩
    · exact ⟨_, rfl, fun h => absurd h he⟩
    · exact ⟨_, by rw [he], fun _ => ⟨rfl, rfl⟩⟩
set_option maxRecDepth 10000 in
set_option maxHeartbeats 2000000 in
theorem elist_can (T : Topo) (D : List Bool) (p : List Int) (n : Int) (hp : p.length ≤ 1000) (hlk : T.links.length ≤ 256) (h12 : T.nodes ≤ 12) : Can Tryz.prog 115 [topoV T, boolsV D, intsV p, num n] (· = segsE (folE T D n p) (lstL T D n p)) := by
  refine can_of Tryz.func115 rfl Tryz.ntmps115 rfl ?_
  refine W_cs (.a 3 rfl <| .k [1, 2, 3, 4] rfl) ?_
  refine W_scope ?_
  refine W_rs ?_
  refine WR_a 4 rfl <| WR_cS rfl rfl (CanS.mono (follow_one T D p n hp hlk) (fun r σ' h => ?_))
  obtain ⟨x, rfl, hx⟩ := h
  refine WR_a 5 rfl <| WR_k [2, 4, 10, 11] rfl ?_
  refine W_seq ?_
  refine W_cs (.a 2 rfl <| .k [2, 4, 10, 11, 24] rfl) ?_
  refine W_cond rfl (fun hc => ?_) (fun hc => ?_)
  · have he : folE T D n p ≠ 0 := tt hc
    refine W_cs (.a 3 rfl <| .k [8, 9] rfl) ?_
    refine W_ret ?_
    exact ⟨_, _, ResL.of rfl, Pur.tupleL (PurL.cons Pur.nils (PurL.cons Pur.pure PurL.nil)), by unfold segsE; rw [if_neg he]; rfl⟩
  · have he : folE T D n p = 0 := Classical.byContradiction (ff hc)
    obtain ⟨rfl, rfl⟩ := hx he
    have hF := fol_of he
    have hv := hF.valid
    have hS := sound_of hv
    have hN := hS.nodes
    have ha := hF.arcs
    obtain ⟨N, hNN⟩ : ∃ N : Nat, T.nodes = (N : Int) := ⟨T.nodes.toNat, by omega⟩
    rw [he]
    clear hc
    refine W_skip ?_
    refine W_cs (.a 1 rfl <| .k [2, 4, 10, 12] rfl) ?_
    refine W_adopt 12 53 2 rfl ?_
    refine W_cs (.a 1 rfl <| .k [2, 4, 10, 12, 13] rfl) ?_
    refine W_seq ?_
    refine W_label ?_
    refine W_seq ?_
    refine W_block ?_
    refine W_k [2, 4, 10, 12, 13] rfl ?_
    refine W_loop (fun r st => ∃ (l : List Seg) (i f : Nat) (dm : List (Int × PV)) (um : List ((Int × Int) × PV)), i ≤ p.length ∧ p.length - i ≤ f ∧ l.length ≤ i ∧ r = p.length - i ∧ lstL T D n p = l ++ lstF T D n p f i ∧ MemD T D dm ∧ MemU T D um ∧ st = ⟨[(2, intsV p), (4, .pin (topoP T) 0), (10, .ptr 4 0), (12, .own 5), (13, num i)], trk T D p (ndL T n p) (csL T p) dm um ++ [srow l]⟩) p.length ⟨[], 0, p.length, [], [], by omega, by omega, by simp, by omega, rfl, (fun _ _ h => by cases h), (fun _ _ h => by cases h), rfl⟩ ?_
    rintro r st ⟨l, i, f, dm, um, hi, hif, hli, rfl, hl, hdm, hum, rfl⟩
    refine W_seq ?_
    refine W_cs (.a 4 rfl <| .k [2, 4, 10, 12, 13, 29] rfl) ?_
    refine W_cond rfl (fun h1 => ?_) (fun h1 => ?_)
    · have hlt : i < p.length := by have := tt h1; omega
      refine W_skip ?_
      refine W_block ?_
      refine W_seq ?_
      obtain ⟨m, hm⟩ : ∃ m : Nat, min (p.length : Int) ((i : Int) + (N : Int) - 1) = (m : Int) := ⟨(min (p.length : Int) ((i : Int) + (N : Int) - 1)).toNat, by omega⟩
      have hfar : ∀ k, m < k → k ≤ p.length → covB T D n p i k = false := fun k h2 h3 => by
        cases hcv : covB T D n p i k with
        | false => rfl
        | true =>
          have := cov_far hF (i := i) (j := k) (by omega) h3 hcv
          omega
      refine W_cs (.a 4 rfl <| .v (y_ld rfl ((show some (num T.nodes) = some (num (N : Int)) by rw [hNN]))) rfl <| .v (y_ar rfl) rfl <| .v (y_ar rfl) rfl <| .v (y_min rfl rfl rfl (hm)) rfl <| .a 1 rfl <| .k [2, 4, 10, 12, 13, 14] rfl) ?_
      refine W_block ?_
      refine W_k [2, 4, 10, 12, 13, 14] rfl ?_
      refine W_loop (fun r st => ∃ (j : Nat) (dm : List (Int × PV)) (um : List ((Int × Int) × PV)), i ≤ j ∧ j ≤ p.length ∧ r = j ∧ (∀ k, j < k → k ≤ p.length → covB T D n p i k = false) ∧ MemD T D dm ∧ MemU T D um ∧ st = ⟨[(2, intsV p), (4, .pin (topoP T) 0), (10, .ptr 4 0), (12, .own 5), (13, num i), (14, num j)], trk T D p (ndL T n p) (csL T p) dm um ++ [srow l]⟩) m ⟨m, dm, um, by omega, by omega, rfl, hfar, hdm, hum, rfl⟩ ?_
      clear hdm hum
      rintro r st ⟨j, dm, um, hij, hj, rfl, hno, hdm, hum, rfl⟩
      refine W_seq ?_
      refine W_cs (.a 3 rfl <| .k [2, 4, 10, 12, 13, 14, 40] rfl) ?_
      refine W_cond rfl (fun h2 => ?_) (fun h2 => ?_)
      · have hlt2 : i < r := by have := tt h2; omega
        refine W_skip ?_
        refine W_seq ?_
        refine W_block ?_
        refine W_rs ?_
        refine WR_a 3 rfl <| WR_cS rfl rfl (CanS.mono (covered_can T D p n dm um (srow l) (srow_pure l) hv hF.fits h12 hF.node ha hp i r (by omega) hj hdm hum) (fun _ σ' h => ?_))
        obtain ⟨rfl, dm1, um1, hdm1, hum1, rfl⟩ := h
        refine WR_k [2, 4, 10, 12, 13, 14, 46] rfl ?_
        refine W_cond rfl (fun h3 => ?_) (fun h3 => ?_)
        · have hgj := ndL_get T n p r hj
          have hl1 := ndL_len T n p
          refine W_rs ?_
          refine WR_a 6 rfl <| WR_v (y_ix (r) rfl) rfl <| WR_v (y_ld rfl ((ints_get _ r (by omega)).trans (by rw [hgj]))) rfl <| WR_a 2 rfl <| WR_l (l_append rfl (fok.rk.get rfl) rfl rfl rfl rfl (by unfold maxLen; omega)) rfl <| WR_a 1 rfl ?_
          refine WR_ren [0, 1, 2, 3, 4, 6] (.c 2 <| .c 4 <| .c 10 <| .c 12 <| .c 14 <| .nil) (.kept rfl (.row RenL.pure) <| .kept rfl (.row RenL.pure) <| .same (MemD.pure hdm1) rfl <| .same (MemU.pure hum1) rfl <| .kept rfl (.cells (RenL.c <| RenL.c <| RenL.c <| RenL.c <| RenL.c <| RenL.c <| RenL.c <| RenL.c <| RenL.c <| RenL.nil)) <| .kept rfl (.rowP rfl (segsP_snoc _ ⟨1, endL T n (p.take r)⟩)) <| .nil) rfl rfl (WR_nil ?_)
          refine W_cs (.a 2 rfl <| .k [2, 4, 10, 12, 13] rfl) ?_
          refine W_exit ?_
          cases f with
          | zero => omega
          | succ f =>
            first
              | (refine ⟨p.length - r, by omega, l ++ [⟨1, endL T n (p.take r)⟩], r, f, dm1, um1, by omega, by omega, by simp; omega, rfl, ?_, hdm1, hum1, ?_⟩
                 · rw [hl, lst_some hlt hlt2 hj h3 hno, List.append_assoc]; rfl
                 · unfold srow; simp only [List.length_append, List.length_singleton]; rfl)
              | (refine ⟨p.length - (i + 1), by omega, l ++ [⟨2, p.getD i 0⟩], i + 1, f, dm, um, by omega, by omega, by simp; omega, rfl, ?_, hdm, hum, ?_⟩
                 · rw [hl, lst_none hlt hno2, List.append_assoc]; rfl
                 · unfold srow; simp only [List.length_append, List.length_singleton]; rfl)
        · skip
          refine W_skip ?_
          refine W_chain (.a 1 rfl <| .v (y_ar rfl) rfl <| .a 1 rfl <| .k [2, 4, 10, 12, 13, 14] rfl) ?_
          refine ⟨r - 1, by omega, r - 1, dm1, um1, by omega, by omega, rfl, fun k h4 h5 => ?_, hdm1, hum1, ?_⟩
          · by_cases e : k = r
            · rw [e]; exact h3
            · exact hno k (by omega) h5
          · rw [show ((r - 1 : Nat) : Int) = (r : Int) - 1 by omega]
      · have hno2 : ∀ k, i < k → k ≤ p.length → covB T D n p i k = false := fun k h3 h4 => hno k (by have := ff h2; omega) h4
        refine W_exit ?_
        refine W_rs ?_
        refine WR_a 3 rfl <| WR_v (y_ix (i) rfl) rfl <| WR_v (y_ld rfl (ints_get _ i hlt)) rfl <| WR_a 2 rfl <| WR_l (l_append rfl (fok.rk.get rfl) rfl rfl rfl rfl (by unfold maxLen; omega)) rfl <| WR_a 1 rfl ?_
        refine WR_ren [0, 1, 2, 3, 4, 6] (.c 2 <| .c 4 <| .c 10 <| .c 12 <| .c 13 <| .nil) (.kept rfl (.row RenL.pure) <| .kept rfl (.row RenL.pure) <| .same (MemD.pure hdm) rfl <| .same (MemU.pure hum) rfl <| .kept rfl (.cells (RenL.c <| RenL.c <| RenL.c <| RenL.c <| RenL.c <| RenL.c <| RenL.c <| RenL.c <| RenL.c <| RenL.nil)) <| .kept rfl (.rowP rfl (segsP_snoc _ ⟨2, p.getD i 0⟩)) <| .nil) rfl rfl (WR_nil ?_)
        refine W_chain (.a 1 rfl <| .v (y_ar rfl) rfl <| .a 1 rfl <| .k [2, 4, 10, 12, 13] rfl) ?_
        cases f with
        | zero => omega
        | succ f =>
          first
            | (refine ⟨p.length - r, by omega, l ++ [⟨1, endL T n (p.take r)⟩], r, f, dm1, um1, by omega, by omega, by simp; omega, rfl, ?_, hdm1, hum1, ?_⟩
               · rw [hl, lst_some hlt hlt2 hj h3 hno, List.append_assoc]; rfl
               · unfold srow; simp only [List.length_append, List.length_singleton]; rfl)
            | (refine ⟨p.length - (i + 1), by omega, l ++ [⟨2, p.getD i 0⟩], i + 1, f, dm, um, by omega, by omega, by simp; omega, rfl, ?_, hdm, hum, ?_⟩
               · rw [hl, lst_none hlt hno2, List.append_assoc]; rfl
               · unfold srow; simp only [List.length_append, List.length_singleton]; rfl)
    · have hie : i = p.length := by have := ff h1; omega
      rw [lst_end f i (by omega), List.append_nil] at hl
      refine W_exit ?_
      refine W_cs (.a 3 rfl <| .k [8, 9] rfl) ?_
      refine W_ret ?_
      exact ⟨_, _, ResL.of rfl, Pur.tupleL (PurL.cons (Pur.ownL rfl PurL.pure) (PurL.cons Pur.pure PurL.nil)), by unfold segsE; rw [if_pos rfl, hl]; rfl⟩
end PW
end Go.Proofs.YtbpgndbjbaoolaaGreat

/- Parts of covered parts are covered; the greedy list is the shortest. Plain mathematics. -/
namespace Go.Proofs.YtbpgndbjbaoolaaGreat
set_option linter.unusedVariables false
set_option linter.unusedSimpArgs false
namespace PW
open Go.RowKit Reg Mem Net
section
variable {T : Topo} {D : List Bool} {d : Nat}
/-- Where there is not only one shortest path, there are two. -/
theorem cnt_two (hv : validB T = true) (hd : (d : Int) < T.nodes) : ∀ (K m : Nat), (m : Int) < T.nodes → 0 ≤ dN T D d m → dN T D d m ≤ K → cntS T D d m ≠ 1 → ∃ p q, SP T D d m p ∧ SP T D d m q ∧ p ≠ q
  | K, m, hmN, h0, hK, hc => by
    by_cases hmd : m = d
    · subst hmd; exact absurd (cnt_self m) hc
    · obtain ⟨k, hk⟩ := next_ex (D := D) hv hmN hd hmd h0
      have hmem := next_of hk ((sound_of hv).cost k hk.arc).1
      cases hx : nextL T D m d with
      | nil => rw [hx] at hmem; cases hmem
      | cons a l =>
        obtain ⟨b, rfl, hb⟩ := next_mem (T := T) (D := D) (n := m) (d := d) (a := a) (by rw [hx]; simp)
        obtain ⟨x, hxh, hxN⟩ := head_nat hv hb.arc
        have gx := hb.dN hxh
        have cx := (sound_of hv).cost b hb.arc
        cases l with
        | nil =>
          cases K with
          | zero => omega
          | succ K =>
            have hcx : cntS T D d x ≠ 1 := fun h => hc (cnt_of_one hv hd hmN hmd hx hxh h)
            obtain ⟨p, q, h1, h2, h3⟩ := cnt_two hv hd K x hxN gx.1 (by omega) hcx
            exact ⟨b :: p, b :: q, .cons hb hxh h1, .cons hb hxh h2, fun e => h3 (List.cons.inj e).2⟩
        | cons a2 l =>
          obtain ⟨b2, rfl, hb2⟩ := next_mem (T := T) (D := D) (n := m) (d := d) (a := a2) (by rw [hx]; simp)
          obtain ⟨x2, hxh2, hxN2⟩ := head_nat hv hb2.arc
          have gx2 := hb2.dN hxh2
          refine ⟨b :: spathL T D x d, b2 :: spathL T D x2 d, .cons hb hxh (spath_sp hv hd hxN gx.1), .cons hb2 hxh2 (spath_sp hv hd hxN2 gx2.1), fun e => ?_⟩
          have he := (List.cons.inj e).1
          have hlt := next_sorted T D m d
          rw [hx] at hlt
          have := (List.pairwise_cons.1 hlt).1 (b2 : Int) (by simp)
          omega
/-- Paths one after the other. -/
theorem Ch.append {e n : Nat} {p q : List Int} (h : Ch T D e n p) (hq : Ch T D d e q) (ho : q = [] ∨ overN T e = false) : Ch T D d n (p ++ q) := by
  induction h with
  | nil => exact hq
  | @cons n a m p ha ht hu hm hov hp ih =>
    refine .cons ha ht hu hm ?_ ih
    rcases hov with h | h
    · subst h
      have := hp.to rfl
      subst this
      rcases ho with h | h
      · subst h; exact .inl rfl
      · exact .inr h
    · exact .inr h
/-- The end of a shortest path is one, and the only one if the whole is. -/
theorem SP.suffix (hv : validB T = true) (hd : (d : Int) < T.nodes) {e : Nat} : ∀ {n : Nat} {p q : List Int}, SP T D d n (p ++ q) → cntS T D d n = 1 → Ch T D e n p → SP T D d e q ∧ cntS T D d e = 1
  | n, [], q, h, hc, hch => by
    have := hch.to rfl
    subst this
    exact ⟨h, hc⟩
  | n, a :: p, q, h, hc, hch => by
    cases h with
    | @cons _ b m _ h1 hm hp =>
      cases hch with
      | @cons _ b2 m2 _ _ _ _ hm2 _ hch2 =>
        have : m2 = m := by rw [hm] at hm2; omega
        subst this
        obtain ⟨b3, h3, _, h4⟩ := cnt_one hv hd (h1.node hv) h1.ne hc
        have e1 := next_of h1 ((sound_of hv).cost b h1.arc).1
        rw [h3] at e1
        simp only [List.mem_singleton] at e1
        have : b3 = b := by omega
        subst this
        exact SP.suffix hv hd hp (h4 m2 hm) hch2
/-- The beginning of an only shortest path is one. -/
theorem SP.pre (hv : validB T = true) (hd : (d : Int) < T.nodes) {e n : Nat} {p q : List Int} (he : (e : Int) < T.nodes) (h : SP T D d n (p ++ q)) (hc : cntS T D d n = 1) (hp : Ch T D e n p) (hq : Ch T D d e q) (ho : q = [] ∨ overN T e = false) : SP T D e n p ∧ cntS T D e n = 1 := by
  have hcost := (h.cost hv hd).1
  rw [costL_append] at hcost
  have hle := hp.le hv he
  have hn := hp.node hv he
  have hspe : SP T D e n p := by
    refine hp.sp hv he ?_
    have hs := spath_sp hv he hn hle.1
    have hc2 := (hs.cost hv he).1
    have := ((hs.ch).append hq ho).le hv hd
    rw [costL_append] at this
    omega
  refine ⟨hspe, Classical.byContradiction fun h1 => ?_⟩
  obtain ⟨p1, p2, g1, g2, g3⟩ := cnt_two hv he (dN T D e n).toNat n hn hle.1 (by omega) h1
  have key : ∀ r, SP T D e n r → SP T D d n (r ++ q) := fun r hr => by
    refine ((hr.ch).append hq ho).sp hv hd ?_
    rw [costL_append, hcost, ← (hr.cost hv he).1, (hspe.cost hv he).1]
  have := (key p1 g1).unique hv hd (key p2 g2) hc
  exact g3 (List.append_cancel_right this)
theorem Ch.mid {e : Nat} : ∀ {n : Nat} {p q : List Int}, Ch T D d n (p ++ q) → p ≠ [] → Ch T D e n p → q = [] ∨ overN T e = false
  | n, [], q, _, h, _ => absurd rfl h
  | n, a :: p, q, h, _, hch => by
    cases h with
    | @cons _ b m _ _ _ _ hm hov hp =>
      cases hch with
      | @cons _ b2 m2 _ _ _ _ hm2 _ hch2 =>
        have : m2 = m := by rw [hm] at hm2; omega
        subst this
        cases p with
        | nil =>
          have := hch2.to rfl
          subst this
          exact hov
        | cons c p => exact Ch.mid hp (by simp) hch2
variable {n : Int} {p : List Int}
theorem part_split (p : List Int) {i j k : Nat} (h1 : i ≤ j) (h2 : j ≤ k) : partL p i k = partL p i j ++ partL p j k := by
  have e1 := take_part p (show i ≤ k by omega)
  have e2 := take_part p h2
  rw [take_part p h1, List.append_assoc] at e2
  rw [e1] at e2
  exact List.append_cancel_left e2
theorem cov_sub (h : Fol T D n p) {i j i' j' : Nat} (h1 : i ≤ i') (h2 : i' < j') (h3 : j' ≤ j) (hj : j ≤ p.length) (hc : covB T D n p i j = true) : covB T D n p i' j' = true := by
  have ha := h.arcs
  have hv := h.valid
  obtain ⟨u, hu, huN⟩ := end_node hv h.node ha i (by omega)
  obtain ⟨y, hy, hyN⟩ := end_node hv h.node ha j hj
  obtain ⟨u', hu', huN'⟩ := end_node hv h.node ha i' (by omega)
  obtain ⟨y', hy', hyN'⟩ := end_node hv h.node ha j' (by omega)
  obtain ⟨c1, c2⟩ := (cov_iff h (by omega) hj hu hy).1 hc
  rw [part_split p h1 (show i' ≤ j by omega)] at c1
  obtain ⟨c3, c4⟩ := c1.suffix hv hyN c2 (h.ch h1 (by omega) hu hu')
  rw [part_split p (show i' ≤ j' by omega) h3] at c3
  have hp := h.ch (show i' ≤ j' by omega) (by omega) hu' hy'
  have hq := h.ch h3 hj hy' hy
  have ho := c3.ch.mid (e := y') (by
    intro e
    have := part_len p (show i' ≤ j' by omega) (by omega)
    rw [e] at this
    simp at this
    omega) hp
  exact (cov_iff h (by omega) (by omega) hu' hy').2 (c3.pre hv hyN hyN' c4 hp hq ho)
end
end PW
end Go.Proofs.YtbpgndbjbaoolaaGreat

/- The reference of layer 20: Check, Covers, List. -/
namespace Go.Proofs.YtbpgndbjbaoolaaGreat
set_option linter.unusedVariables false
set_option linter.unusedSimpArgs false
namespace PW
open Go.RowKit Reg Mem Net

section
variable {T : Topo} {D : List Bool} {n : Int} {p : List Int}
theorem part_mem {i k : Nat} {a : Int} (h : a ∈ partL p i k) : a ∈ p := List.mem_of_mem_drop (List.mem_of_mem_take h)
theorem part_tail (h : Fol T D n p) {i : Nat} (hi : i < p.length) {x : Nat} (hx : endL T n (p.take i) = (x : Int)) : tailN T (p.getD i 0).toNat = (x : Int) := by
  have ha := h.arcs
  obtain ⟨y, hy, hyN⟩ := end_node h.valid h.node ha (i + 1) hi
  have hch := h.ch (i := i) (j := i + 1) (by omega) hi hx hy
  have hp : partL p i (i + 1) = [p.getD i 0] := by
    unfold partL
    rw [drop_cons p i hi, show i + 1 - i = 1 by omega]
    rfl
  rw [hp] at hch
  generalize p.getD i 0 = a at hch
  cases hch with
  | cons _ h2 _ _ _ _ => exact h2
end
section
variable {T : Topo} {D : List Bool} {n : Int} {p : List Int}
end
end PW
end Go.Proofs.YtbpgndbjbaoolaaGreat

/- The ends of segments: package segment's Valid, End, the reference's. -/
namespace Go.Proofs.YtbpgndbjbaoolaaGreat
set_option linter.unusedVariables false
set_option linter.unusedSimpArgs false
namespace PW
open Go.RowKit Reg Mem Net

/-- The end of a segment from a node of a valid topology, or the error. -/
def endS (T : Topo) (s : Seg) (n : Int) : Int × Int := if segB T s = false then (0, 1) else if nodeB T n = false then (0, 2) else if s.kind = 1 then (s.num, 0) else if s.kind = 2 then (if tailN T s.num.toNat ≠ n then (0, 4) else (headN T s.num.toNat, 0)) else (0, 7)
/-- The ends of a list of segments from a node, or the first error. -/
def endsL (T : Topo) : Int → List Seg → List Int × Int
  | _, [] => ([], 0)
  | n, s :: l => if (endS T s n).2 ≠ 0 then ([], (endS T s n).2) else ((endS T s n).1 :: (endsL T (endS T s n).1 l).1, (endsL T (endS T s n).1 l).2)
end PW
end Go.Proofs.YtbpgndbjbaoolaaGreat

/- Exact lists and expansions, as plain mathematics. -/
namespace Go.Proofs.YtbpgndbjbaoolaaGreat
set_option linter.unusedVariables false
set_option linter.unusedSimpArgs false
namespace PW
open Go.RowKit Reg Mem Net

/-- The first index from i on whose node is x, or the last index. -/
def fstJ (T : Topo) (n : Int) (p : List Int) (x : Int) : Nat → Nat → Nat
  | 0, i => i
  | f + 1, i => if endL T n (p.take i) = x then i else fstJ T n p x f (i + 1)
/-- Where a segment leads from i. -/
noncomputable def stepX (T : Topo) (D : List Bool) (n : Int) (p : List Int) (i : Nat) (s : Seg) : Option Nat :=
  if s.kind = 2 ∧ i < p.length ∧ p.getD i 0 = s.num then some (i + 1)
  else if s.kind = 1 then (if endL T n (p.take (fstJ T n p s.num (p.length - i) i)) = s.num ∧ covB T D n p i (fstJ T n p s.num (p.length - i) i) = true then some (fstJ T n p s.num (p.length - i) i) else none)
  else none
/-- Whether a list is exact for the path from i on. -/
noncomputable def exB (T : Topo) (D : List Bool) (n : Int) (p : List Int) : Nat → List Seg → Bool
  | i, [] => decide (i = p.length)
  | i, s :: l => match stepX T D n p i s with
    | some j => exB T D n p j l
    | none => false
/-- The path of a list from a node, or the error. -/
noncomputable def expL (T : Topo) (D : List Bool) : Int → List Seg → Int × List Int
  | _, [] => (0, [])
  | x, s :: l => if s.kind = 2 then (if downN D s.num.toNat = true then (7, []) else ((expL T D (endS T s x).1 l).1, s.num :: (expL T D (endS T s x).1 l).2))
    else if spE T D x (endS T s x).1 ≠ 0 then (spE T D x (endS T s x).1, [])
    else if uniqB T D x (endS T s x).1 = false then (9, [])
    else ((expL T D (endS T s x).1 l).1, spathL T D x.toNat (endS T s x).1.toNat ++ (expL T D (endS T s x).1 l).2)
section
variable {T : Topo} {D : List Bool} {n : Int} {p : List Int}
theorem fst_ge (x : Int) : ∀ f i, i ≤ fstJ T n p x f i ∧ fstJ T n p x f i ≤ i + f
  | 0, i => by simp [fstJ]
  | f + 1, i => by
    simp only [fstJ]
    split
    · omega
    · have := fst_ge x f (i + 1); omega
theorem fst_no (x : Int) : ∀ f i k, i ≤ k → k < fstJ T n p x f i → endL T n (p.take k) ≠ x
  | 0, i, k, h1, h2 => by simp only [fstJ] at h2; omega
  | f + 1, i, k, h1, h2 => by
    simp only [fstJ] at h2
    split at h2
    · omega
    · rename_i h3
      by_cases e : k = i
      · subst e; exact h3
      · exact fst_no x f (i + 1) k (by omega) h2
theorem fst_is (x : Int) : ∀ f i j, i ≤ j → j ≤ i + f → endL T n (p.take j) = x → (∀ k, i ≤ k → k < j → endL T n (p.take k) ≠ x) → fstJ T n p x f i = j
  | 0, i, j, h1, h2, _, _ => by simp only [fstJ]; omega
  | f + 1, i, j, h1, h2, h3, h4 => by
    simp only [fstJ]
    by_cases e : i = j
    · subst e; rw [if_pos h3]
    · rw [if_neg (h4 i (Nat.le_refl _) (by omega))]
      exact fst_is x f (i + 1) j (by omega) (by omega) h3 (fun k h5 h6 => h4 k (by omega) h6)
theorem Ch.fin {d : Nat} {m : Nat} {q : List Int} (h : Ch T D d m q) : endL T (m : Int) q = (d : Int) := by
  induction h with
  | nil => rfl
  | @cons n a m p ha ht hu hm ho hp ih => simp only [endL, Int.toNat_natCast, hm]; exact ih
/-- A covered part ends where its end's node is met first. -/
theorem cov_first (h : Fol T D n p) {i j : Nat} (hij : i ≤ j) (hj : j ≤ p.length) (hc : covB T D n p i j = true) : fstJ T n p (endL T n (p.take j)) (p.length - i) i = j := by
  have ha := h.arcs
  have hv := h.valid
  refine fst_is _ _ _ _ hij (by omega) rfl fun k h1 h2 he => ?_
  obtain ⟨u, hu, huN⟩ := end_node hv h.node ha i (by omega)
  obtain ⟨y, hy, hyN⟩ := end_node hv h.node ha j hj
  obtain ⟨z, hz, hzN⟩ := end_node hv h.node ha k (by omega)
  have hzy : z = y := by omega
  subst hzy
  obtain ⟨c1, c2⟩ := (cov_iff h hij hj hu hy).1 hc
  rw [part_split p h1 (show k ≤ j by omega)] at c1
  obtain ⟨c3, c4⟩ := c1.suffix hv hyN c2 (h.ch h1 (by omega) hu hz)
  have := c3.self
  have hl := part_len p (show k ≤ j by omega) hj
  rw [this] at hl
  simp at hl
  omega
theorem spE_zero {x y : Nat} (hv : validB T = true) (hf : fitsB T D = true) (hx : (x : Int) < T.nodes) (hy : (y : Int) < T.nodes) : spE T D x y = if dN T D y x < 0 then 11 else 0 := by
  have hne : nodeE T D (x : Int) (y : Int) = 0 := by
    unfold nodeE
    rw [if_pos (chk_of hv hf hy), nodeB_iff.2 ⟨by omega, hx⟩]
    rfl
  unfold spE; rw [if_pos hne]; simp only [Int.toNat_natCast]
theorem uniq_iff {x y : Nat} (hv : validB T = true) (hf : fitsB T D = true) (hx : (x : Int) < T.nodes) (hy : (y : Int) < T.nodes) : uniqB T D x y = true ↔ cntS T D y x = 1 := by
  have hne : nodeE T D (x : Int) (y : Int) = 0 := by
    unfold nodeE
    rw [if_pos (chk_of hv hf hy), nodeB_iff.2 ⟨by omega, hx⟩]
    rfl
  unfold uniqB
  rw [hne]
  simp
/-- A part that is covered is the shortest path, and the other way round. -/
theorem cov_sp (h : Fol T D n p) {i j x y : Nat} (hij : i ≤ j) (hj : j ≤ p.length) (hx : endL T n (p.take i) = (x : Int)) (hy : endL T n (p.take j) = (y : Int)) : covB T D n p i j = true ↔ spE T D x y = 0 ∧ uniqB T D x y = true ∧ spathL T D x y = partL p i j := by
  have ha := h.arcs
  have hv := h.valid
  obtain ⟨x', hx', hxN⟩ := end_node hv h.node ha i (by omega)
  obtain ⟨y', hy', hyN⟩ := end_node hv h.node ha j hj
  have e1 : x' = x := by omega
  have e2 : y' = y := by omega
  subst e1
  subst e2
  rw [cov_iff h hij hj hx hy, spE_zero hv h.fits hxN hyN, uniq_iff hv h.fits hxN hyN]
  constructor
  · rintro ⟨h1, h2⟩
    have h0 := (h1.cost hv hyN).2
    exact ⟨by rw [if_neg (by omega)], h2, (spath_sp hv hyN hxN h0).unique hv hyN h1 h2⟩
  · rintro ⟨h1, h2, h3⟩
    have h0 : 0 ≤ dN T D y' x' := by
      split at h1
      · omega
      · omega
    exact ⟨by rw [← h3]; exact spath_sp hv hyN hxN h0, h2⟩
/-- The list of the path is exact. -/
theorem ex_lst (h : Fol T D n p) : ∀ (f i : Nat), i ≤ p.length → p.length - i ≤ f → exB T D n p i (lstF T D n p f i) = true
  | f, i, hi, hf => by
    by_cases hlt : i < p.length
    · cases f with
      | zero => omega
      | succ f =>
        cases ht : topD (covB T D n p i) i p.length with
        | none =>
          rw [lst_none hlt (fun k h1 h2 => topD_isNone _ ht k h1 h2)]
          simp only [exB]
          have hst : stepX T D n p i ⟨2, p.getD i 0⟩ = some (i + 1) := by unfold stepX; rw [if_pos ⟨rfl, hlt, rfl⟩]
          rw [hst]
          exact ex_lst h f (i + 1) (by omega) (by omega)
        | some j =>
          obtain ⟨t1, t2, t3, t4⟩ := topD_is _ _ ht
          rw [lst_some hlt t1 t2 t3 t4]
          simp only [exB]
          have hst : stepX T D n p i ⟨1, endL T n (p.take j)⟩ = some j := by
            unfold stepX
            simp only
            rw [if_neg (by omega), if_pos trivial, cov_first h (by omega) t2 t3, if_pos ⟨rfl, t3⟩]
          rw [hst]
          exact ex_lst h f j t2 (by omega)
    · rw [lst_end f i (by omega)]
      simp only [exB, decide_eq_true_eq]
      omega
theorem lst_len : ∀ f i, (lstF T D n p f i).length ≤ f := fun f => by
  induction f with
  | zero => intro i; simp [lstF]
  | succ f ih =>
    intro i
    simp only [lstF]
    split
    · split
      · have := ih ‹Nat›; simp only [List.length_cons]; omega
      · have := ih (i + 1); simp only [List.length_cons]; omega
    · simp
theorem fol_zero (h : Fol T D n p) : folE T D n p = 0 := by
  unfold folE
  have h2 : pathX T n p = 0 := by unfold pathX; rw [if_pos h.valid, if_pos h.node]; exact h.walk
  rw [if_pos (by rw [h.valid, h.fits]; rfl), if_pos h2, if_neg]
  intro e
  obtain ⟨x, h3, h4⟩ := List.any_eq_true.1 e
  rw [h.up x h3] at h4
  cases h4
end
end PW
end Go.Proofs.YtbpgndbjbaoolaaGreat

/- Stable segments: package stable, the reference of layer 28. -/
namespace Go.Proofs.YtbpgndbjbaoolaaGreat
set_option linter.unusedVariables false
set_option linter.unusedSimpArgs false
namespace PW
open Go.RowKit Reg Mem Net

/-- No arc of a path is down. -/
def clearB (D : List Bool) (q : List Int) : Bool := !q.any fun a => downN D a.toNat
theorem clear_iff {D : List Bool} {q : List Int} : clearB D q = true ↔ ∀ a ∈ q, downN D a.toNat = false := by
  unfold clearB
  rw [Bool.not_eq_true', List.any_eq_false]
  constructor
  · intro h a ha
    have := h a ha
    simpa using this
  · intro h a ha
    rw [h a ha]
    simp
theorem clear_no {D : List Bool} {q : List Int} {a : Int} (ha : a ∈ q) (h : downN D a.toNat = true) : clearB D q = false := by
  unfold clearB
  rw [Bool.not_eq_false', List.any_eq_true]
  exact ⟨a, ha, h⟩
set_option maxRecDepth 10000 in
set_option maxHeartbeats 1000000 in
theorem up_can (T : Topo) (D : List Bool) (q : List Int) (hf : fitsB T D = true) (ha : ∀ a ∈ q, arcB T a = true) (hq : q.length ≤ 1000) : Can Tryz.prog 148 [boolsV D, intsV q] (· = flag (clearB D q)) := by
  refine can_of Tryz.func148 rfl Tryz.ntmps148 rfl ?_
  refine W_cs (.a 1 rfl <| .k [0, 1] rfl) ?_
  refine W_seq ?_
  refine W_cs (.a 3 rfl <| .k [0, 7, 8, 9] rfl) ?_
  refine W_block ?_
  refine W_k [0, 7, 8, 9] rfl ?_
  refine W_loop (fun r st => ∃ k : Nat, k ≤ q.length ∧ r = q.length - k ∧ (∀ a ∈ q.take k, downN D a.toNat = false) ∧ st = ⟨[(0, boolsV D), (7, intsV q), (8, num q.length), (9, num k)], []⟩) q.length ⟨0, by omega, by omega, by simp, rfl⟩ ?_
  rintro r st ⟨k, hk, rfl, hdn, rfl⟩
  refine W_cs (.a 1 rfl <| .k [0, 7, 8, 9, 10] rfl) ?_
  refine W_seq ?_
  refine W_cond rfl (fun hy => ?_) (fun hy => ?_)
  · have hlt : k < q.length := by have := tt hy; omega
    have hmem := getD_mem (d := 0) hlt
    have hab := ha _ hmem
    simp only [arcB, decide_eq_true_eq] at hab
    obtain ⟨a, hae⟩ : ∃ a : Nat, q.getD k 0 = (a : Int) := ⟨(q.getD k 0).toNat, by omega⟩
    have hD : D.length = 0 ∨ a < D.length := by simp only [fitsB, decide_eq_true_eq] at hf; omega
    refine W_skip ?_
    refine W_seq ?_
    refine W_block ?_
    refine W_cs (.v (y_ix (k) rfl) rfl <| .v (y_ld rfl ((ints_get q k hlt).trans (by rw [hae]))) rfl <| .a 1 rfl <| .k [0, 6, 7, 8, 9] rfl) ?_
    refine W_cs (.a 2 rfl <| .c rfl (down_can D a hD) rfl <| .k [0, 7, 8, 9, 15] rfl) ?_
    refine W_cond rfl (fun hz => ?_) (fun hz => ?_)
    · have he := clear_no (D := D) hmem (by rw [hae]; exact hz)
      refine W_cs (.a 1 rfl <| .k [4] rfl) ?_
      refine W_ret ?_
      exact ⟨_, _, ResL.of rfl, Pur.pure, by rw [he]; rfl⟩
    · skip
      refine W_skip ?_
      refine W_chain (.v (y_ar rfl) rfl <| .a 1 rfl <| .k [0, 7, 8, 9] rfl) ?_
      refine ⟨q.length - (k + 1), by omega, k + 1, by omega, rfl, fun x hx => ?_, rfl⟩
      rw [take_step q k 0 hlt] at hx
      rcases List.mem_append.1 hx with h | h
      · exact hdn x h
      · simp only [List.mem_singleton] at h; rw [h, hae]; exact hz
  · have hke : k = q.length := by have := ff hy; omega
    subst hke
    rw [List.take_length] at hdn
    refine W_exit ?_
    refine W_cs (.a 1 rfl <| .k [4] rfl) ?_
    refine W_ret ?_
    exact ⟨_, _, ResL.of rfl, Pur.pure, by rw [clear_iff.2 hdn]; rfl⟩
theorem fol_path {T : Topo} {D : List Bool} {n : Int} {p : List Int} (hvf : (validB T && fitsB T D) = true) (h : pathX T n p ≠ 0) : folE T D n p = pathX T n p := by unfold folE; rw [if_pos hvf, if_neg h]
theorem fol_clear {T : Topo} {D : List Bool} {n : Int} {p : List Int} (hvf : (validB T && fitsB T D) = true) (h : pathX T n p = 0) : folE T D n p = if clearB D p = true then 0 else 7 := by
  unfold folE clearB
  rw [if_pos hvf, if_pos h]
  cases p.any fun a => downN D a.toNat <;> rfl
set_option maxRecDepth 10000 in
set_option maxHeartbeats 1000000 in
theorem scheck_can (T : Topo) (D : List Bool) (p : List Int) (n : Int) (hp : p.length ≤ 1000) (hlk : T.links.length ≤ 256) : Can Tryz.prog 114 [topoV T, boolsV D, intsV p, num n] (· = num (folE T D n p)) := by
  obtain ⟨q1, hq1⟩ : ∃ q, validB T = q := ⟨_, rfl⟩
  obtain ⟨q2, hq2⟩ : ∃ q, fitsB T D = q := ⟨_, rfl⟩
  refine can_of Tryz.func114 rfl Tryz.ntmps114 rfl ?_
  refine W_cs (.a 2 rfl <| .k [1, 2, 3, 4] rfl) ?_
  refine W_seq ?_
  refine W_csK 20 (.raw (.bool ((!q1) || !q2))) [1, 2, 3, 4] rfl ?_ ?_
  · refine .a 1 rfl <| .c rfl (hq1 ▸ valid_can T) rfl <| .a 2 rfl <| ?_
    cases q1
    · exact .a 5 rfl <| .k [20, 1, 2, 3, 4] rfl
    · exact .a 2 rfl <| .c rfl (hq2 ▸ fits_can T D (by omega)) rfl <| .a 2 rfl <| .k [20, 1, 2, 3, 4] rfl
  refine W_cond rfl (fun hc => ?_) (fun hc => ?_)
  · have he : folE T D n p = 1 := by unfold folE; rw [hq1, hq2]; cases q1 <;> cases q2 <;> first | rfl | cases hc
    refine W_cs (.a 1 rfl <| .k [8] rfl) ?_
    refine W_ret ?_
    exact ⟨_, _, ResL.of rfl, Pur.pure, by rw [he]; rfl⟩
  · have hv : validB T = true := by rw [hq1]; cases q1; cases hc; rfl
    have hf : fitsB T D = true := by rw [hq2]; cases q2; cases q1 <;> cases hc; rfl
    have hvf : (validB T && fitsB T D) = true := by rw [hv, hf]; rfl
    refine W_skip ?_
    refine W_seq ?_
    refine W_cs (.a 3 rfl <| .c rfl (path_can T n p (by omega)) rfl <| .a 7 rfl <| .k [1, 2, 11] rfl) ?_
    refine W_cs (.a 2 rfl <| .k [1, 2, 11, 30] rfl) ?_
    refine W_cond rfl (fun hx => ?_) (fun hx => ?_)
    · have hx1 : pathX T n p ≠ 0 := tt hx
      refine W_cs (.a 2 rfl <| .k [8] rfl) ?_
      refine W_ret ?_
      exact ⟨_, _, ResL.of rfl, Pur.pure, by rw [fol_path hvf hx1]; rfl⟩
    · have hx1 : pathX T n p = 0 := Classical.byContradiction (ff hx)
      obtain ⟨_, hn, hw⟩ := pathX_zero hx1
      have ha := walk_arcs hw
      rw [fol_clear hvf hx1]
      refine W_skip ?_
      refine W_seq ?_
      refine W_cs (.a 2 rfl <| .c rfl (up_can T D p hf ha hp) rfl <| .a 1 rfl <| .k [35] rfl) ?_
      refine W_cond rfl (fun hy => ?_) (fun hy => ?_)
      · have hy1 : clearB D p = false := by simpa using hy
        refine W_cs (.a 1 rfl <| .k [8] rfl) ?_
        refine W_ret ?_
        exact ⟨_, _, ResL.of rfl, Pur.pure, by rw [hy1]; rfl⟩
      · have hy1 : clearB D p = true := by simpa using hy
        refine W_skip ?_
        refine W_cs (.a 1 rfl <| .k [8] rfl) ?_
        refine W_ret ?_
        exact ⟨_, _, ResL.of rfl, Pur.pure, by rw [hy1]; rfl⟩
section
variable {T : Topo} {D : List Bool} {n : Int} {p : List Int}
theorem fits_nil (T : Topo) : fitsB T [] = true := by simp [fitsB]
theorem Fol.bare (h : Fol T D n p) : Fol T [] n p := ⟨h.valid, fits_nil T, h.node, h.walk, fun a _ => by simp [downN]⟩
theorem folB {n : Int} {p : List Int} (h : folE T D n p = 0) : folE T [] n p = 0 := fol_zero (fol_of h).bare
end
set_option maxRecDepth 10000 in
set_option maxHeartbeats 1000000 in
theorem slist_can (T : Topo) (D : List Bool) (p : List Int) (n : Int) (hp : p.length ≤ 1000) (hlk : T.links.length ≤ 256) (h12 : T.nodes ≤ 12) : Can Tryz.prog 72 [topoV T, boolsV D, intsV p, num n] (· = segsE (folE T D n p) (lstL T [] n p)) := by
  refine can_of Tryz.func72 rfl Tryz.ntmps72 rfl ?_
  refine W_cs (.a 3 rfl <| .k [1, 2, 3, 4] rfl) ?_
  refine W_seq ?_
  refine W_cs (.a 4 rfl <| .c rfl (scheck_can T D p n hp hlk) rfl <| .a 1 rfl <| .k [2, 3, 4, 10] rfl) ?_
  refine W_cs (.a 2 rfl <| .k [2, 3, 4, 10, 17] rfl) ?_
  refine W_cond rfl (fun hc => ?_) (fun hc => ?_)
  · have he : folE T D n p ≠ 0 := tt hc
    refine W_cs (.a 3 rfl <| .k [8, 9] rfl) ?_
    refine W_ret ?_
    exact ⟨_, _, ResL.of rfl, Pur.tupleL (PurL.cons Pur.nils (PurL.cons Pur.pure PurL.nil)), by unfold segsE; rw [if_neg he]; rfl⟩
  · have he : folE T D n p = 0 := Classical.byContradiction (ff hc)
    have hl := elist_can T [] p n hp hlk h12
    rw [folB he] at hl
    rw [he]
    refine W_skip ?_
    refine W_cs (.a 3 rfl <| .v (y_cP rfl (PurL.cons Pur.pure <| PurL.cons Pur.nils <| PurL.cons Pur.pure <| PurL.cons Pur.pure PurL.nil) (hl)) rfl <| .a 4 rfl <| .k [8, 9] rfl) ?_
    refine W_ret ?_
    exact ⟨_, _, ResL.of rfl, Pur.pure, rfl⟩
end PW
end Go.Proofs.YtbpgndbjbaoolaaGreat

/- Package encode's Exact, walked. -/
namespace Go.Proofs.YtbpgndbjbaoolaaGreat
set_option linter.unusedVariables false
set_option linter.unusedSimpArgs false
namespace PW
open Go.RowKit Reg Mem Net

def onlyQ (K : St → Prop) : Exit → St → Prop
  | .normal, s => K s
  | _, _ => False
theorem W_seqM {P : Program} {N L : Nat} {x y : Code} {st : St} {Q : Exit → St → Prop} {Q1 : St → Prop} (h : W P N L x st (onlyQ Q1)) (k : ∀ s, Q1 s → W P N L y s Q) : W P N L (.seq x y) st Q :=
  W_seq (h.mono fun e s hq => by
    cases e <;> first | exact k s hq | exact hq.elim)
section
variable {T : Topo} {D : List Bool} {n : Int} {p : List Int}
end
end PW
end Go.Proofs.YtbpgndbjbaoolaaGreat

/- Expansions of lists: package encode's Expand, the reference's Expand and Exact. -/
namespace Go.Proofs.YtbpgndbjbaoolaaGreat
set_option linter.unusedVariables false
set_option linter.unusedSimpArgs false
namespace PW
open Go.RowKit Reg Mem Net

section
variable {T : Topo} {D : List Bool}
theorem Ch.arcs {d m : Nat} {q : List Int} (h : Ch T D d m q) : ∀ a ∈ q, arcB T a = true := by
  induction h with
  | nil => intro a ha; cases ha
  | @cons n a m p ha ht hu hm ho hp ih =>
    intro b hb
    rcases List.mem_cons.1 hb with rfl | hb
    · exact arcB_iff.2 ⟨by omega, by omega⟩
    · exact ih b hb
theorem spE_facts {x y : Int} (h : spE T D x y = 0) : ∃ a b : Nat, x = (a : Int) ∧ y = (b : Int) ∧ (a : Int) < T.nodes ∧ (b : Int) < T.nodes ∧ validB T = true ∧ SP T D b a (spathL T D x.toNat y.toNat) := by
  unfold spE at h
  split at h
  · rename_i he
    obtain ⟨hv, hf, hn, hd⟩ := nodeE_zero he
    rw [nodeB_iff] at hn hd
    obtain ⟨a, rfl⟩ := Int.eq_ofNat_of_zero_le hn.1
    obtain ⟨b, rfl⟩ := Int.eq_ofNat_of_zero_le hd.1
    refine ⟨a, b, rfl, rfl, hn.2, hd.2, hv, ?_⟩
    simp only [Int.toNat_natCast] at h ⊢
    exact spath_sp hv hd.2 hn.2 (by split at h <;> omega)
  · rename_i he
    exact absurd h he
theorem ends_cons {s : Seg} {l : List Seg} {x : Int} (h : (endsL T x (s :: l)).2 = 0) : (endS T s x).2 = 0 ∧ (endsL T (endS T s x).1 l).2 = 0 ∧ (endsL T x (s :: l)).1 = (endS T s x).1 :: (endsL T (endS T s x).1 l).1 := by
  simp only [endsL] at h ⊢
  by_cases h0 : (endS T s x).2 = 0
  · rw [if_neg (by rw [h0]; simp)] at h
    rw [if_neg (by rw [h0]; simp)]
    exact ⟨h0, h, rfl⟩
  · rw [if_pos h0] at h; exact absurd h h0
/-- The next step of an expansion. -/
structure ExpI (T : Topo) (D : List Bool) (l : List Seg) (n : Int) (k : Nat) (x : Int) (out : List Int) : Prop where
  ends : (endsL T x (l.drop k)).2 = 0
  row : (endsL T n l).1.drop k = (endsL T x (l.drop k)).1
  err : (expL T D n l).1 = (expL T D x (l.drop k)).1
  val : (expL T D n l).1 = 0 → (expL T D n l).2 = out ++ (expL T D x (l.drop k)).2
  len : out.length ≤ 12 * k
theorem ExpI.start {l : List Seg} {n : Int} (h : (endsL T n l).2 = 0) : ExpI T D l n 0 n [] := ⟨h, rfl, rfl, fun _ => rfl, by simp⟩
theorem ExpI.get {l : List Seg} {n : Int} {k : Nat} {x : Int} {out : List Int} (h : ExpI T D l n k x out) {s : Seg} (hd : l.drop k = s :: l.drop (k + 1)) (hk : k < (endsL T n l).1.length) : (endS T s x).2 = 0 ∧ (endsL T n l).1.getD k 0 = (endS T s x).1 ∧ (endsL T n l).1.drop (k + 1) = (endsL T (endS T s x).1 (l.drop (k + 1))).1 ∧ (endsL T (endS T s x).1 (l.drop (k + 1))).2 = 0 := by
  have h1 := h.ends
  have h2 := h.row
  rw [hd] at h1 h2
  obtain ⟨e1, e2, e3⟩ := ends_cons h1
  rw [e3, drop_cons _ _ hk] at h2
  exact ⟨e1, (List.cons.inj h2).1, (List.cons.inj h2).2, e2⟩
end
instance (T : Topo) (n : Int) (l : List Int) : IsFlat (pathV T n l) := by unfold pathV; infer_instance
end PW
end Go.Proofs.YtbpgndbjbaoolaaGreat

/- Stable segments: Segment of both, the reference's stands, List, Least. -/
namespace Go.Proofs.YtbpgndbjbaoolaaGreat
set_option linter.unusedVariables false
set_option linter.unusedSimpArgs false
namespace PW
open Go.RowKit Reg Mem Net

noncomputable def sgB (T : Topo) (D : List Bool) (x y : Int) : Bool := (((validB T && fitsB T D) && !decide (x = y)) && uniqB T [] x y) && clearB D (spathL T [] x.toNat y.toNat)
theorem uniq_sp {T : Topo} {D : List Bool} {x y : Int} (h : uniqB T D x y = true) : spE T D x y = 0 := by
  unfold uniqB at h
  rw [Bool.and_eq_true, decide_eq_true_eq, decide_eq_true_eq] at h
  obtain ⟨h1, h2⟩ := h
  obtain ⟨hv, hf, hn, hd⟩ := nodeE_zero h1
  rw [nodeB_iff] at hn hd
  obtain ⟨a, rfl⟩ := Int.eq_ofNat_of_zero_le hn.1
  obtain ⟨b, rfl⟩ := Int.eq_ofNat_of_zero_le hd.1
  simp only [Int.toNat_natCast] at h2
  unfold spE
  rw [if_pos h1, if_neg]
  simp only [Int.toNat_natCast]
  intro h0
  rw [cnt_unr hv hd.2 hn.2 h0] at h2
  omega
section
variable {T : Topo} {D : List Bool} {n : Int} {p : List Int}
theorem stands_cov (h : Fol T D n p) {i k x y : Nat} (hik : i < k) (hk : k ≤ p.length) (hx : endL T n (p.take i) = (x : Int)) (hy : endL T n (p.take k) = (y : Int)) : (sgB T D x y && sameB (spathL T [] x y) (partL p i k)) = covB T [] n p i k := by
  have hb := h.bare
  have ha := h.arcs
  have hv := h.valid
  obtain ⟨x', hx', hxN⟩ := end_node hv h.node ha i (by omega)
  obtain ⟨y', hy', hyN⟩ := end_node hv h.node ha k hk
  have e1 : x' = x := by omega
  have e2 : y' = y := by omega
  subst e1
  subst e2
  rw [Bool.eq_iff_iff, cov_sp hb (by omega) hk hx hy]
  unfold sgB sameB
  simp only [Int.toNat_natCast, Bool.and_eq_true, Bool.not_eq_true', decide_eq_true_eq, decide_eq_false_iff_not]
  constructor
  · rintro ⟨⟨⟨_, h3⟩, h4⟩, h5⟩
    exact ⟨uniq_sp h3, h3, h5⟩
  · rintro ⟨h1, h2, h3⟩
    refine ⟨⟨⟨⟨⟨hv, h.fits⟩, fun e => ?_⟩, h2⟩, ?_⟩, h3⟩
    · have e2 : x' = y' := by omega
      subst e2
      rw [spE_zero hv (fits_nil T) hxN hxN] at h1
      have hsp := spath_sp (D := []) hv hxN hxN (by split at h1 <;> omega)
      have h6 := hsp.self
      rw [h6] at h3
      have := part_len p (show i ≤ k by omega) hk
      rw [← h3] at this
      simp at this
      omega
    · rw [h3, clear_iff]
      exact fun a ha => h.up a (part_mem ha)
end
section
variable {P : Program} {σ : Sto} {t : Tms} {o : Oper}
end
end PW
end Go.Proofs.YtbpgndbjbaoolaaGreat

/- Stable lists: the reference's part and Check, package stable's Check. -/
namespace Go.Proofs.YtbpgndbjbaoolaaGreat
set_option linter.unusedVariables false
set_option linter.unusedSimpArgs false
namespace PW
open Go.RowKit Reg Mem Net

/-- The first index from j on whose node is x and up to which the path from i is covered. -/
noncomputable def fstP (T : Topo) (n : Int) (p : List Int) (x : Int) (i : Nat) : Nat → Nat → Option Nat
  | 0, _ => none
  | f + 1, j => if endL T n (p.take j) = x ∧ covB T [] n p i j = true then some j else fstP T n p x i f (j + 1)
/-- Where a stable segment leads from i. -/
noncomputable def stepP (T : Topo) (n : Int) (p : List Int) (i : Nat) (s : Seg) : Option Nat :=
  if s.kind = 2 ∧ i < p.length ∧ p.getD i 0 = s.num then some (i + 1)
  else if s.kind = 1 then fstP T n p s.num i (p.length - i) (i + 1)
  else none
noncomputable def ckB (T : Topo) (n : Int) (p : List Int) : Nat → List Seg → Bool
  | i, [] => decide (i = p.length)
  | i, s :: l => match stepP T n p i s with
    | some j => ckB T n p j l
    | none => false
/-- No node segment leads from a node to itself. -/
def noDeg (T : Topo) : Int → List Seg → Bool
  | _, [] => true
  | x, s :: l => if s.kind = 1 ∧ s.num = x then false else noDeg T (endS T s x).1 l
section
variable {T : Topo} {n : Int} {p : List Int}
theorem fstP_some {x : Int} {i : Nat} : ∀ (f j k : Nat), fstP T n p x i f j = some k → j ≤ k ∧ k < j + f ∧ endL T n (p.take k) = x ∧ covB T [] n p i k = true ∧ ∀ m, j ≤ m → m < k → ¬ (endL T n (p.take m) = x ∧ covB T [] n p i m = true)
  | 0, j, k, h => by simp [fstP] at h
  | f + 1, j, k, h => by
    simp only [fstP] at h
    split at h
    · rename_i h1; cases h; exact ⟨Nat.le_refl _, by omega, h1.1, h1.2, fun m h2 h3 => by omega⟩
    · rename_i h1
      obtain ⟨a, b, c, d, e⟩ := fstP_some f (j + 1) k h
      refine ⟨by omega, by omega, c, d, fun m h2 h3 => ?_⟩
      by_cases hm : m = j
      · subst hm; exact h1
      · exact e m (by omega) h3
theorem fstP_is {x : Int} {i : Nat} : ∀ (f j k : Nat), j ≤ k → k < j + f → endL T n (p.take k) = x → covB T [] n p i k = true → (∀ m, j ≤ m → m < k → ¬ (endL T n (p.take m) = x ∧ covB T [] n p i m = true)) → fstP T n p x i f j = some k
  | 0, j, k, h1, h2, _, _, _ => by omega
  | f + 1, j, k, h1, h2, h3, h4, h5 => by
    simp only [fstP]
    by_cases e : j = k
    · subst e; rw [if_pos ⟨h3, h4⟩]
    · rw [if_neg (h5 j (Nat.le_refl _) (by omega))]
      exact fstP_is f (j + 1) k (by omega) (by omega) h3 h4 (fun m h6 h7 => h5 m (by omega) h7)
/-- A stable step is a step that moves. -/
theorem step_iff (h : Fol T [] n p) {i : Nat} (hi : i ≤ p.length) (s : Seg) (j : Nat) : stepP T n p i s = some j ↔ stepX T [] n p i s = some j ∧ ¬ (s.kind = 1 ∧ s.num = endL T n (p.take i)) := by
  unfold stepP stepX
  by_cases h1 : s.kind = 2 ∧ i < p.length ∧ p.getD i 0 = s.num
  · rw [if_pos h1, if_pos h1]
    constructor
    · intro e; exact ⟨e, fun e2 => by omega⟩
    · intro e; exact e.1
  · rw [if_neg h1, if_neg h1]
    by_cases h2 : s.kind = 1
    · rw [if_pos h2, if_pos h2]
      constructor
      · intro e
        obtain ⟨a, b, c, d, _⟩ := fstP_some _ _ _ e
        have hf := cov_first h (show i ≤ j by omega) (by omega) d
        rw [c] at hf
        rw [hf, if_pos ⟨c, d⟩]
        refine ⟨rfl, fun e2 => ?_⟩
        have := fst_is (T := T) (n := n) (p := p) s.num (p.length - i) i i (Nat.le_refl _) (by omega) e2.2.symm (fun k h3 h4 => by omega)
        omega
      · rintro ⟨e1, e2⟩
        split at e1
        · rename_i h3
          simp only [Option.some.injEq] at e1
          have hge := fst_ge (T := T) (n := n) (p := p) s.num (p.length - i) i
          have hno := fst_no (T := T) (n := n) (p := p) s.num (p.length - i) i
          rw [e1] at h3 hge hno
          have hne : i ≠ j := fun e => e2 ⟨h2, by rw [e]; exact h3.1.symm⟩
          exact fstP_is _ _ _ (by omega) (by omega) h3.1 h3.2 (fun m h4 h5 h6 => hno m (by omega) h5 h6.1)
        · cases e1
    · rw [if_neg h2, if_neg h2]
      simp
theorem step_end (h : Fol T [] n p) {i j : Nat} (hi : i ≤ p.length) {s : Seg} (hst : stepX T [] n p i s = some j) : (endS T s (endL T n (p.take i))).1 = endL T n (p.take j) ∧ (endS T s (endL T n (p.take i))).2 = 0 ∧ j ≤ p.length := by
  have ha := h.arcs
  have hv := h.valid
  obtain ⟨x, hx, hxN⟩ := end_node hv h.node ha i hi
  have hnb : nodeB T (x : Int) = true := nodeB_iff.2 ⟨by omega, hxN⟩
  rw [hx]
  have hss := hst
  unfold stepX at hst
  split at hst
  · rename_i h1
    cases hst
    have hab := ha _ (getD_mem (d := 0) h1.2.1)
    have htl := part_tail h h1.2.1 hx
    have hed := endL_step T n p i h1.2.1
    rw [h1.2.2] at hab htl hed
    have hsg : segB T s = true := by unfold segB; rw [if_neg (by omega), if_pos h1.1]; exact hab
    have hes : endS T s x = (endL T n (p.take (i + 1)), 0) := by
      unfold endS
      rw [if_neg (by rw [hsg]; simp), if_neg (by rw [hnb]; simp), if_neg (by omega), if_pos h1.1, if_neg (by rw [htl]; simp), hed]
    rw [hes]
    exact ⟨rfl, rfl, h1.2.1⟩
  · split at hst
    · rename_i h2
      split at hst
      · rename_i h3
        simp only [Option.some.injEq] at hst
        have hge := fst_ge (T := T) (n := n) (p := p) s.num (p.length - i) i
        rw [hst] at h3 hge
        obtain ⟨y, hy, hyN⟩ := end_node hv h.node ha j (by omega)
        have hsy : s.num = (y : Int) := by rw [← h3.1]; exact hy
        have hsg : segB T s = true := by unfold segB; rw [if_pos h2, hsy]; exact nodeB_iff.2 ⟨by omega, hyN⟩
        have hes : endS T s x = (s.num, 0) := by
          unfold endS
          rw [if_neg (by rw [hsg]; simp), if_neg (by rw [hnb]; simp), if_pos h2]
        rw [hes]
        exact ⟨h3.1.symm, rfl, by omega⟩
      · cases hst
    · cases hst
/-- A list is stable if and only if it is exact without the mask, and moves. -/
theorem ck_iff (h : Fol T [] n p) : ∀ (l : List Seg) (i : Nat), i ≤ p.length → ckB T n p i l = (exB T [] n p i l && noDeg T (endL T n (p.take i)) l)
  | [], i, hi => by simp [ckB, exB, noDeg]
  | s :: l, i, hi => by
    simp only [ckB, exB, noDeg]
    cases hX : stepX T [] n p i s with
    | none =>
      have hP : stepP T n p i s = none := by
        cases hP : stepP T n p i s with
        | none => rfl
        | some j => have := ((step_iff h hi s j).1 hP).1; rw [hX] at this; cases this
      rw [hP]
      rfl
    | some j =>
      obtain ⟨e1, e2, e3⟩ := step_end h hi hX
      by_cases hd : s.kind = 1 ∧ s.num = endL T n (p.take i)
      · have hP : stepP T n p i s = none := by
          cases hP : stepP T n p i s with
          | none => rfl
          | some j => exact absurd hd ((step_iff h hi s j).1 hP).2
        rw [hP, if_pos hd]
        simp
      · rw [(step_iff h hi s j).2 ⟨hX, hd⟩, if_neg hd, e1]
        simp only
        exact ck_iff h l j e3
theorem deg_lst (h : Fol T [] n p) : ∀ (f i : Nat), i ≤ p.length → noDeg T (endL T n (p.take i)) (lstF T [] n p f i) = true
  | f, i, hi => by
    by_cases hlt : i < p.length
    · cases f with
      | zero => rfl
      | succ f =>
        cases ht : topD (covB T [] n p i) i p.length with
        | none =>
          rw [lst_none hlt (fun k h1 h2 => topD_isNone _ ht k h1 h2)]
          have hst : stepX T [] n p i ⟨2, p.getD i 0⟩ = some (i + 1) := by unfold stepX; rw [if_pos ⟨rfl, hlt, rfl⟩]
          simp only [noDeg]
          rw [if_neg (by rintro ⟨h1, _⟩; omega), (step_end h hi hst).1]
          exact deg_lst h f (i + 1) (by omega)
        | some j =>
          obtain ⟨t1, t2, t3, t4⟩ := topD_is _ _ ht
          rw [lst_some hlt t1 t2 t3 t4]
          have hf := cov_first h (show i ≤ j by omega) t2 t3
          have hst : stepX T [] n p i ⟨1, endL T n (p.take j)⟩ = some j := by
            unfold stepX
            simp only
            rw [if_neg (by omega), if_pos trivial, hf, if_pos ⟨rfl, t3⟩]
          simp only [noDeg]
          rw [if_neg, (step_end h hi hst).1]
          · exact deg_lst h f j t2
          · rintro ⟨_, h2⟩
            have := fst_is (T := T) (n := n) (p := p) (endL T n (p.take j)) (p.length - i) i i (Nat.le_refl _) (by omega) h2.symm (fun k h3 h4 => by omega)
            omega
    · rw [lst_end f i (by omega)]
      rfl
end
noncomputable def ckE (T : Topo) (D : List Bool) (l : List Seg) (n : Int) (p : List Int) : Bool := if folE T D n p = 0 then ckB T n p 0 l else false
end PW
end Go.Proofs.YtbpgndbjbaoolaaGreat

/- Package postconv: Path. -/
namespace Go.Proofs.YtbpgndbjbaoolaaGreat
set_option linter.unusedVariables false
set_option linter.unusedSimpArgs false
namespace PW
open Go.RowKit Reg Mem Net Rng

set_option maxRecDepth 10000 in
set_option maxHeartbeats 1000000 in
theorem pcfound_can (p : List Int) (u : PV) : CanS Tryz.prog 113 [intsV p, .ptr 0 0] [some (.cells 33 [u])] (fun r σ' => r = .tuple [] ∧ σ' = [some (.cells 33 [intsV p])]) := by
  refine canS_of Tryz.func113 rfl Tryz.ntmps113 rfl ?_
  refine W_region ?_
  refine WR_a 2 rfl <| WR_k [] rfl ?_
  exact ⟨_, ResL.of rfl, rfl, rfl⟩
set_option maxRecDepth 10000 in
set_option maxHeartbeats 1000000 in
theorem pcfind_can (T : Topo) (D : List Bool) (n d : Int) : CanS Tryz.prog 112 [topoV T, boolsV D, num n, num d, .func 113 [.ptr 0 0]] [some (.cells 33 [.raw (.slice none 0 0)])] (fun r σ' => r = num (spE T D n d) ∧ σ' = [some (.cells 33 [if spE T D n d = 0 then intsV (spathL T D n.toNat d.toNat) else .raw (.slice none 0 0)])]) := by
  refine canS_of Tryz.func112 rfl Tryz.ntmps112 rfl ?_
  refine W_cs (.a 2 rfl <| .k [1, 2, 3, 4, 5] rfl) ?_
  refine W_cs (.a 4 rfl <| .c rfl (spath_can T D n d) rfl <| .a 5 rfl <| .k [4, 11, 12] rfl) ?_
  refine W_seq ?_
  refine W_cs (.a 2 rfl <| .k [4, 11, 12, 22] rfl) ?_
  refine W_cond rfl (fun h1 => ?_) (fun h1 => ?_)
  · have he : spE T D n d = 0 := tt h1
    refine W_region ?_
    refine WR_a 2 rfl <| WR_cS rfl rfl (CanS.mono (pcfound_can _ _) (fun r σ' h => ?_))
    obtain ⟨rfl, rfl⟩ := h
    refine WR_k [12] rfl ?_
    refine W_cs (.a 2 rfl <| .k [10] rfl) ?_
    refine W_ret ?_
    first
      | exact ⟨_, ResL.of rfl, rfl, by rw [if_neg he]⟩
      | exact ⟨_, ResL.of rfl, rfl, by simp only [if_pos he]⟩
  · have he : ¬ spE T D n d = 0 := ff h1
    refine W_skip ?_
    refine W_cs (.a 2 rfl <| .k [10] rfl) ?_
    refine W_ret ?_
    first
      | exact ⟨_, ResL.of rfl, rfl, by rw [if_neg he]⟩
      | exact ⟨_, ResL.of rfl, rfl, by simp only [if_pos he]⟩
set_option maxRecDepth 10000 in
set_option maxHeartbeats 1000000 in
theorem pcpath_can (T : Topo) (D : List Bool) (n d : Int) : Can Tryz.prog 71 [topoV T, boolsV D, num n, num d] (· = intsE (spE T D n d) (spathL T D n.toNat d.toNat)) := by
  obtain ⟨u, hu⟩ : ∃ u : PV, (if spE T D n d = 0 then intsV (spathL T D n.toNat d.toNat) else .raw (.slice none 0 0)) = u := ⟨_, rfl⟩
  have hf := pcfind_can T D n d
  rw [hu] at hf
  refine can_of Tryz.func71 rfl Tryz.ntmps71 rfl ?_
  refine W_cs (.a 3 rfl <| .k [1, 2, 3, 4] rfl) ?_
  refine W_rs ?_
  refine WR_a 1 rfl <| WR_k [1, 2, 3, 4, 10] rfl ?_
  refine W_rs ?_
  refine WR_a 5 rfl <| WR_cS rfl rfl (CanS.mono hf (fun r σ' h => ?_))
  obtain ⟨rfl, rfl⟩ := h
  refine WR_a 1 rfl <| WR_k [10, 11] rfl ?_
  refine W_cs (.v (y_ld rfl ((show some u = some u from rfl))) rfl <| .a 3 rfl <| .k [8, 9] rfl) ?_
  refine W_ret ?_
  refine ⟨_, _, ResL.of rfl, Pur.tupleL (PurL.cons (y := intsV (if spE T D n d = 0 then spathL T D n.toNat d.toNat else [])) ?_ (PurL.cons Pur.pure PurL.nil)), rfl⟩
  rw [← hu]
  by_cases he : spE T D n d = 0
  · rw [if_pos he, if_pos he]; exact Pur.pure
  · rw [if_neg he, if_neg he]; exact Pur.nils
end PW
end Go.Proofs.YtbpgndbjbaoolaaGreat

/- Stable node segments: parts, fewer failures, next arcs. Plain mathematics. -/
namespace Go.Proofs.YtbpgndbjbaoolaaGreat
set_option linter.unusedVariables false
set_option linter.unusedSimpArgs false
namespace PW
open Go.RowKit Reg Mem Net

section
variable {T : Topo} {D : List Bool}
theorem ch_walkF {d : Nat} : ∀ {m : Nat} {q : List Int}, Ch T D d m q → (q = [] ∨ overN T m = false) → walkE T false m q = 0
  | m, [], _, _ => rfl
  | m, a :: q, h, ho => by
    cases h with
    | @cons _ b k _ ha ht hu hm hov hp =>
      rw [walk_step (arcB_iff.2 ⟨by omega, by omega⟩) (by rw [Int.toNat_natCast]; exact ht) (.inr (by rcases ho with h | h; cases h; rw [Int.toNat_natCast]; exact h)), Int.toNat_natCast, hm]
      exact ch_walkF hp hov
theorem ch_walk {d m : Nat} {q : List Int} (h : Ch T D d m q) : walkE T true m q = 0 := by
  cases h with
  | nil => rfl
  | @cons _ b k q ha ht hu hm hov hp =>
    rw [walk_step (arcB_iff.2 ⟨by omega, by omega⟩) (by rw [Int.toNat_natCast]; exact ht) (.inl rfl), Int.toNat_natCast, hm]
    exact ch_walkF hp hov
theorem Ch.bare {d m : Nat} {q : List Int} (h : Ch T D d m q) : Ch T [] d m q := by
  induction h with
  | nil => exact .nil
  | cons ha ht hu hm ho hp ih => exact .cons ha ht (by simp [downN]) hm ho ih
theorem Ch.mask {d m : Nat} {q : List Int} (h : Ch T [] d m q) (hc : ∀ a ∈ q, downN D a.toNat = false) : Ch T D d m q := by
  induction h with
  | nil => exact .nil
  | @cons n a m p ha ht hu hm ho hp ih => exact .cons ha ht (by have := hc a (by simp); rw [Int.toNat_natCast] at this; exact this) hm ho (ih fun b hb => hc b (by simp [hb]))
/-- What a stable node segment is. -/
structure Stab (T : Topo) (D : List Bool) (x y : Nat) (p : List Int) : Prop where
  valid : validB T = true
  fits : fitsB T D = true
  ne : x ≠ y
  hx : (x : Int) < T.nodes
  hy : (y : Int) < T.nodes
  uniq : uniqB T [] x y = true
  sp : SP T [] y x p
  up : ∀ a ∈ p, downN D a.toNat = false
variable {x y : Nat} {p : List Int}
theorem Stab.pos (h : Stab T D x y p) : 0 < p.length := by
  have hsp := h.sp
  cases hsp with
  | nil => exact absurd rfl h.ne
  | cons _ _ _ => simp
theorem Stab.fol (h : Stab T D x y p) : Fol T D x p := ⟨h.valid, h.fits, nodeB_iff.2 ⟨by omega, h.hx⟩, ch_walk h.sp.ch, h.up⟩
theorem Stab.cnt (h : Stab T D x y p) : cntS T [] y x = 1 := (uniq_iff h.valid (fits_nil T) h.hx h.hy).1 h.uniq
theorem Stab.cov (h : Stab T D x y p) : covB T [] x p 0 p.length = true := by
  have he : endL T (x : Int) (p.take p.length) = (y : Int) := by rw [List.take_length]; exact h.sp.ch.fin
  rw [cov_iff h.fol.bare (Nat.zero_le _) (Nat.le_refl _) (u := x) rfl he]
  have : partL p 0 p.length = p := by unfold partL; simp
  rw [this]
  exact ⟨h.sp, h.cnt⟩
/-- The node segment between two nodes of the path. -/
theorem Stab.part (h : Stab T D x y p) {i k : Nat} (hik : i ≤ k) (hk : k < p.length) : sgB T D (tailN T (p.getD i 0).toNat) (headN T (p.getD k 0).toNat) = true := by
  have hF := h.fol
  have ha := hF.arcs
  have hc := cov_sub hF.bare (i := 0) (j := p.length) (i' := i) (j' := k + 1) (Nat.zero_le _) (by omega) (by omega) (Nat.le_refl _) h.cov
  obtain ⟨u, hu, huN⟩ := end_node h.valid hF.node ha i (by omega)
  obtain ⟨v, hv, hvN⟩ := end_node h.valid hF.node ha (k + 1) (by omega)
  rw [part_tail hF (by omega) hu, ← endL_step T x p k hk, hv]
  rw [← stands_cov hF (by omega) (by omega) hu hv, Bool.and_eq_true] at hc
  exact hc.1
/-- The only next arc, with and without the mask. -/
theorem Stab.next (h : Stab T D x y p) {i u : Nat} (hi : i < p.length) (hu : endL T x (p.take i) = (u : Int)) : nextL T [] u y = [p.getD i 0] ∧ nextL T D u y = [p.getD i 0] ∧ (u : Int) < T.nodes := by
  have hF := h.fol
  have hv := h.valid
  have ha := hF.arcs
  obtain ⟨u', hu', huN⟩ := end_node hv hF.node ha i (by omega)
  have : u' = u := by omega
  subst this
  have hfin : endL T (x : Int) (p.take p.length) = (y : Int) := by rw [List.take_length]; exact h.sp.ch.fin
  have hch := hF.bare.ch (i := 0) (j := i) (Nat.zero_le _) (by omega) (u := x) rfl hu
  have hpp : partL p 0 i ++ partL p i p.length = p := by rw [← part_split p (Nat.zero_le _) (by omega)]; unfold partL; simp
  have hsp := h.sp
  rw [← hpp] at hsp
  obtain ⟨s1, s2⟩ := hsp.suffix hv h.hy h.cnt hch
  have hdr : partL p i p.length = p.getD i 0 :: p.drop (i + 1) := by
    unfold partL
    rw [List.take_of_length_le (by simp), drop_cons p i hi]
  rw [hdr] at s1
  have hup : ∀ c ∈ p.getD i 0 :: p.drop (i + 1), downN D c.toNat = false := fun c hc => by
    rw [← drop_cons p i hi] at hc
    exact h.up c (List.mem_of_mem_drop hc)
  have hchD := s1.ch.mask hup
  have hd0 := s1.cost hv h.hy
  generalize p.getD i 0 = a0 at *
  generalize p.drop (i + 1) = q at *
  cases s1 with
  | @cons _ a m _ hn hm hq =>
    obtain ⟨b, hb, _, _⟩ := cnt_one hv h.hy huN hn.ne s2
    have hab := next_of hn ((sound_of hv).cost a hn.arc).1
    rw [hb] at hab
    simp only [List.mem_singleton] at hab
    rw [← hab] at hb
    refine ⟨hb, ?_, huN⟩
    have hDle := hchD.le hv h.hy
    have mono : ∀ k : Nat, (k : Int) < T.nodes → 0 ≤ dN T D y k → 0 ≤ dN T [] y k ∧ dN T [] y k ≤ dN T D y k := fun k hk h0 => by
      have hs := spath_sp hv h.hy hk h0
      have := hs.ch.bare.le hv h.hy
      rw [← (hs.cost hv h.hy).1] at this
      exact this
    have hmu := mono u' huN hDle.1
    have heq : dN T D y u' = dN T [] y u' := by omega
    have hall : ∀ c ∈ nextL T D u' y, c = (a : Int) := fun c hc => by
      obtain ⟨k, rfl, hk⟩ := next_mem hc
      obtain ⟨z, hz, hzN⟩ := head_nat hv hk.arc
      have g := hk.dN hz
      have g2 := mono z hzN g.1
      have hs := spath_sp (D := []) hv h.hy hzN g2.1
      have hch2 : Ch T [] y u' ((k : Int) :: spathL T [] z y) := .cons hk.arc hk.tail (by simp [downN]) hz (by
        rcases hk.pass with e | e
        · left
          have : z = y := by omega
          subst this
          exact hs.self
        · right
          rw [hz, Int.toNat_natCast] at e
          exact e) hs.ch
      have g3 := hch2.le hv h.hy
      rw [costL_cons, ← (hs.cost hv h.hy).1, Int.toNat_natCast] at g3
      have hnr : Nearer T [] u' y k := ⟨hk.arc, hk.tail, by simp [downN], hk.ne, by rw [hz, Int.toNat_natCast]; exact g2.1, hk.pass, by
        rw [hz, Int.toNat_natCast]
        show dN T [] y u' = dN T [] y z + costN T k
        omega⟩
      have := next_of hnr ((sound_of hv).cost k hk.arc).1
      rw [hb] at this
      simpa using this
    obtain ⟨k, hk⟩ := next_ex (D := D) hv huN h.hy hn.ne hDle.1
    have hmem := next_of hk ((sound_of hv).cost k hk.arc).1
    have hso := next_sorted T D u' y
    cases hx : nextL T D u' y with
    | nil => rw [hx] at hmem; cases hmem
    | cons c l =>
      rw [hx] at hall hso
      have hc := hall c (by simp)
      subst hc
      cases l with
      | nil => rfl
      | cons c2 l =>
        have := hall c2 (by simp)
        have h3 := (List.pairwise_cons.1 hso).1 c2 (by simp)
        omega
end
end PW
end Go.Proofs.YtbpgndbjbaoolaaGreat

/- The example of the laws: a ring of four nodes, its distances. -/
namespace Go.Proofs.YtbpgndbjbaoolaaGreat
set_option linter.unusedVariables false
set_option linter.unusedSimpArgs false
namespace PW
open Go.RowKit Reg Mem Net

def ringL (k : Nat) : List Lnk := (List.range k).map fun (i : Nat) => ⟨(i : Int), (((i + 1) % 4 : Nat) : Int), 1, 1, 0, 1, 0⟩
def ringT : Topo := ⟨4, [], ringL 4⟩
def ringD (d : Nat) : List Int := match d with
  | 0 => [0, 1, 2, 1]
  | 1 => [1, 0, 1, 2]
  | 2 => [2, 1, 0, 1]
  | _ => [1, 2, 1, 0]
theorem ring_valid : validB ringT = true := by kernel_rfl
def wayB (T : Topo) (n : Nat) (out : List Int) (a : Nat) : Bool := decide (0 ≤ at' out (arcY T false a)) && (decide (arcY T false a = (n : Int)) || !overN T (arcY T false a).toNat)
def distB (n : Nat) (out : List Int) : Bool :=
  decide (out.length = 4) && decide (at' out (n : Int) = 0) && (List.range 4).all (fun x => decide (0 ≤ at' out (x : Int))) &&
  (List.range 8).all (fun a => !wayB ringT n out a || (decide (0 ≤ at' out (arcX ringT false a)) && decide (at' out (arcX ringT false a) ≤ at' out (arcY ringT false a) + costN ringT a))) &&
  (List.range 4).all (fun x => decide (x = n) || (List.range 8).any fun a => decide (arcX ringT false a = (x : Int)) && wayB ringT n out a && decide (at' out (x : Int) = at' out (arcY ringT false a) + costN ringT a))
theorem way_iff (n : Nat) (out : List Int) (a : Nat) : Net.Way ringT [] n false out a ↔ wayB ringT n out a = true := by
  unfold Net.Way wayB
  have : downN [] a = false := by simp [downN]
  simp [this]
theorem dist_of {n : Nat} {out : List Int} (h : distB n out = true) : IsDist ringT [] n false out := by
  simp only [distB, Bool.and_eq_true, decide_eq_true_eq, List.all_eq_true, List.mem_range, Bool.or_eq_true, Bool.not_eq_true', List.any_eq_true] at h
  obtain ⟨⟨⟨⟨h1, h2⟩, h3⟩, h4⟩, h5⟩ := h
  refine ⟨by rw [h1]; rfl, h2, fun x hx => ?_, fun a ha hw => ?_, fun x hx _ => ?_⟩
  · have := h3 x (by have : ringT.nodes = 4 := rfl; omega); omega
  · rcases h4 a (by have : ringT.links.length = 4 := rfl; omega) with h | h
    · rw [(way_iff n out a).1 hw] at h; cases h
    · exact h
  · rcases h5 x (by have : ringT.nodes = 4 := rfl; omega) with h | ⟨a, ha, ⟨h6, h7⟩, h8⟩
    · exact .inl h
    · exact .inr ⟨a, by have : ringT.links.length = 4 := rfl; omega, h6, (way_iff n out a).2 h7, h8⟩
theorem lnksP_snoc (l : List Lnk) (e : Lnk) : lnksP l ++ lnkP e = lnksP (l ++ [e]) := by simp [lnksP]
theorem ringL_step (k : Nat) : ringL (k + 1) = ringL k ++ [⟨(k : Int), (((k + 1) % 4 : Nat) : Int), 1, 1, 0, 1, 0⟩] := by simp [ringL, List.range_succ]
/-- A pair of constants. -/
theorem y_build2 {P : Program} {σ : Sto} {t : Tms} {o : Oper} {ty : TypeId} {v0 v1 c0 c1 : Value} (ho : o.op = .build ty #[(0, .const v0), (1, .const v1)]) (hb : P.built ty [(0, v0), (1, v1)] = some #[c0, c1]) : Yield P σ t o (.agg [.raw c0, .raw c1]) := by
  intro F base E ρ w hρ hS hT
  have hrun := run_build (P := P) w ty #[(0, v0), (1, v1)] #[c0, c1] hb
  have h0 : ρ (.const v0) = v0 := hρ.const v0
  have h1 : ρ (.const v1) = v1 := hρ.const v1
  have hr : (execOp ρ o).run P w = .ok (.value (.agg #[c0, c1])) w := by
    simp only [execOp, ho, Sem.run_bind, List.map_toArray, List.map_cons, List.map_nil, h0, h1, hrun, Result.andThen_ok, Sem.run_pure]
  rw [hr]
  refine upon_val (.agg #[c0, c1] _ rfl (fun i x u k1 k2 => ?_))
  match i, k1, k2 with
  | 0, k1, k2 => simp at k1 k2; subst k1; subst k2; exact .raw _
  | 1, k1, k2 => simp at k1 k2; subst k1; subst k2; exact .raw _
  | _ + 2, k1, k2 => simp at k2
end PW
end Go.Proofs.YtbpgndbjbaoolaaGreat
