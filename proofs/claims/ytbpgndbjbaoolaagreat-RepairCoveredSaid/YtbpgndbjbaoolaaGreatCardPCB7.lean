/- Texts of the proof, part 7. -/
import Derived.Laws.StructEq
import Derived.Test.YtbpgndbjbaoolaaGreatCardPCB6
/- The arguments of the laws of layers 29 to 31: queries with a component. -/
namespace Go.Proofs.YtbpgndbjbaoolaaGreat
set_option linter.unusedVariables false
set_option linter.unusedSimpArgs false
namespace PW
open Go.RowKit Reg Mem Net Go.WideShapes
structure Q30 where
  T : Topo
  k : Int
  x : Int
  n : Int
def q30P (c : Q30) : List PV := topoP c.T ++ [num c.k, num c.x, num c.n]
def q30V (c : Q30) : PV := .agg (q30P c)
instance (c : Q30) : IsPureL (q30P c) := by unfold q30P; unfold topoP; simp only [List.cons_append, List.nil_append]; infer_instance
instance (c : Q30) : IsPure (q30V c) := by unfold q30V; infer_instance
structure Q29 where
  T : Topo
  k : Int
  x : Int
  n : Int
  d : Int
def q29P (c : Q29) : List PV := topoP c.T ++ [num c.k, num c.x, num c.n, num c.d]
def q29V (c : Q29) : PV := .agg (q29P c)
instance (c : Q29) : IsPureL (q29P c) := by unfold q29P; unfold topoP; simp only [List.cons_append, List.nil_append]; infer_instance
instance (c : Q29) : IsPure (q29V c) := by unfold q29V; infer_instance
structure Q31 where
  T : Topo
  k : Int
  x : Int
  S : List Int
  n : Int
  d : Int
def q31P (c : Q31) : List PV := topoP c.T ++ [num c.k, num c.x, intsV c.S, num c.n, num c.d]
def q31V (c : Q31) : PV := .agg (q31P c)
instance (c : Q31) : IsPureL (q31P c) := by unfold q31P; unfold topoP; simp only [List.cons_append, List.nil_append]; infer_instance
instance (c : Q31) : IsPure (q31V c) := by unfold q31V; infer_instance
section
variable {H : Type} {enc : TypeId × Value → H} {W : World}
end
end PW
end Go.Proofs.YtbpgndbjbaoolaaGreat

/- What is known between the rounds of package component's Union. -/
namespace Go.Proofs.YtbpgndbjbaoolaaGreat
set_option linter.unusedVariables false
set_option linter.unusedSimpArgs false
namespace PW
open Go.RowKit Go.Shelf Reg Mem Net Rng

theorem rep_bools {E : Env} {w : World} : ∀ {cs : List Value} {M : List Bool}, RepL E w cs (boolsP M) → cs = M.map Value.bool
  | [], [], _ => rfl
  | [], b :: M, h => by have := h.1; simp [boolsP] at this
  | c :: cs, [], h => by have := h.1; simp [boolsP] at this
  | c :: cs, b :: M, h => by
    have h0 := rep_raw (h.2 0 c (flag b) rfl rfl)
    have h1 : RepL E w cs (boolsP M) := ⟨by have := h.1; simpa [boolsP] using this, fun i x u k1 k2 => h.2 (i + 1) x u (by simpa using k1) (by simpa [boolsP] using k2)⟩
    rw [rep_bools h1, h0]
    rfl
theorem bools_rep {E : Env} {w : World} : ∀ (M : List Bool), RepL E w (M.map Value.bool) (boolsP M)
  | [] => RepL.nil _ _
  | b :: M => RepL.cons (.raw _) (bools_rep M)
/-- The mask in the making. -/
def mk2 {N : Nat} (n : Nat) (l : List (Rng.Ix N)) : List Bool := l.foldl (fun M i => (M.set (2 * i.1) true).set (2 * i.1 + 1) true) (List.replicate n false)
theorem mk2_snoc {N n : Nat} (l : List (Rng.Ix N)) (i : Rng.Ix N) : mk2 n (l ++ [i]) = ((mk2 n l).set (2 * i.1) true).set (2 * i.1 + 1) true := by unfold mk2; rw [List.foldl_append]; rfl
theorem mk2_len {N n : Nat} (l : List (Rng.Ix N)) : (mk2 n l).length = n := by
  unfold mk2
  suffices h : ∀ M : List Bool, (l.foldl (fun M (i : Rng.Ix N) => (M.set (2 * i.1) true).set (2 * i.1 + 1) true) M).length = M.length by rw [h]; simp
  induction l with
  | nil => intro M; rfl
  | cons a l ih => intro M; rw [List.foldl_cons, ih]; simp
/-- The mask of a component. -/
def maskL (T : Topo) (k x : Int) : List Bool := (List.range (2 * T.links.length)).map fun a => partB k x T.links (a / 2)
theorem got_mask (p : Nat → Bool) (N : Nat) : ∀ k, k ≤ N → ∀ a, a < 2 * N → (mk2 (2 * N) (got p N k))[a]? = some (decide (a / 2 < k) && p (a / 2))
  | 0, _, a, ha => by
    show (List.replicate (2 * N) false)[a]? = _
    rw [List.getElem?_replicate, if_pos ha]
    simp
  | k + 1, hk, a, ha => by
    have ih := got_mask p N k (by omega) a ha
    have hl := mk2_len (n := 2 * N) (got p N k)
    cases hp : p k with
    | false =>
      rw [got_no hp, ih]
      by_cases e : a / 2 = k
      · rw [e, hp]; simp
      · rw [show decide (a / 2 < k + 1) = decide (a / 2 < k) from decide_eq_decide.2 (by omega)]
    | true =>
      rw [got_yes hp (by omega), mk2_snoc]
      simp only
      rw [List.getElem?_set]
      by_cases e1 : 2 * k + 1 = a
      · rw [if_pos e1, if_pos (by simp; omega), show a / 2 = k by omega, hp]
        simp
      · rw [if_neg e1, List.getElem?_set]
        by_cases e2 : 2 * k = a
        · rw [if_pos e2, if_pos (by omega), show a / 2 = k by omega, hp]
          simp
        · rw [if_neg e2, ih, show decide (a / 2 < k + 1) = decide (a / 2 < k) from decide_eq_decide.2 (by omega)]
theorem mask_eq (T : Topo) (k x : Int) : mk2 (2 * T.links.length) (got (partB k x T.links) T.links.length T.links.length) = maskL T k x := by
  apply List.ext_getElem?
  intro a
  by_cases ha : a < 2 * T.links.length
  · rw [got_mask _ _ _ (Nat.le_refl _) a ha]
    unfold maskL
    rw [List.getElem?_map, List.getElem?_range ha]
    have : a / 2 < T.links.length := by omega
    simp [this]
  · rw [List.getElem?_eq_none (by rw [mk2_len]; omega), List.getElem?_eq_none (by unfold maskL; simp; omega)]
/-- What is known of the world. -/
structure UniW (base n B : Nat) (v : Value) (Mm : Nat → Prop) (M : List Bool) (W : World) : Prop where
  bl : base ≤ W.heap.size
  row : W.ownsRow base 4 1 v n (M.map Value.bool)
  box : W.heap[B]? = some (.cells #[v] 22 (0, 0))
  gl : Glob Mm W
theorem row_same {W W' : World} {base e n : Nat} {v : Value} {xs : List Value} (h : W.ownsRow base e 1 v n xs) (hs : ∀ (g : Nat) (o : Array Value), W.heap[g]? = some (Obj.cells o e (0, 0)) → W'.heap[g]? = W.heap[g]?) : W'.ownsRow base e 1 v n xs := by
  refine ⟨h.1, h.2.imp id ?_⟩
  rintro ⟨g, cap, cur, h1, h2, h3, h4⟩
  exact ⟨g, cap, cur, h1, h2, (hs g cur h3).trans h3, h4⟩
theorem UniW.same {base n B : Nat} {v : Value} {Mm : Nat → Prop} {M : List Bool} {W W' : World} (h : UniW base n B v Mm M W) (hz : W.heap.size ≤ W'.heap.size) (hs : ∀ (b : Nat) (cs : Array Value) (t : TypeId) (fz : Nat × Nat), W.heap[b]? = some (Obj.cells cs t fz) → W'.heap[b]? = W.heap[b]?) : UniW base n B v Mm M W' :=
  ⟨Nat.le_trans h.bl hz, row_same h.row (fun g o hg => hs g o _ _ hg), (hs B _ _ _ h.box).trans h.box, fun g cs hg => by
    obtain ⟨h1, t, fz, h2⟩ := h.gl g cs hg
    exact ⟨h1, t, fz, (hs g _ _ _ h2).trans h2⟩⟩
theorem UniW.grown {base n B : Nat} {v : Value} {Mm : Nat → Prop} {M : List Bool} {W W' : World} {row : Option Nat} (h : UniW base n B v Mm M W) (hg : W.grownBy W' row) (hr : ∀ r, row = some r → ∃ o : Obj, W.heap[r]? = some o ∧ o.isCells = false) : UniW base n B v Mm M W' :=
  h.same hg.size fun b cs t fz hb => hg.block b (Array.getElem?_eq_some_iff.1 hb).1 fun e => by
    obtain ⟨o, h1, h2⟩ := hr b e.symm
    rw [hb] at h1
    cases h1
    cases h2
theorem UniW.sat {base n B : Nat} {E : Env} {M : List Bool} {W W0 : World} {bi : Blk} {s0 : Option Blk} (hS : Sat (fun _ => False) base [some bi, s0] E W0) (hs0 : s0 = some (.cells 22 [.own 0])) (hbi : ∃ e s m ys, bi = .row e s m ys) (hB : E.at_ 1 = .pointer (some ⟨B, 0, none⟩)) (hBb : base ≤ B) (hone : (E.at_ 0).oneCell' = true) (h : UniW base n B (E.at_ 0) E.M M W) : Sat (fun _ => False) base [some (.row 4 1 n (boolsP M)), some (.cells 22 [.own 0])] E W := by
  subst hs0
  have hL : E.L = 2 := hS.len
  have old : ∀ (i : Nat) blk, [some (Blk.row 4 1 n (boolsP M)), some (.cells 22 [.own 0])][i]? = some (some blk) → ∃ blk', [some bi, some (Blk.cells 22 [.own 0])][i]? = some (some blk') := fun i blk h => by
    match i, h with
    | 0, _ => exact ⟨_, rfl⟩
    | 1, _ => exact ⟨_, rfl⟩
    | _ + 2, h => simp at h
  have new : ∀ (i : Nat) blk, [some bi, some (Blk.cells 22 [.own 0])][i]? = some (some blk) → ∃ blk', [some (Blk.row 4 1 n (boolsP M)), some (.cells 22 [.own 0])][i]? = some (some blk') := fun i blk h => by
    match i, h with
    | 0, _ => exact ⟨_, rfl⟩
    | 1, _ => exact ⟨_, rfl⟩
    | _ + 2, h => simp at h
  refine ⟨h.bl, fun b hb => hb.elim, hL, fun b => ?_, fun i blk hi => ?_, fun i j bi' bj b h1 h2 h3 h4 => ?_, h.gl⟩
  · rw [hS.mm b]
    constructor
    · rintro (h | ⟨i, blk, h1, h2⟩)
      · exact .inl h
      · obtain ⟨blk', h3⟩ := new i blk h1; exact .inr ⟨i, blk', h3, h2⟩
    · rintro (h | ⟨i, blk, h1, h2⟩)
      · exact .inl h
      · obtain ⟨blk', h3⟩ := old i blk h1; exact .inr ⟨i, blk', h3, h2⟩
  · match i, hi with
    | 0, hi => cases hi; exact ⟨_, h.row, bools_rep M⟩
    | 1, hi => cases hi; exact ⟨B, _, hB, hBb, h.box, RepL.cons (.own 0 (by omega) _ rfl hone) (RepL.nil _ _)⟩
    | _ + 2, hi => simp at hi
  · obtain ⟨b1, e1⟩ := old i bi' h1
    obtain ⟨b2, e2⟩ := old j bj h2
    exact hS.inj i j b1 b2 b e1 e2 h3 h4
theorem UniW.of {base n B : Nat} {E : Env} {M : List Bool} {W : World} (hS : Sat (fun _ => False) base [some (.row 4 1 n (boolsP M)), some (.cells 22 [.own 0])] E W) (hB : E.at_ 1 = .pointer (some ⟨B, 0, none⟩)) : UniW base n B (E.at_ 0) E.M M W ∧ (E.at_ 0).oneCell' = true := by
  obtain ⟨cs, h1, h2⟩ := hS.blk 0 _ rfl
  rw [rep_bools h2] at h1
  obtain ⟨b, cs1, k1, k2, k3, k4⟩ := hS.blk 1 _ rfl
  have hbB : b = B := by rw [hB] at k1; cases k1; rfl
  subst hbB
  obtain ⟨cl⟩ := cs1
  match cl, k4 with
  | [], k4 => have := k4.1; simp at this
  | _ :: _ :: _, k4 => have := k4.1; simp at this
  | [u], k4 =>
    have hu := k4.2 0 u _ rfl rfl
    cases hu with
    | own _ _ _ hu ho =>
      subst hu
      exact ⟨⟨hS.bl, h1, k3, hS.gl⟩, ho⟩
theorem new2 (w : World) (a b : Value) (t : TypeId) : (w.alloc (.cells #[a, b] t)).cell? ⟨w.heap.size, 0, none⟩ = some a ∧ (w.alloc (.cells #[a, b] t)).cell? ⟨w.heap.size, 1, none⟩ = some b := by
  unfold World.cell?
  simp only [World.alloc_heap_new]
  exact ⟨rfl, rfl⟩
theorem new3 (w : World) (a b c : Value) (t : TypeId) : (w.alloc (.cells #[a, b, c] t)).cell? ⟨w.heap.size, 2, none⟩ = some c := by
  unfold World.cell?
  simp only [World.alloc_heap_new]
  rfl
end PW
end Go.Proofs.YtbpgndbjbaoolaaGreat

/- Package component: Union of one component. -/
namespace Go.Proofs.YtbpgndbjbaoolaaGreat
set_option linter.unusedVariables false
set_option linter.unusedSimpArgs false
namespace PW
open Go.RowKit Go.Shelf Reg Mem Net Rng

attribute [local go_sem] Oper.semAt_some

def onlyK (K : St → Prop) : Exit → St → Prop
  | .normal, s => K s
  | _, _ => False
theorem piece {P : Program} {N L n : Nat} {c : Code} {st : St} {K : St → Prop} {F : Nat → Prop} {base : Nat} {E₀ E : Env} {w₀ w : World} {a : Act} {Q : Exit → Act → World → Prop} (hc : Came base L E₀ w₀ E w) (hs : SatSt F base N st E a w) (h : W P N L c st (onlyK K)) (hq : ∀ s E' a' w', K s → SatSt F base N s E' a' w' → Goes E₀ w₀ E' w' → Below base w₀ w' → Q .normal a' w') : c.wpIn Fence.wide n P Q a w :=
  wpIn_wide.2 (wp_mono (h F base E₀ w₀ E a w hc hs) fun e a' w' ⟨s, E', k1, k2, k3, k4⟩ => by
    cases e <;> first | exact hq s E' a' w' k1 k2 k3 k4 | exact k1.elim)
def isDefer : Op → Bool
  | .defer _ => true
  | _ => false
theorem no_defer {ops : Array Oper} (h : (ops.all fun o => !isDefer o.op) = true) (i : Nat) (o : Oper) (ho : ops[i]? = some o) (c : Call) : o.op ≠ .defer c := fun e => by
  have := Array.all_eq_true'.1 h o (Array.mem_of_getElem? ho)
  rw [e] at this
  cases this
theorem lnkV_of {E : Env} {w w' : World} {v : Value} {L : List Lnk} {n₁ G : Nat} (h : Rep E w v (.slice L.length (lnksP L))) (hE : Ext w w') (hG : G = n₁ ∨ E.M G) (hlt : ∀ b, E.M b → b < w.heap.size) (hn : w'.heap.size = n₁ := by rfl) : LnkV n₁ G w' v L := by
  generalize hn1 : L.length = m at h
  generalize hxs : lnksP L = xs at h
  cases h with
  | nils => exact .inl ⟨none, 0, rfl, List.eq_nil_of_length_eq_zero hn1⟩
  | empty a c _ => exact .inl ⟨some a, c, rfl, List.eq_nil_of_length_eq_zero hn1⟩
  | slice b off _ c cs _ h0 h1 h2 hb hM hc hl hr =>
    subst hn1
    subst hxs
    have hz := hE.size
    refine .inr ⟨b, off, c, rfl, by omega, fun e => ?_, fun i hi => ?_⟩
    · subst e
      rcases hG with h | h
      · omega
      · exact hM h
    · have key : ∀ j v, (lnkP (lnk L i))[j]? = some (.raw v) → j < 7 → w'.cell? ⟨b, off + (i * 7 + j), none⟩ = some v := fun j v hj h7 => by
        have e := lnks_getP L i j hi h7
        rw [hj] at e
        have hlt : i * 7 + j < cs.length := by rw [hl]; exact (List.getElem?_eq_some_iff.1 e).1
        have hcs : cs[i * 7 + j]? = some cs[i * 7 + j] := List.getElem?_eq_getElem hlt
        have := rep_raw (hr _ _ _ hcs e)
        rw [this] at hcs
        exact hE.cell (hc _ _ hcs)
      have k0 := key 0 _ rfl (by omega)
      have k1 := key 1 _ rfl (by omega)
      have k2 := key 2 _ rfl (by omega)
      have k3 := key 3 _ rfl (by omega)
      have k4 := key 4 _ rfl (by omega)
      have k5 := key 5 _ rfl (by omega)
      have k6 := key 6 _ rfl (by omega)
      simp only [← Nat.add_assoc, Nat.add_zero] at k0 k1 k2 k3 k4 k5 k6
      exact ⟨k0, k1, k2, k3, k4, k5, k6⟩
theorem loop_two {P : Program} {F : Fence} {n : Nat} {c : Code} {Q : Exit → Act → World → Prop} {a : Act} {w : World} (Fin : Act → World → Prop) (h1 : c.wpIn F n P (Exit.then Fin Q) a w) (h2 : ∀ a' w', Fin a' w' → c.wpIn F n P (Exit.then (fun _ _ => False) Q) a' w') : (Code.loop c).wpIn F n P Q a w := by
  have mono : ∀ {K K' : Act → World → Prop} {a : Act} {w : World}, (∀ a w, K a w → K' a w) → c.wpIn F n P (Exit.then K Q) a w → c.wpIn F n P (Exit.then K' Q) a w := fun hk h b k cs hro hb hr => by
    obtain ⟨e, a', w', q, r⟩ := h b k cs hro hb hr
    exact ⟨e, a', w', by cases e <;> first | exact hk _ _ q | exact q, r⟩
  classical
  by_cases hf : Fin a w
  · exact wpIn_loop Fin (fun _ _ => 0) hf (fun a w h => mono (fun _ _ h => h.elim) (h2 a w h))
  · refine wpIn_loop (fun a' w' => (a' = a ∧ w' = w) ∨ Fin a' w') (fun a' w' => if Fin a' w' then 0 else 1) (.inl ⟨rfl, rfl⟩) ?_
    rintro a' w' (⟨rfl, rfl⟩ | h)
    · exact mono (fun a'' w'' h => ⟨.inr h, by rw [if_pos h, if_neg hf]; exact Nat.one_pos⟩) h1
    · exact mono (fun _ _ h => h.elim) (h2 a' w' h)
theorem cons_of {α : Type} {l : List α} {n : Nat} (h : l.length = n + 1) : ∃ a t, l = a :: t ∧ t.length = n := by
  cases l with
  | nil => simp at h
  | cons a t => exact ⟨a, t, rfl, by simpa using h⟩
set_option maxRecDepth 100000 in
set_option maxHeartbeats 4000000 in
theorem union_raw (T : Topo) (k x : Int) (hv : validB T = true) (hc : compB T k x = true) (w : World) (vs : Array Value) (hR : RepL (EF fun _ => False) w vs.toList [topoV T, .slice 1 (compP k x)]) (gl : Glob (fun _ => False) w) :
    Calls Tryz.prog 116 vs w fun e w' => ∃ v, e = .returned (.tuple #[v, .int .i64 0]) ∧ Ext w w' ∧ w'.ownsRow w.heap.size 4 1 v (2 * T.links.length) ((maskL T k x).map Value.bool) := by
  have hll := links_le hv
  have hS := Sat.start (fun _ => False) w (fun _ h => h.elim) gl
  refine (callsIn_wide (n := 4)).1 ?_
  refine callsIn_of_wp_marks Tryz.func116 rfl trivial ?_ rfl
  have hs0 := enter_sat (N := 41) hS hR (by have := hR.1; simp at this; omega)
  have hc0 : Came w.heap.size 0 (EF fun _ => False) w (EF fun _ => False) w := ⟨rfl, Goes.refl _ _, Below.refl _ _⟩
  refine wpIn_seq (piece (K := fun s => s = ⟨[(1, .slice 1 (compP k x)), (2, .pin (topoP T) 0)], []⟩) hc0 hs0 ?_ ?_)
  · skip
    refine W_chain (.a 3 rfl <| .k [1, 2] rfl) ?_
    exact rfl
  rintro _ E1 a1 w1 rfl hs1 g1 b1
  refine wpIn_seq (piece (K := fun s => s = ⟨[(1, .slice 1 (compP k x)), (2, .pin (topoP T) 0)], []⟩) ⟨rfl, g1, b1⟩ hs1 ?_ ?_)
  · skip
    refine W_cs (.a 1 rfl <| .c rfl (valid_can T) rfl <| .a 1 rfl <| .k [1, 2, 12] rfl) ?_
    rw [hv]
    refine W_cond rfl (fun hc => ?_) (fun hc => ?_)
    · cases hc
    · refine W_k [1, 2] rfl (W_skip ?_)
      exact rfl
  rintro _ E2 a2 w2 rfl hs2 g2 b2
  refine wpIn_seq (piece (K := fun s => s = ⟨[(1, .slice 1 (compP k x)), (2, .pin (topoP T) 0), (6, .ptr 1 0)], [some (.row 4 1 (2 * T.links.length) (boolsP (List.replicate (2 * T.links.length) false))), some (.cells 22 [.own 0])]⟩) ⟨rfl, g2, b2⟩ hs2 ?_ ?_)
  · skip
    refine W_region ?_
    refine WR_a 1 rfl <| WR_c rfl (arcs_can T (by omega)) rfl <| WR_l (l_make rfl (fok.rk.get rfl) rfl rfl (show 2 * (T.links.length : Int) = ((2 * T.links.length : Nat) : Int) by omega) (show 2 * (T.links.length : Int) = ((2 * T.links.length : Nat) : Int) by omega) ⟨by unfold maxLen; omega, by omega⟩) rfl <| WR_a 2 rfl <| WR_k [1, 2, 6] rfl ?_
    rw [← zeros_bools]
    rfl
  rintro _ E3 a3 w3 rfl hs3 g3 b3
  obtain ⟨n, hn⟩ : ∃ n, 2 * T.links.length = n := ⟨_, rfl⟩
  rw [hn] at hs3
  obtain ⟨B, cs1, hB, hBb, hBh, hBr⟩ := hs3.sat.blk 1 _ rfl
  obtain ⟨cs0, hrow, hcs0⟩ := hs3.sat.blk 0 _ rfl
  have t1 := hs3.tmp 1 _ rfl
  have t2 := hs3.tmp 2 _ rfl
  have t6 := hs3.tmp 6 _ rfl
  have hsz := hs3.size
  have hdf := hs3.dfr
  obtain ⟨arr, ds⟩ := a3
  simp only at hdf hsz
  subst hdf
  obtain ⟨al⟩ := arr
  replace hsz : al.length = 41 := by simpa using hsz
  obtain ⟨x0, z0, e0, k0⟩ := cons_of (n := 40) hsz
  obtain ⟨x1, z1, e1, k1⟩ := cons_of (n := 39) k0
  obtain ⟨x2, z2, e2, k2⟩ := cons_of (n := 38) k1
  obtain ⟨x3, z3, e3, k3⟩ := cons_of (n := 37) k2
  obtain ⟨x4, z4, e4, k4⟩ := cons_of (n := 36) k3
  obtain ⟨x5, z5, e5, k5⟩ := cons_of (n := 35) k4
  obtain ⟨x6, z6, e6, k6⟩ := cons_of (n := 34) k5
  obtain ⟨x7, z7, e7, k7⟩ := cons_of (n := 33) k6
  obtain ⟨x8, z8, e8, k8⟩ := cons_of (n := 32) k7
  obtain ⟨x9, z9, e9, k9⟩ := cons_of (n := 31) k8
  obtain ⟨x10, z10, e10, k10⟩ := cons_of (n := 30) k9
  obtain ⟨x11, z11, e11, k11⟩ := cons_of (n := 29) k10
  obtain ⟨x12, z12, e12, k12⟩ := cons_of (n := 28) k11
  obtain ⟨x13, z13, e13, k13⟩ := cons_of (n := 27) k12
  obtain ⟨x14, z14, e14, k14⟩ := cons_of (n := 26) k13
  obtain ⟨x15, z15, e15, k15⟩ := cons_of (n := 25) k14
  obtain ⟨x16, z16, e16, k16⟩ := cons_of (n := 24) k15
  obtain ⟨x17, z17, e17, k17⟩ := cons_of (n := 23) k16
  obtain ⟨x18, z18, e18, k18⟩ := cons_of (n := 22) k17
  obtain ⟨x19, z19, e19, k19⟩ := cons_of (n := 21) k18
  obtain ⟨x20, z20, e20, k20⟩ := cons_of (n := 20) k19
  obtain ⟨x21, z21, e21, k21⟩ := cons_of (n := 19) k20
  obtain ⟨x22, z22, e22, k22⟩ := cons_of (n := 18) k21
  obtain ⟨x23, z23, e23, k23⟩ := cons_of (n := 17) k22
  obtain ⟨x24, z24, e24, k24⟩ := cons_of (n := 16) k23
  obtain ⟨x25, z25, e25, k25⟩ := cons_of (n := 15) k24
  obtain ⟨x26, z26, e26, k26⟩ := cons_of (n := 14) k25
  obtain ⟨x27, z27, e27, k27⟩ := cons_of (n := 13) k26
  obtain ⟨x28, z28, e28, k28⟩ := cons_of (n := 12) k27
  obtain ⟨x29, z29, e29, k29⟩ := cons_of (n := 11) k28
  obtain ⟨x30, z30, e30, k30⟩ := cons_of (n := 10) k29
  obtain ⟨x31, z31, e31, k31⟩ := cons_of (n := 9) k30
  obtain ⟨x32, z32, e32, k32⟩ := cons_of (n := 8) k31
  obtain ⟨x33, z33, e33, k33⟩ := cons_of (n := 7) k32
  obtain ⟨x34, z34, e34, k34⟩ := cons_of (n := 6) k33
  obtain ⟨x35, z35, e35, k35⟩ := cons_of (n := 5) k34
  obtain ⟨x36, z36, e36, k36⟩ := cons_of (n := 4) k35
  obtain ⟨x37, z37, e37, k37⟩ := cons_of (n := 3) k36
  obtain ⟨x38, z38, e38, k38⟩ := cons_of (n := 2) k37
  obtain ⟨x39, z39, e39, k39⟩ := cons_of (n := 1) k38
  obtain ⟨x40, z40, e40, k40⟩ := cons_of (n := 0) k39
  have e41 := List.eq_nil_of_length_eq_zero k40
  subst e41
  subst e40
  subst e39
  subst e38
  subst e37
  subst e36
  subst e35
  subst e34
  subst e33
  subst e32
  subst e31
  subst e30
  subst e29
  subst e28
  subst e27
  subst e26
  subst e25
  subst e24
  subst e23
  subst e22
  subst e21
  subst e20
  subst e19
  subst e18
  subst e17
  subst e16
  subst e15
  subst e14
  subst e13
  subst e12
  subst e11
  subst e10
  subst e9
  subst e8
  subst e7
  subst e6
  subst e5
  subst e4
  subst e3
  subst e2
  subst e1
  subst e0
  clear k0 k1 k2 k3 k4 k5 k6 k7 k8 k9 k10 k11 k12 k13 k14 k15 k16 k17 k18 k19 k20 k21 k22 k23 k24 k25 k26 k27 k28 k29 k30 k31 k32 k33 k34 k35 k36 k37 k38 k39 k40 hsz
  skip
  have e1 : Act.eval ⟨⟨[x0, x1, x2, x3, x4, x5, x6, x7, x8, x9, x10, x11, x12, x13, x14, x15, x16, x17, x18, x19, x20, x21, x22, x23, x24, x25, x26, x27, x28, x29, x30, x31, x32, x33, x34, x35, x36, x37, x38, x39, x40]⟩, []⟩ (.tmp 1) = x1 := rfl
  have e2 : Act.eval ⟨⟨[x0, x1, x2, x3, x4, x5, x6, x7, x8, x9, x10, x11, x12, x13, x14, x15, x16, x17, x18, x19, x20, x21, x22, x23, x24, x25, x26, x27, x28, x29, x30, x31, x32, x33, x34, x35, x36, x37, x38, x39, x40]⟩, []⟩ (.tmp 2) = x2 := rfl
  have e6 : Act.eval ⟨⟨[x0, x1, x2, x3, x4, x5, x6, x7, x8, x9, x10, x11, x12, x13, x14, x15, x16, x17, x18, x19, x20, x21, x22, x23, x24, x25, x26, x27, x28, x29, x30, x31, x32, x33, x34, x35, x36, x37, x38, x39, x40]⟩, []⟩ (.tmp 6) = x6 := rfl
  rw [e1] at t1
  rw [e2] at t2
  rw [e6] at t6
  clear e1 e2 e6
  cases t1 with
  | slice lb lo _ lcap lcs _ _ hl1 hl2 hlb hlM hlc hll' hlr =>
    match lcs, hll', hlc, hlr with
    | [u0, u1], _, hlc, hlr =>
      have hu0 := rep_raw (hlr 0 u0 _ rfl rfl)
      have hu1 := rep_raw (hlr 1 u1 _ rfl rfl)
      subst hu0
      subst hu1
      have l0 := hlc 0 _ rfl
      have l1 := hlc 1 _ rfl
      clear hlc hlr
      cases t2 with
      | pin bt bo off tcs _ htb htM htc htl htr =>
        match tcs, htl, htc, htr with
        | [c0, c1, c2], _, htc, htr =>
          have m0 := htc 0 _ rfl
          have m1 := htc 1 _ rfl
          have m2 := htc 2 _ rfl
          have hT3 : RepL E3 w3 [c0, c1, c2] (topoP T) := ⟨rfl, htr⟩
          cases t6 with
          | ptr _ _ B' _ h6 =>
            have hBB : B' = B := by
              rcases h6 with h6 | ⟨n', c', h6⟩
              · rw [hB] at h6; cases h6; rfl
              · rw [hB] at h6; cases h6
            subst hBB
            clear h6
            simp only [Nat.add_zero] at l0 l1 m0 m1 m2 ⊢
            have hcw := cwithin_can T k x
            rw [hc] at hcw
            have E34 : Ext w3 (w3.alloc (.cells #[.int .i64 k, .int .i64 x] 27)) := (Ext.refl w3).alloc _
            have hwi := (callsIn_wide (n := 3)).2 (hcw (fun _ => False) (w3.alloc (.cells #[.int .i64 k, .int .i64 x] 27)) #[.agg #[c0, c1, c2], .agg #[.int .i64 k, .int .i64 x]] (fun _ h => h.elim) ((hs3.sat.gl.sub (fun _ h => h.elim)).goes (E := EF fun _ => False) (E' := EF fun _ => False) (.ext E34)) (RepL.cons (.agg _ _ rfl (fun j z u k1 k2 => ((hT3.pure (fun _ h => h.elim) : RepL (EF fun _ => False) w3 [c0, c1, c2] (topoP T)).2 j z u (by simpa using k1) k2).goes (.ext E34))) (RepL.cons (.agg _ _ rfl (fun j z u k1 k2 => (RepL.cons (.raw _) (RepL.cons (.raw _) (RepL.nil _ _)) : RepL (EF fun _ => False) _ [.int .i64 k, .int .i64 x] (compP k x)).2 j z u (by simpa using k1) k2)) (RepL.nil _ _))))
            gi_wp2
            refine loop_two (fun a' w' => ∃ (y0 y1 y2 y3 y4 y5 y7 y8 y9 y10 y11 y12 y13 y14 y15 y16 y19 y20 y21 y22 y23 y24 y25 y26 y27 y28 y29 y30 y31 y32 y33 y34 y35 y36 y37 y38 y39 y40 : Value) (D : Nat), a' = ⟨#[y0, y1, y2, y3, y4, y5, Value.pointer (some ⟨B', 0, none⟩), y7, y8, y9, y10, y11, y12, y13, y14, y15, y16, Value.int .i64 1, Value.int .i64 1, y19, y20, y21, y22, y23, y24, y25, y26, y27, y28, y29, y30, y31, y32, y33, y34, y35, y36, y37, y38, y39, y40], [⟨.collected D, #[]⟩]⟩ ∧ UniW w.heap.size n B' (E3.at_ 0) E3.M (maskL T k x) w' ∧ Below w.heap.size w w' ∧ w.heap.size ≤ D ∧ w'.heap[D]? = some (.deferred (some []))) ?_ ?_
            · gi_wp2
              refine ⟨trivial, hwi.mono ?_⟩
              rintro e w5 ⟨v5, rfl, hE5, r, rfl, hv5⟩
              cases hv5
              have q0 : w5.cell? ⟨bt, bo, none⟩ = some c0 := hE5.cell (cell_al _ m0)
              have q1 : w5.cell? ⟨bt, bo + 1, none⟩ = some c1 := hE5.cell (cell_al _ m1)
              have q2 : w5.cell? ⟨bt, bo + 2, none⟩ = some c2 := hE5.cell (cell_al _ m2)
              have q3 : w5.cell? ⟨w3.heap.size, 0, none⟩ = some (.int .i64 k) := hE5.cell (new2 w3 _ _ _).1
              have q4 : w5.cell? ⟨w3.heap.size, 1, none⟩ = some (.int .i64 x) := hE5.cell (new2 w3 _ _ _).2
              gi_wp2
              refine ⟨trivial, (links_in c0 c1 c2 k x 3 w5).mono ?_⟩
              rintro e w6 ⟨rfl, rfl⟩
              gi_wp2
              have E35 : Ext w3 w5 := E34.trans hE5
              have hz5 := E35.size
              have E56 : Ext w5 ((w5.alloc (.cells #[c0, c1, c2] 25)).alloc (.cells #[.int .i64 k, .int .i64 x] 27)) := ((Ext.refl w5).alloc _).alloc _
              have hz6 : ((w5.alloc (.cells #[c0, c1, c2] 25)).alloc (.cells #[.int .i64 k, .int .i64 x] 27)).heap.size = w5.heap.size + 2 := by simp
              have p2 : ((w5.alloc (.cells #[c0, c1, c2] 25)).alloc (.cells #[.int .i64 k, .int .i64 x] 27)).cell? ⟨w5.heap.size, 2, none⟩ = some c2 := cell_al _ (new3 w5 _ _ _ _)
              have p3 : ((w5.alloc (.cells #[c0, c1, c2] 25)).alloc (.cells #[.int .i64 k, .int .i64 x] 27)).cell? ⟨w5.heap.size + 1, 0, none⟩ = some (.int .i64 k) := by
                have := (new2 (w5.alloc (.cells #[c0, c1, c2] 25)) (.int .i64 k) (.int .i64 x) 27).1
                rwa [World.size_alloc] at this
              have p4 : ((w5.alloc (.cells #[c0, c1, c2] 25)).alloc (.cells #[.int .i64 k, .int .i64 x] 27)).cell? ⟨w5.heap.size + 1, 1, none⟩ = some (.int .i64 x) := by
                have := (new2 (w5.alloc (.cells #[c0, c1, c2] 25)) (.int .i64 k) (.int .i64 x) 27).2
                rwa [World.size_alloc] at this
              generalize (w5.alloc (.cells #[c0, c1, c2] 25)).alloc (.cells #[.int .i64 k, .int .i64 x] 27) = w6 at *
              have E36 : Ext w3 w6 := E35.trans E56
              obtain ⟨hU3, hone⟩ := UniW.of hs3.sat hB
              have hU6 : UniW w.heap.size n B' (E3.at_ 0) E3.M (List.replicate n false) w6 := hU3.same E36.size (fun b cs t fz hb => E36.block b (Array.getElem?_eq_some_iff.1 hb).1)
              have hL3 : E3.L = 2 := hs3.sat.len
              obtain ⟨G, hGv, hGM⟩ : ∃ G, (∀ b, blockOf (E3.at_ 0) = some b → b = G) ∧ (G = w6.heap.size ∨ E3.M G) := by
                cases hbo : blockOf (E3.at_ 0) with
                | none => exact ⟨_, fun b h => (by cases h), .inl rfl⟩
                | some g => exact ⟨g, fun b h => (by cases h; rfl), .inr ((hs3.sat.mm g).2 (.inr ⟨0, _, rfl, hbo⟩))⟩
              have hlk := lnkV_of (n₁ := w6.heap.size) (hT3.2 2 c2 _ rfl rfl) E36 hGM (fun b hb => hs3.sat.lt hb)
              have hGc : w5.heap.size + 1 ≠ G := by
                rcases hGM with h | h
                · omega
                · have := hs3.sat.lt h; omega
              have hk3 : k = 1 ∨ k = 2 ∨ k = 3 := by
                unfold compB at hc
                split at hc
                · exact .inl ‹_›
                · split at hc
                  · exact .inr (.inl ‹_›)
                  · split at hc
                    · exact .inr (.inr ‹_›)
                    · cases hc
              refine wpIn_rangeFunc_ownF (α := Rng.Ix T.links.length) rfl (by omega) (gf := 159) (lb := #[.pointer (some ⟨w5.heap.size, 0, none⟩), .pointer (some ⟨w5.heap.size + 1, 0, none⟩)]) rfl trivial (enters_of Tryz.func159 (by kernel_rfl) rfl)
                (encs := fun i => #[Value.int .i64 (i.1 : Int)]) (links_stops T k x hk3 (by omega) 3 w5.heap.size (w5.heap.size + 1) G (by omega) c2 w6 (by omega) (by omega) hGc p2 p3 p4 hlk) (fun h1 h2 => h1.trans h2) (fun W l o o' hl ho _ _ => ⟨(grownBy_putObj' W l o').size, fun b h1 _ => (grownBy_putObj' W l o').block b (by have := (Array.getElem?_eq_some_iff.1 ho).1; omega) (fun e => by cases e; omega)⟩) (Below.refl _ _) (fun _ => rfl)
                (fun l W => UniW w.heap.size n B' (E3.at_ 0) E3.M (mk2 n l) W ∧ Kp G w6.heap.size w6 W ∧ Below w.heap.size w W) (fun _ _ _ => False)
                (fun s W W' row hs hg hr => ⟨hs.1.grown hg (fun r e => (hr r e).2), ⟨Nat.le_trans hs.2.1.size hg.size, fun b h1 h2 => (hg.block b (by have := hs.2.1.size; omega) (fun e => by have := (hr b e.symm).1; omega)).trans (hs.2.1.block b h1 h2)⟩, hs.2.2.trans ⟨hg.os, hg.tape, hg.output, hg.size, fun b h1 => hg.block b (by have := hs.1.bl; omega) (fun e => by have := (hr b e.symm).1; have := hU6.bl; omega)⟩⟩)
                (fun _ _ _ _ _ h _ _ => h) ⟨hU6, Kp.refl _ _ _, b3.trans (Below.ofExt E36 hs3.sat.bl)⟩
                (fun i => ⟨#[x0, Value.slice (some ⟨lb, lo, none⟩) 1 lcap, Value.pointer (some ⟨bt, bo, none⟩), x3, x4, x5, Value.pointer (some ⟨B', 0, none⟩), x7, Value.pointer (some ⟨w3.heap.size, 0, none⟩), Value.int .i64 (i.1 : Int), x10, x11, x12, x13, x14, x15, Value.slice (some ⟨lb, lo, none⟩) 1 lcap, Value.int .i64 1, Value.int .i64 0, Value.bool true, Value.pointer (some ⟨lb, lo, none⟩), Value.agg #[.int .i64 k, .int .i64 x], Value.agg #[c0, c1, c2], Value.agg #[.int .i64 k, .int .i64 x], Value.bool true, Value.bool false, Value.agg #[c0, c1, c2], Value.agg #[.int .i64 k, .int .i64 x], Value.func (.func 159) #[] #[.pointer (some ⟨w5.heap.size, 0, none⟩), .pointer (some ⟨w5.heap.size + 1, 0, none⟩)], Value.int .i64 (i.1 : Int), x30, x31, x32, x33, x34, x35, x36, x37, x38, x39, x40], []⟩) ?assign ?body ?done ?stop
              case assign =>
                intro l i W K hK
                gi_wp2
                exact hK
              case body =>
                rintro l pre i W ⟨hU, hK, hb⟩ hlt
                have hMl := mk2_len (n := n) pre
                have hi2 := i.2
                have hb11 := body11 (mk2 n pre) i.1 (by rw [hMl]; omega) (by rw [hMl]; omega)
                rw [hMl, ← mk2_snoc] at hb11
                have hUd : UniW w.heap.size n B' (E3.at_ 0) E3.M (mk2 n pre) { W with drawn := W.drawn + 1 } := hU.same (Nat.le_refl _) (fun _ _ _ _ _ => rfl)
                have hsat := hUd.sat hs3.sat rfl ⟨_, _, _, _, rfl⟩ hB hBb hone
                refine wpIn_block (wpIn_region_any mixed (wpAny_round (fun j o ho c => ?_) ?_ _ _ _ _ (hb11.any (fun _ => False) w.heap.size E3 { W with drawn := W.drawn + 1 } E3 _ { W with drawn := W.drawn + 1 } ⟨hL3, Goes.refl _ _, Below.refl _ _⟩ ⟨hsat, ?_, rfl, rfl⟩ _ ?_)))
                · exact no_defer (by kernel_rfl) j o ho c
                · rintro ⟨a', w', h⟩
                  exact h
                · intro k' p' hk'
                  simp only [look, Bool.cond_eq_ite] at hk'
                  split at hk'
                  · rename_i he
                    have := Nat.eq_of_beq_eq_true he
                    subst this
                    cases hk'
                    exact .ptr 1 0 B' (by omega) (.inl hB)
                  · split at hk'
                    · rename_i he
                      have := Nat.eq_of_beq_eq_true he
                      subst this
                      cases hk'
                      exact .raw _
                    · cases hk'
                · rintro a' w' ⟨⟨t', σ'⟩, E', hσ, hs', hg', hb'⟩
                  simp only at hσ
                  subst hσ
                  have hB'2 : E'.at_ 1 = .pointer (some ⟨B', 0, none⟩) := (hg'.at_ 1 (by omega)).trans hB
                  have hv' : E'.at_ 0 = E3.at_ 0 := hg'.at_ 0 (by omega)
                  obtain ⟨hU', _⟩ := UniW.of hs'.sat hB'2
                  rw [hv'] at hU'
                  have hMM : ∀ b, E3.M b → E'.M b := fun b hb => by
                    rcases (hs3.sat.mm b).1 hb with h | ⟨j, blk, h1, h2⟩
                    · exact h.elim
                    · match j, h1 with
                      | 0, _ => exact (hs'.sat.mm b).2 (.inr ⟨0, _, rfl, by rw [hv']; exact h2⟩)
                      | 1, _ => exact (hs'.sat.mm b).2 (.inr ⟨1, _, rfl, by rw [hg'.at_ 1 (by omega)]; exact h2⟩)
                      | _ + 2, h1 => simp at h1
                  have hown : ∀ b, E3.M b → blockOf (E3.at_ 0) = some b ∨ b = B' := fun b hb => by
                    rcases (hs3.sat.mm b).1 hb with h | ⟨j, blk, h1, h2⟩
                    · exact h.elim
                    · match j, h1 with
                      | 0, _ => exact .inl h2
                      | 1, _ => rw [hB] at h2; cases h2; exact .inr rfl
                      | _ + 2, h1 => simp at h1
                  have hfin : UniW w.heap.size n B' (E3.at_ 0) E3.M (mk2 n (pre ++ [i])) w' := ⟨hU'.bl, hU'.row, hU'.box, hU'.gl.sub hMM⟩
                  have hzW : w6.heap.size ≤ W.heap.size := hK.size
                  have hkp : Kp G w6.heap.size W w' := ⟨hg'.size, fun b h1 h2 => by
                    by_cases hm : E3.M b
                    · rcases hown b hm with h | h
                      · exact absurd (hGv b h) h2
                      · rw [h, hU'.box, hU.box]
                    · exact hg'.heap b (show b < W.heap.size by omega) hm⟩
                  refine ⟨⟨hg'.size, fun b o hb ho => ?_⟩, hkp, hfin, hK.trans hkp, hb.trans ⟨hb'.os, hb'.tape, hb'.output, hb'.size, hb'.block⟩⟩
                  have hnm : ¬ E3.M b := fun hm => by
                    rcases hown b hm with h | h
                    · rcases hU.row.2 with ⟨h1, _⟩ | ⟨g, cap, cur, h1, _, h3, _⟩
                      · rw [h1] at h; cases h
                      · rw [h1] at h
                        cases h
                        rw [h3] at hb
                        cases hb
                        cases ho
                    · rw [h, hU.box] at hb
                      cases hb
                      cases ho
                  rw [hg'.heap b (Array.getElem?_eq_some_iff.1 hb).1 hnm]
                  exact hb
              case done =>
                rintro D ys W hD rfl ⟨hU, hK, hb⟩ hDh
                have hmk : mk2 n (got (partB k x T.links) T.links.length T.links.length) = maskL T k x := by rw [← hn]; exact mask_eq T k x
                rw [hmk] at hU
                gi_wp2
                exact ⟨_, _, _, _, _, _, _, _, _, _, _, _, _, _, _, _, _, _, _, _, _, _, _, _, _, _, _, _, _, _, _, _, _, _, _, _, _, _, D, rfl, hU, hb, by have := hU6.bl; omega, hDh⟩
              case stop =>
                rintro D c pre W _ _ h _
                exact h.elim
            · rintro a' w' ⟨y0, y1, y2, y3, y4, y5, y7, y8, y9, y10, y11, y12, y13, y14, y15, y16, y19, y20, y21, y22, y23, y24, y25, y26, y27, y28, y29, y30, y31, y32, y33, y34, y35, y36, y37, y38, y39, y40, D, rfl, hU, hb, hD, hDh⟩
              have hbx : w'.cell? ⟨B', 0, none⟩ = some (E3.at_ 0) := by
                unfold World.cell?
                simp only [hU.box]
                rfl
              gi_wp2
              have hput := grownBy_putObj' w' D (.deferred none)
              have hnd : ∀ (g : Nat) (o : Array Value) (e : TypeId), w'.heap[g]? = some (Obj.cells o e (0, 0)) → (w'.putObj D (.deferred none)).heap[g]? = w'.heap[g]? := fun g o e hg => hput.block g (Array.getElem?_eq_some_iff.1 hg).1 (fun h => by cases h; rw [hDh] at hg; cases hg)
              refine ⟨by simp, .inl ⟨_, _, rfl, run_takeDeferred hDh, ?_⟩⟩
              rw [hn]
              exact ⟨_, results_tmp2 rfl _ _ _, E3.at_ 0, rfl, hb.trans ⟨hput.os, hput.tape, hput.output, hput.size, fun b h1 => hput.block b (by have := hU.bl; omega) (fun h => by cases h; omega)⟩, row_same hU.row (fun g o hg => hnd g o _ hg)⟩
end PW
end Go.Proofs.YtbpgndbjbaoolaaGreat

/- The iterator of package component: links, and where it is stopped. -/
namespace Go.Proofs.YtbpgndbjbaoolaaGreat
set_option linter.unusedVariables false
set_option linter.unusedSimpArgs false
namespace Rng
open Go.RowKit Go.Shelf Net

attribute [local go_sem] Oper.semAt_some

set_option maxRecDepth 100000 in
set_option maxHeartbeats 4000000 in
theorem links1_st (F : Fence) (n : Nat) (hf : F.fn 159) (hro : F.round = none) (hn : 1 ≤ n) (l Bt Bc G n₁ b off cap : Nat) (L : List Lnk) (x : Int) (hreach : L.length ≤ 1000) (hb : b < n₁) (hbG : b ≠ G) (hc1 : Bc < n₁) (hcG : Bc ≠ G) (J Jx : List (Ix L.length) → World → Prop)
    (hY : ∀ pre (i : Ix L.length) W, J pre W → pre.length < L.length → YieldAt F (n - 1) Tryz.prog l #[.int .i64 (i.1 : Int)] W fun e W' =>
      (e = .returned (.bool true) ∧ J (pre ++ [i]) W' ∧ Kp G n₁ W W') ∨ (e = .returned (.bool false) ∧ Jx (pre ++ [i]) W'))
    (W : World) (hBt : W.cell? ⟨Bt, 2, none⟩ = some (.slice (some ⟨b, off, none⟩) L.length cap)) (hBk : W.cell? ⟨Bc, 0, none⟩ = some (.int .i64 1)) (hBx : W.cell? ⟨Bc, 1, none⟩ = some (.int .i64 x))
    (hcs : ∀ i, i < L.length → W.cell? ⟨b, off + i * 7, none⟩ = some (.int .i64 (lnk L i).a) ∧ W.cell? ⟨b, off + i * 7 + 1, none⟩ = some (.int .i64 (lnk L i).b) ∧ W.cell? ⟨b, off + i * 7 + 2, none⟩ = some (.int .i64 (lnk L i).c0) ∧ W.cell? ⟨b, off + i * 7 + 3, none⟩ = some (.int .i64 (lnk L i).c1) ∧ W.cell? ⟨b, off + i * 7 + 4, none⟩ = some (.int .i64 (lnk L i).cap) ∧ W.cell? ⟨b, off + i * 7 + 5, none⟩ = some (.int .i64 (lnk L i).delay) ∧ W.cell? ⟨b, off + i * 7 + 6, none⟩ = some (.int .i64 (lnk L i).grp))
    (hsz : n₁ ≤ W.heap.size) (hA : AbidesFrom W.heap.size J) (h0 : J [] W) :
    CallsIn F n Tryz.prog 159 #[.func (.yield l) #[] #[], .pointer (some ⟨Bt, 0, none⟩), .pointer (some ⟨Bc, 0, none⟩)] W fun e W' => (∃ v, e = .returned v) ∧
      ((∃ ys, ys = got (partB 1 x L) L.length L.length ∧ J ys W') ∨ (∃ (pre : List (Ix L.length)) (i : Ix L.length), partB 1 x L i.1 = true ∧ Jx (pre ++ [i]) W')) := by
  refine callsIn_of_wp Tryz.func159 rfl hf ?_ hro
  simp only [Tryz.ntmps159, List.size_toArray, List.length_cons, List.length_nil, Nat.reduceAdd, Nat.reduceSub, Array.replicate_succ, Array.replicate_zero, List.push_toArray, List.append_toArray, List.nil_append, List.cons_append]
  gi_wp2
  gi_loopw [10] (fun i wr => ∃ k : Nat, k ≤ L.length ∧ i = .int .i64 k ∧ J (got (partB 1 x L) L.length k) wr ∧ Kp G n₁ W wr)
    (fun i _ => L.length - (intOf i).toNat)
  case atStart => exact ⟨0, Nat.zero_le _, rfl, h0, Kp.refl _ _ _⟩
  case round =>
    obtain ⟨k, hk, rfl, hJs, hnx⟩ := hrel
    by_cases hlt : k < L.length
    · obtain ⟨a0, a1, a2, a3, a4, a5, a6⟩ := hcs k hlt
      have b0 := (hnx.cell (p := ⟨b, off + k * 7, none⟩) hb hbG).trans a0
      have b1 := (hnx.cell (p := ⟨b, off + k * 7 + 1, none⟩) hb hbG).trans a1
      have b2 := (hnx.cell (p := ⟨b, off + k * 7 + 2, none⟩) hb hbG).trans a2
      have b3 := (hnx.cell (p := ⟨b, off + k * 7 + 3, none⟩) hb hbG).trans a3
      have b4 := (hnx.cell (p := ⟨b, off + k * 7 + 4, none⟩) hb hbG).trans a4
      have b5 := (hnx.cell (p := ⟨b, off + k * 7 + 5, none⟩) hb hbG).trans a5
      have b6 := (hnx.cell (p := ⟨b, off + k * 7 + 6, none⟩) hb hbG).trans a6
      have c0 := (hnx.cell (p := ⟨Bc, 0, none⟩) hc1 hcG).trans hBk
      have c1 := (hnx.cell (p := ⟨Bc, 1, none⟩) hc1 hcG).trans hBx
      clear a0 a1 a2 a3 a4 a5 a6
      obtain ⟨fa, hfa⟩ : ∃ v, (lnk L k).a = v := ⟨_, rfl⟩
      obtain ⟨fb, hfb⟩ : ∃ v, (lnk L k).b = v := ⟨_, rfl⟩
      obtain ⟨fg, hfg⟩ : ∃ v, (lnk L k).grp = v := ⟨_, rfl⟩
      rw [hfa] at b0
      rw [hfb] at b1
      rw [hfg] at b6
      have d0 := cell_al (.cells #[.int .i64 fa, .int .i64 fb, .int .i64 (lnk L k).c0, .int .i64 (lnk L k).c1, .int .i64 (lnk L k).cap, .int .i64 (lnk L k).delay, .int .i64 fg] 72) c0
      have d1 := cell_al (.cells #[.int .i64 fa, .int .i64 fb, .int .i64 (lnk L k).c0, .int .i64 (lnk L k).c1, .int .i64 (lnk L k).cap, .int .i64 (lnk L k).delay, .int .i64 fg] 72) c1
      have hJ2 : J (got (partB 1 x L) L.length k) (wr.alloc (.cells #[.int .i64 fa, .int .i64 fb, .int .i64 (lnk L k).c0, .int .i64 (lnk L k).c1, .int .i64 (lnk L k).cap, .int .i64 (lnk L k).delay, .int .i64 fg] 72)) := hA _ _ _ none hJs (World.grownBy_alloc _ _ none) (fun r e => by cases e)
      have hK2 : Kp G n₁ W (wr.alloc (.cells #[.int .i64 fa, .int .i64 fb, .int .i64 (lnk L k).c0, .int .i64 (lnk L k).c1, .int .i64 (lnk L k).cap, .int .i64 (lnk L k).delay, .int .i64 fg] 72)) := hnx.trans (Kp.alloc (by have := hnx.size; omega) _)
      by_cases hp : (k : Int) = x
      · subst hp
        obtain ⟨fn, tmps, assign, body, hy, hR⟩ := hY _ ⟨k, hlt⟩ _ hJ2 (by have := got_len (partB 1 (k : Int) L) L.length k; omega)
        dsimp only at hy
        have hpk : partB 1 (k : Int) L k = true := by unfold partB; simp
        gi_wp2
        refine hR.mono ?_
        rintro e W3 (⟨rfl, hJ3, hk3⟩ | ⟨rfl, hJx3⟩)
        · gi_wp2
          go_roundw
          case rel => exact ⟨k + 1, by omega, by simp, by rw [got_yes hpk hlt]; exact hJ3, hK2.trans hk3⟩
          case measure => simp [intOf]; omega
        · gi_wp2
          refine bodyPost_ret (results_none rfl _ _ _) rfl ?_
          exact ⟨⟨_, rfl⟩, .inr ⟨_, ⟨k, hlt⟩, hpk, hJx3⟩⟩
      · have hpk : partB 1 x L k = false := by unfold partB; simp [hfa, hfb, hfg, hp]
        gi_wp2
        refine ⟨fun _ h => (by cases h), ?_⟩
        gi_wp2
        go_roundw
        case rel => exact ⟨k + 1, by omega, by simp, by rw [got_no hpk]; exact hJ2, hK2⟩
        case measure => simp [intOf]; omega
    · obtain rfl : k = L.length := by omega
      gi_wp2
      go_end0
      exact ⟨⟨_, rfl⟩, .inl ⟨_, rfl, hJs⟩⟩
set_option maxRecDepth 100000 in
set_option maxHeartbeats 4000000 in
theorem links2_st (F : Fence) (n : Nat) (hf : F.fn 159) (hro : F.round = none) (hn : 1 ≤ n) (l Bt Bc G n₁ b off cap : Nat) (L : List Lnk) (x : Int) (hreach : L.length ≤ 1000) (hb : b < n₁) (hbG : b ≠ G) (hc1 : Bc < n₁) (hcG : Bc ≠ G) (J Jx : List (Ix L.length) → World → Prop)
    (hY : ∀ pre (i : Ix L.length) W, J pre W → pre.length < L.length → YieldAt F (n - 1) Tryz.prog l #[.int .i64 (i.1 : Int)] W fun e W' =>
      (e = .returned (.bool true) ∧ J (pre ++ [i]) W' ∧ Kp G n₁ W W') ∨ (e = .returned (.bool false) ∧ Jx (pre ++ [i]) W'))
    (W : World) (hBt : W.cell? ⟨Bt, 2, none⟩ = some (.slice (some ⟨b, off, none⟩) L.length cap)) (hBk : W.cell? ⟨Bc, 0, none⟩ = some (.int .i64 2)) (hBx : W.cell? ⟨Bc, 1, none⟩ = some (.int .i64 x))
    (hcs : ∀ i, i < L.length → W.cell? ⟨b, off + i * 7, none⟩ = some (.int .i64 (lnk L i).a) ∧ W.cell? ⟨b, off + i * 7 + 1, none⟩ = some (.int .i64 (lnk L i).b) ∧ W.cell? ⟨b, off + i * 7 + 2, none⟩ = some (.int .i64 (lnk L i).c0) ∧ W.cell? ⟨b, off + i * 7 + 3, none⟩ = some (.int .i64 (lnk L i).c1) ∧ W.cell? ⟨b, off + i * 7 + 4, none⟩ = some (.int .i64 (lnk L i).cap) ∧ W.cell? ⟨b, off + i * 7 + 5, none⟩ = some (.int .i64 (lnk L i).delay) ∧ W.cell? ⟨b, off + i * 7 + 6, none⟩ = some (.int .i64 (lnk L i).grp))
    (hsz : n₁ ≤ W.heap.size) (hA : AbidesFrom W.heap.size J) (h0 : J [] W) :
    CallsIn F n Tryz.prog 159 #[.func (.yield l) #[] #[], .pointer (some ⟨Bt, 0, none⟩), .pointer (some ⟨Bc, 0, none⟩)] W fun e W' => (∃ v, e = .returned v) ∧
      ((∃ ys, ys = got (partB 2 x L) L.length L.length ∧ J ys W') ∨ (∃ (pre : List (Ix L.length)) (i : Ix L.length), partB 2 x L i.1 = true ∧ Jx (pre ++ [i]) W')) := by
  refine callsIn_of_wp Tryz.func159 rfl hf ?_ hro
  simp only [Tryz.ntmps159, List.size_toArray, List.length_cons, List.length_nil, Nat.reduceAdd, Nat.reduceSub, Array.replicate_succ, Array.replicate_zero, List.push_toArray, List.append_toArray, List.nil_append, List.cons_append]
  gi_wp2
  gi_loopw [10] (fun i wr => ∃ k : Nat, k ≤ L.length ∧ i = .int .i64 k ∧ J (got (partB 2 x L) L.length k) wr ∧ Kp G n₁ W wr)
    (fun i _ => L.length - (intOf i).toNat)
  case atStart => exact ⟨0, Nat.zero_le _, rfl, h0, Kp.refl _ _ _⟩
  case round =>
    obtain ⟨k, hk, rfl, hJs, hnx⟩ := hrel
    by_cases hlt : k < L.length
    · obtain ⟨a0, a1, a2, a3, a4, a5, a6⟩ := hcs k hlt
      have b0 := (hnx.cell (p := ⟨b, off + k * 7, none⟩) hb hbG).trans a0
      have b1 := (hnx.cell (p := ⟨b, off + k * 7 + 1, none⟩) hb hbG).trans a1
      have b2 := (hnx.cell (p := ⟨b, off + k * 7 + 2, none⟩) hb hbG).trans a2
      have b3 := (hnx.cell (p := ⟨b, off + k * 7 + 3, none⟩) hb hbG).trans a3
      have b4 := (hnx.cell (p := ⟨b, off + k * 7 + 4, none⟩) hb hbG).trans a4
      have b5 := (hnx.cell (p := ⟨b, off + k * 7 + 5, none⟩) hb hbG).trans a5
      have b6 := (hnx.cell (p := ⟨b, off + k * 7 + 6, none⟩) hb hbG).trans a6
      have c0 := (hnx.cell (p := ⟨Bc, 0, none⟩) hc1 hcG).trans hBk
      have c1 := (hnx.cell (p := ⟨Bc, 1, none⟩) hc1 hcG).trans hBx
      clear a0 a1 a2 a3 a4 a5 a6
      obtain ⟨fa, hfa⟩ : ∃ v, (lnk L k).a = v := ⟨_, rfl⟩
      obtain ⟨fb, hfb⟩ : ∃ v, (lnk L k).b = v := ⟨_, rfl⟩
      obtain ⟨fg, hfg⟩ : ∃ v, (lnk L k).grp = v := ⟨_, rfl⟩
      rw [hfa] at b0
      rw [hfb] at b1
      rw [hfg] at b6
      have d0 := cell_al (.cells #[.int .i64 fa, .int .i64 fb, .int .i64 (lnk L k).c0, .int .i64 (lnk L k).c1, .int .i64 (lnk L k).cap, .int .i64 (lnk L k).delay, .int .i64 fg] 72) c0
      have d1 := cell_al (.cells #[.int .i64 fa, .int .i64 fb, .int .i64 (lnk L k).c0, .int .i64 (lnk L k).c1, .int .i64 (lnk L k).cap, .int .i64 (lnk L k).delay, .int .i64 fg] 72) c1
      have hJ2 : J (got (partB 2 x L) L.length k) (wr.alloc (.cells #[.int .i64 fa, .int .i64 fb, .int .i64 (lnk L k).c0, .int .i64 (lnk L k).c1, .int .i64 (lnk L k).cap, .int .i64 (lnk L k).delay, .int .i64 fg] 72)) := hA _ _ _ none hJs (World.grownBy_alloc _ _ none) (fun r e => by cases e)
      have hK2 : Kp G n₁ W (wr.alloc (.cells #[.int .i64 fa, .int .i64 fb, .int .i64 (lnk L k).c0, .int .i64 (lnk L k).c1, .int .i64 (lnk L k).cap, .int .i64 (lnk L k).delay, .int .i64 fg] 72)) := hnx.trans (Kp.alloc (by have := hnx.size; omega) _)
      by_cases hp : fa = x
      · subst hp
        obtain ⟨fn, tmps, assign, body, hy, hR⟩ := hY _ ⟨k, hlt⟩ _ hJ2 (by have := got_len (partB 2 fa L) L.length k; omega)
        dsimp only at hy
        have hpk : partB 2 fa L k = true := by unfold partB; simp [hfa, hfb, hfg]
        gi_wp2
        refine hR.mono ?_
        rintro e W3 (⟨rfl, hJ3, hk3⟩ | ⟨rfl, hJx3⟩)
        · gi_wp2
          go_roundw
          case rel => exact ⟨k + 1, by omega, by simp, by rw [got_yes hpk hlt]; exact hJ3, hK2.trans hk3⟩
          case measure => simp [intOf]; omega
        · gi_wp2
          refine bodyPost_ret (results_none rfl _ _ _) rfl ?_
          exact ⟨⟨_, rfl⟩, .inr ⟨_, ⟨k, hlt⟩, hpk, hJx3⟩⟩
      · by_cases hq : fb = x
        · subst hq
          obtain ⟨fn, tmps, assign, body, hy, hR⟩ := hY _ ⟨k, hlt⟩ _ hJ2 (by have := got_len (partB 2 fb L) L.length k; omega)
          dsimp only at hy
          have hpk : partB 2 fb L k = true := by unfold partB; simp [hfa, hfb, hfg]
          gi_wp2
          refine hR.mono ?_
          rintro e W3 (⟨rfl, hJ3, hk3⟩ | ⟨rfl, hJx3⟩)
          · gi_wp2
            go_roundw
            case rel => exact ⟨k + 1, by omega, by simp, by rw [got_yes hpk hlt]; exact hJ3, hK2.trans hk3⟩
            case measure => simp [intOf]; omega
          · gi_wp2
            refine bodyPost_ret (results_none rfl _ _ _) rfl ?_
            exact ⟨⟨_, rfl⟩, .inr ⟨_, ⟨k, hlt⟩, hpk, hJx3⟩⟩
        · have hpk : partB 2 x L k = false := by unfold partB; simp [hfa, hfb, hfg, hp, hq]
          gi_wp2
          refine ⟨fun _ h => (by cases h), ?_⟩
          gi_wp2
          go_roundw
          case rel => exact ⟨k + 1, by omega, by simp, by rw [got_no hpk]; exact hJ2, hK2⟩
          case measure => simp [intOf]; omega
    · obtain rfl : k = L.length := by omega
      gi_wp2
      go_end0
      exact ⟨⟨_, rfl⟩, .inl ⟨_, rfl, hJs⟩⟩
set_option maxRecDepth 100000 in
set_option maxHeartbeats 4000000 in
theorem links3_st (F : Fence) (n : Nat) (hf : F.fn 159) (hro : F.round = none) (hn : 1 ≤ n) (l Bt Bc G n₁ b off cap : Nat) (L : List Lnk) (x : Int) (hreach : L.length ≤ 1000) (hb : b < n₁) (hbG : b ≠ G) (hc1 : Bc < n₁) (hcG : Bc ≠ G) (J Jx : List (Ix L.length) → World → Prop)
    (hY : ∀ pre (i : Ix L.length) W, J pre W → pre.length < L.length → YieldAt F (n - 1) Tryz.prog l #[.int .i64 (i.1 : Int)] W fun e W' =>
      (e = .returned (.bool true) ∧ J (pre ++ [i]) W' ∧ Kp G n₁ W W') ∨ (e = .returned (.bool false) ∧ Jx (pre ++ [i]) W'))
    (W : World) (hBt : W.cell? ⟨Bt, 2, none⟩ = some (.slice (some ⟨b, off, none⟩) L.length cap)) (hBk : W.cell? ⟨Bc, 0, none⟩ = some (.int .i64 3)) (hBx : W.cell? ⟨Bc, 1, none⟩ = some (.int .i64 x))
    (hcs : ∀ i, i < L.length → W.cell? ⟨b, off + i * 7, none⟩ = some (.int .i64 (lnk L i).a) ∧ W.cell? ⟨b, off + i * 7 + 1, none⟩ = some (.int .i64 (lnk L i).b) ∧ W.cell? ⟨b, off + i * 7 + 2, none⟩ = some (.int .i64 (lnk L i).c0) ∧ W.cell? ⟨b, off + i * 7 + 3, none⟩ = some (.int .i64 (lnk L i).c1) ∧ W.cell? ⟨b, off + i * 7 + 4, none⟩ = some (.int .i64 (lnk L i).cap) ∧ W.cell? ⟨b, off + i * 7 + 5, none⟩ = some (.int .i64 (lnk L i).delay) ∧ W.cell? ⟨b, off + i * 7 + 6, none⟩ = some (.int .i64 (lnk L i).grp))
    (hsz : n₁ ≤ W.heap.size) (hA : AbidesFrom W.heap.size J) (h0 : J [] W) :
    CallsIn F n Tryz.prog 159 #[.func (.yield l) #[] #[], .pointer (some ⟨Bt, 0, none⟩), .pointer (some ⟨Bc, 0, none⟩)] W fun e W' => (∃ v, e = .returned v) ∧
      ((∃ ys, ys = got (partB 3 x L) L.length L.length ∧ J ys W') ∨ (∃ (pre : List (Ix L.length)) (i : Ix L.length), partB 3 x L i.1 = true ∧ Jx (pre ++ [i]) W')) := by
  refine callsIn_of_wp Tryz.func159 rfl hf ?_ hro
  simp only [Tryz.ntmps159, List.size_toArray, List.length_cons, List.length_nil, Nat.reduceAdd, Nat.reduceSub, Array.replicate_succ, Array.replicate_zero, List.push_toArray, List.append_toArray, List.nil_append, List.cons_append]
  gi_wp2
  gi_loopw [10] (fun i wr => ∃ k : Nat, k ≤ L.length ∧ i = .int .i64 k ∧ J (got (partB 3 x L) L.length k) wr ∧ Kp G n₁ W wr)
    (fun i _ => L.length - (intOf i).toNat)
  case atStart => exact ⟨0, Nat.zero_le _, rfl, h0, Kp.refl _ _ _⟩
  case round =>
    obtain ⟨k, hk, rfl, hJs, hnx⟩ := hrel
    by_cases hlt : k < L.length
    · obtain ⟨a0, a1, a2, a3, a4, a5, a6⟩ := hcs k hlt
      have b0 := (hnx.cell (p := ⟨b, off + k * 7, none⟩) hb hbG).trans a0
      have b1 := (hnx.cell (p := ⟨b, off + k * 7 + 1, none⟩) hb hbG).trans a1
      have b2 := (hnx.cell (p := ⟨b, off + k * 7 + 2, none⟩) hb hbG).trans a2
      have b3 := (hnx.cell (p := ⟨b, off + k * 7 + 3, none⟩) hb hbG).trans a3
      have b4 := (hnx.cell (p := ⟨b, off + k * 7 + 4, none⟩) hb hbG).trans a4
      have b5 := (hnx.cell (p := ⟨b, off + k * 7 + 5, none⟩) hb hbG).trans a5
      have b6 := (hnx.cell (p := ⟨b, off + k * 7 + 6, none⟩) hb hbG).trans a6
      have c0 := (hnx.cell (p := ⟨Bc, 0, none⟩) hc1 hcG).trans hBk
      have c1 := (hnx.cell (p := ⟨Bc, 1, none⟩) hc1 hcG).trans hBx
      clear a0 a1 a2 a3 a4 a5 a6
      obtain ⟨fa, hfa⟩ : ∃ v, (lnk L k).a = v := ⟨_, rfl⟩
      obtain ⟨fb, hfb⟩ : ∃ v, (lnk L k).b = v := ⟨_, rfl⟩
      obtain ⟨fg, hfg⟩ : ∃ v, (lnk L k).grp = v := ⟨_, rfl⟩
      rw [hfa] at b0
      rw [hfb] at b1
      rw [hfg] at b6
      have d0 := cell_al (.cells #[.int .i64 fa, .int .i64 fb, .int .i64 (lnk L k).c0, .int .i64 (lnk L k).c1, .int .i64 (lnk L k).cap, .int .i64 (lnk L k).delay, .int .i64 fg] 72) c0
      have d1 := cell_al (.cells #[.int .i64 fa, .int .i64 fb, .int .i64 (lnk L k).c0, .int .i64 (lnk L k).c1, .int .i64 (lnk L k).cap, .int .i64 (lnk L k).delay, .int .i64 fg] 72) c1
      have hJ2 : J (got (partB 3 x L) L.length k) (wr.alloc (.cells #[.int .i64 fa, .int .i64 fb, .int .i64 (lnk L k).c0, .int .i64 (lnk L k).c1, .int .i64 (lnk L k).cap, .int .i64 (lnk L k).delay, .int .i64 fg] 72)) := hA _ _ _ none hJs (World.grownBy_alloc _ _ none) (fun r e => by cases e)
      have hK2 : Kp G n₁ W (wr.alloc (.cells #[.int .i64 fa, .int .i64 fb, .int .i64 (lnk L k).c0, .int .i64 (lnk L k).c1, .int .i64 (lnk L k).cap, .int .i64 (lnk L k).delay, .int .i64 fg] 72)) := hnx.trans (Kp.alloc (by have := hnx.size; omega) _)
      by_cases hp : fg = x
      · subst hp
        obtain ⟨fn, tmps, assign, body, hy, hR⟩ := hY _ ⟨k, hlt⟩ _ hJ2 (by have := got_len (partB 3 fg L) L.length k; omega)
        dsimp only at hy
        have hpk : partB 3 fg L k = true := by unfold partB; simp [hfa, hfb, hfg]
        gi_wp2
        refine hR.mono ?_
        rintro e W3 (⟨rfl, hJ3, hk3⟩ | ⟨rfl, hJx3⟩)
        · gi_wp2
          go_roundw
          case rel => exact ⟨k + 1, by omega, by simp, by rw [got_yes hpk hlt]; exact hJ3, hK2.trans hk3⟩
          case measure => simp [intOf]; omega
        · gi_wp2
          refine bodyPost_ret (results_none rfl _ _ _) rfl ?_
          exact ⟨⟨_, rfl⟩, .inr ⟨_, ⟨k, hlt⟩, hpk, hJx3⟩⟩
      · have hpk : partB 3 x L k = false := by unfold partB; simp [hfa, hfb, hfg, hp]
        gi_wp2
        refine ⟨fun _ h => (by cases h), ?_⟩
        gi_wp2
        go_roundw
        case rel => exact ⟨k + 1, by omega, by simp, by rw [got_no hpk]; exact hJ2, hK2⟩
        case measure => simp [intOf]; omega
    · obtain rfl : k = L.length := by omega
      gi_wp2
      go_end0
      exact ⟨⟨_, rfl⟩, .inl ⟨_, rfl, hJs⟩⟩
end Rng
end Go.Proofs.YtbpgndbjbaoolaaGreat

/- Masks of components: package component's Mask, the reference's. -/
namespace Go.Proofs.YtbpgndbjbaoolaaGreat
set_option linter.unusedVariables false
set_option linter.unusedSimpArgs false
namespace PW
open Go.RowKit Reg Mem Net Rng

/-- A contract with a store of its own, read. -/
theorem Can.ofS {P : Program} {f : FuncId} {ps : List PV} {R : PV → Sto → Prop} {S : PV → Prop} (h : CanS P f ps [] R) (hR : ∀ r σ', R r σ' → ∃ q, Pur σ' r q ∧ S q) : Can P f ps S := fun F w vs hF hG hr => by
  refine (h F w.heap.size (EF F) w vs (Sat.start F w hF hG) hr).mono ?_
  rintro e w' ⟨v, r, σ', E', rfl, h1, h2, h3, h4, h5⟩
  obtain ⟨q, k1, k2⟩ := hR r σ' h1
  exact ⟨v, rfl, h4, q, k2, k1.rep h2 (fun b hb => (h2.mm b).2 (.inl hb)) (fun b hb => (h2.fb b hb).2) v h5⟩
theorem unionS_can (T : Topo) (k x : Int) (hv : validB T = true) (hc : compB T k x = true) : CanS Tryz.prog 116 [topoV T, .slice 1 (compP k x)] [] (fun r σ' => r = .tuple [.own 0, num 0] ∧ σ' = [some (.row 4 1 (2 * T.links.length) (boolsP (maskL T k x)))]) := fun F base E w vs hS hR => by
  refine (union_raw T k x hv hc w vs (hR.pure (fun _ h => h.elim)) (hS.gl.sub fun _ h => h.elim)).mono ?_
  rintro e w' ⟨v, rfl, hE, hrow⟩
  have hrow2 : w'.ownsRow base 4 1 v (2 * T.links.length) ((maskL T k x).map Value.bool) := ⟨hrow.1, hrow.2.imp id fun ⟨g, cap, cur, h1, h2, h3⟩ => ⟨g, cap, cur, h1, Nat.le_trans hS.bl h2, h3⟩⟩
  have hnew : ∀ b, blockOf v = some b → w.heap.size ≤ b ∧ b < w'.heap.size := fun b hb => by
    rcases hrow.2 with ⟨h1, _⟩ | ⟨g, cap, cur, h1, h2, h3, _⟩
    · rw [h1] at hb; cases hb
    · rw [h1] at hb
      cases hb
      exact ⟨h2, (Array.getElem?_eq_some_iff.1 h3).1⟩
  have hone : v.oneCell' = true := by
    rcases hrow.2 with ⟨h1, _⟩ | ⟨g, cap, cur, h1, h2, h3, _⟩ <;> rw [h1] <;> rfl
  have hL : E.L = 0 := hS.len
  have hp := hS.push hE (v := v) (blk := .row 4 1 (2 * T.links.length) (boolsP (maskL T k x))) (fun b h => (hnew b h).1) ⟨_, hrow2, bools_rep _⟩
  refine ⟨_, _, _, E.push v, rfl, ⟨rfl, rfl⟩, hp.1, hp.2, Below.ofExt hE hS.bl, .tuple _ _ rfl (fun i c u h1 h2 => ?_)⟩
  match i, h1, h2 with
  | 0, h1, h2 =>
    simp at h1 h2
    subst h1
    subst h2
    exact .own 0 (by show 0 < E.L + 1; omega) _ (by simp [Env.push, hL]) hone
  | 1, h1, h2 =>
    simp at h1 h2
    subst h1
    subst h2
    exact .raw _
  | _ + 2, h1, h2 => simp at h2
def maskE (T : Topo) (k x : Int) : Int := if (validB T && compB T k x) = true then 0 else 1
def boolsE (e : Int) (L : List Bool) : PV := .tuple [boolsV (if e = 0 then L else []), num e]
theorem maskL_len (T : Topo) (k x : Int) : (maskL T k x).length = 2 * T.links.length := by simp [maskL]
set_option maxRecDepth 10000 in
set_option maxHeartbeats 1000000 in
theorem unionE_can (T : Topo) (k x : Int) (hno : (validB T && compB T k x) = false) : Can Tryz.prog 116 [topoV T, .slice 1 (compP k x)] (· = boolsE 1 []) := by
  refine can_of Tryz.func116 rfl Tryz.ntmps116 rfl ?_
  refine W_cs (.a 3 rfl <| .k [1, 2] rfl) ?_
  refine W_seq ?_
  refine W_cs (.a 1 rfl <| .c rfl (valid_can T) rfl <| .a 1 rfl <| .k [1, 2, 12] rfl) ?_
  refine W_cond rfl (fun h1 => ?_) (fun h1 => ?_)
  · skip
    refine W_cs (.a 2 rfl <| .k [4, 5] rfl) ?_
    refine W_ret ?_
    exact ⟨_, _, ResL.of rfl, Pur.tupleL (PurL.cons Pur.nils (PurL.cons Pur.pure PurL.nil)), rfl⟩
  · have hv : validB T = true := by simpa using h1
    have hc : compB T k x = false := by rw [hv, Bool.true_and] at hno; exact hno
    have hll := links_le hv
    have hcw := cwithin_can T k x
    rw [hc] at hcw
    refine W_skip ?_
    refine W_rs ?_
    refine WR_a 1 rfl <| WR_c rfl (arcs_can T (by omega)) rfl <| WR_l (l_make rfl (fok.rk.get rfl) rfl rfl (show 2 * (T.links.length : Int) = ((2 * T.links.length : Nat) : Int) by omega) (show 2 * (T.links.length : Int) = ((2 * T.links.length : Nat) : Int) by omega) ⟨by unfold maxLen; omega, by omega⟩) rfl <| WR_a 2 rfl <| WR_k [1, 2, 6] rfl ?_
    refine W_seq ?_
    refine W_cs (.a 3 rfl <| .k [2, 6, 16, 17, 18] rfl) ?_
    refine W_block ?_
    refine W_k [2, 6, 16, 17, 18] rfl ?_
    refine W_loop (fun r st => st = ⟨[(2, .pin (topoP T) 0), (6, .ptr 1 0), (16, .slice 1 (compP k x)), (17, num 1), (18, num 0)], [some (.row 4 1 (2 * T.links.length) (zeros [.raw (.bool false)] (2 * T.links.length))), some (.cells 22 [.own 0])]⟩) 0 rfl ?_
    rintro r st rfl
    refine W_cs (.a 1 rfl <| .k [2, 6, 16, 17, 18, 19] rfl) ?_
    refine W_seq ?_
    refine W_cond rfl (fun h2 => ?_) (fun h2 => ?_)
    · skip
      refine W_skip ?_
      refine W_seq ?_
      refine W_block ?_
      refine W_rs ?_
      refine WR_v (y_ix (0) rfl) rfl <| WR_v (y_la rfl ((show ((compP k x).drop 0).take 2 = compP k x from rfl)) rfl) rfl <| WR_a 2 rfl <| WR_k [2, 6, 8, 16, 17, 18] rfl ?_
      refine W_seq ?_
      refine W_cs (.a 2 rfl <| .c rfl (hcw) rfl <| .a 1 rfl <| .k [2, 6, 8, 16, 17, 18, 25] rfl) ?_
      refine W_cond rfl (fun h3 => ?_) (fun h3 => ?_)
      · skip
        refine W_cs (.a 2 rfl <| .k [4, 5] rfl) ?_
        refine W_ret ?_
        exact ⟨_, _, ResL.of rfl, Pur.tupleL (PurL.cons Pur.nils (PurL.cons Pur.pure PurL.nil)), rfl⟩
      · exact absurd h3 (by decide)
    · exact absurd h2 (by decide)
set_option maxRecDepth 10000 in
set_option maxHeartbeats 1000000 in
theorem maskS_can (T : Topo) (k x : Int) (hv : validB T = true) (hc : compB T k x = true) : CanS Tryz.prog 75 [topoV T, compV k x] [] (fun r σ' => r = .tuple [.own 0, num 0] ∧ σ' = [some (.row 4 1 (2 * T.links.length) (boolsP (maskL T k x)))]) := by
  refine canS_of Tryz.func75 rfl Tryz.ntmps75 rfl ?_
  refine W_cs (.a 4 rfl <| .k [2, 3] rfl) ?_
  refine W_rs ?_
  refine WR_a 3 rfl <| WR_cS rfl rfl (CanS.mono (unionS_can T k x hv hc) (fun r σ' h => ?_))
  obtain ⟨rfl, rfl⟩ := h
  refine WR_a 4 rfl <| WR_k [4, 5] rfl ?_
  refine W_ret ?_
  exact ⟨_, ResL.of rfl, rfl, rfl⟩
set_option maxRecDepth 10000 in
set_option maxHeartbeats 1000000 in
theorem mask_can (T : Topo) (k x : Int) : Can Tryz.prog 75 [topoV T, compV k x] (· = boolsE (maskE T k x) (maskL T k x)) := by
  cases hno : (validB T && compB T k x) with
  | true =>
    obtain ⟨hv, hc⟩ := Bool.and_eq_true_iff.1 hno
    refine Can.ofS (maskS_can T k x hv hc) ?_
    rintro r σ' ⟨rfl, rfl⟩
    refine ⟨_, Pur.tupleL (PurL.cons (Pur.ownL rfl PurL.pure) (PurL.cons Pur.pure PurL.nil)), ?_⟩
    unfold boolsE maskE boolsV
    rw [if_pos hno, if_pos rfl, maskL_len]
  | false =>
    have he : maskE T k x = 1 := by unfold maskE; rw [if_neg (by rw [hno]; simp)]
    rw [he]
    refine can_of Tryz.func75 rfl Tryz.ntmps75 rfl ?_
    refine W_cs (.a 4 rfl <| .k [2, 3] rfl) ?_
    refine W_cs (.a 3 rfl <| .c rfl (unionE_can T k x hno) rfl <| .a 4 rfl <| .k [4, 5] rfl) ?_
    refine W_ret ?_
    exact ⟨_, _, ResL.of rfl, Pur.pure, rfl⟩
end PW
end Go.Proofs.YtbpgndbjbaoolaaGreat

/- Masks of components: the reference. -/
namespace Go.Proofs.YtbpgndbjbaoolaaGreat
set_option linter.unusedVariables false
set_option linter.unusedSimpArgs false
namespace PW
open Go.RowKit Reg Mem Net Rng

set_option maxRecDepth 10000 in
set_option maxHeartbeats 1000000 in
theorem rvalid10_can (T : Topo) (k x : Int) : Can Tryz.prog 54 [topoV T, compV k x] (· = flag (validB T && compB T k x)) := by
  obtain ⟨q1, h1⟩ : ∃ q, decide (0 ≤ x) = q := ⟨_, rfl⟩
  obtain ⟨q2, h2⟩ : ∃ q, decide (x < (T.links.length : Int)) = q := ⟨_, rfl⟩
  obtain ⟨q5, h5⟩ : ∃ q, decide (x < T.nodes) = q := ⟨_, rfl⟩
  obtain ⟨q3, h3⟩ : ∃ q, decide (1 ≤ x) = q := ⟨_, rfl⟩
  obtain ⟨q4, h4⟩ : ∃ q, decide (x ≤ 64) = q := ⟨_, rfl⟩
  have hnb : nodeB T x = (q1 && q5) := by rw [← h1, ← h5, ← Bool.decide_and]; rfl
  have hB : compB T k x = if k = 1 then (q1 && q2) else if k = 2 then (q1 && q5) else if k = 3 then (q3 && q4) else false := by unfold compB; rw [h1, h2, h3, h4, hnb]
  rw [hB]
  refine can_of Tryz.func54 rfl Tryz.ntmps54 rfl ?_
  refine W_cs (.a 3 rfl <| .k [2, 3] rfl) ?_
  refine W_seq ?_
  refine W_cs (.a 1 rfl <| .c rfl (rvalid_can T) rfl <| .a 1 rfl <| .k [2, 3, 7] rfl) ?_
  refine W_cond rfl (fun hv1 => ?_) (fun hv1 => ?_)
  · have hv : validB T = false := by simpa using hv1
    refine W_cs (.a 1 rfl <| .k [4] rfl) ?_
    refine W_ret ?_
    exact ⟨_, _, ResL.of rfl, Pur.pure, by rw [hv]; rfl⟩
  · have hv : validB T = true := by simpa using hv1
    rw [hv, Bool.true_and]
    refine W_skip ?_
    refine W_seq ?_
    refine W_cs (.a 2 rfl <| .k [2, 3, 9] rfl) ?_
    refine W_block ?_
    refine W_cs (.a 2 rfl <| .k [2, 3, 9, 10] rfl) ?_
    refine W_cond rfl (fun hk1 => ?_) (fun hk1 => ?_)
    · have k1 : k = 1 := tt hk1
      refine W_csK 4 (.raw (.bool (q1 && q2))) [] rfl ?_ ?_
      · refine .a 2 rfl <| .v (y_q rfl (h1)) rfl <| .a 1 rfl <| ?_
        cases q1
        · exact .a 8 rfl <| .k [4] rfl
        · exact .a 5 rfl <| .v (y_q rfl (h2)) rfl <| .a 2 rfl <| .k [4] rfl
      refine W_ret ?_
      exact ⟨_, _, ResL.of rfl, Pur.pure, by rw [if_pos k1]; rfl⟩
    · have k1 : ¬ k = 1 := ff hk1
      refine W_cs (.a 2 rfl <| .k [2, 3, 9, 23] rfl) ?_
      refine W_cond rfl (fun hk2 => ?_) (fun hk2 => ?_)
      · have k2 : k = 2 := tt hk2
        refine W_csK 4 (.raw (.bool (q1 && q5))) [] rfl ?_ ?_
        · refine .a 2 rfl <| .v (y_q rfl (h1)) rfl <| .a 1 rfl <| ?_
          cases q1
          · exact .a 7 rfl <| .k [4] rfl
          · exact .a 4 rfl <| .v (y_q rfl (h5)) rfl <| .a 2 rfl <| .k [4] rfl
        refine W_ret ?_
        exact ⟨_, _, ResL.of rfl, Pur.pure, by rw [if_neg k1, if_pos k2]; rfl⟩
      · have k2 : ¬ k = 2 := ff hk2
        refine W_cs (.a 2 rfl <| .k [3, 35] rfl) ?_
        refine W_cond rfl (fun hk3 => ?_) (fun hk3 => ?_)
        · have k3 : k = 3 := tt hk3
          refine W_csK 4 (.raw (.bool (q3 && q4))) [] rfl ?_ ?_
          · refine .a 2 rfl <| .v (y_q rfl (h3)) rfl <| .a 1 rfl <| ?_
            cases q3
            · exact .a 5 rfl <| .k [4] rfl
            · exact .a 2 rfl <| .v (y_q rfl (h4)) rfl <| .a 2 rfl <| .k [4] rfl
          refine W_ret ?_
          exact ⟨_, _, ResL.of rfl, Pur.pure, by rw [if_neg k1, if_neg k2, if_pos k3]; rfl⟩
        · have k3 : ¬ k = 3 := ff hk3
          refine W_skip ?_
          refine W_cs (.a 1 rfl <| .k [4] rfl) ?_
          refine W_ret ?_
          exact ⟨_, _, ResL.of rfl, Pur.pure, by rw [if_neg k1, if_neg k2, if_neg k3]; rfl⟩
theorem lnks_drop7 (L : List Lnk) (i : Nat) (hi : i < L.length) : ((lnksP L).drop (i * 7)).take 7 = lnkP (lnk L i) := by
  apply List.ext_getElem?
  intro j
  by_cases hj : j < 7
  · rw [List.getElem?_take, if_pos hj, List.getElem?_drop, lnks_getP L i j hi hj]
  · rw [List.getElem?_take, if_neg hj, List.getElem?_eq_none (by simp [lnkP]; omega)]
set_option maxRecDepth 10000 in
set_option maxHeartbeats 1000000 in
theorem rof_can (T : Topo) (k x : Int) (a : Nat) (ha : a < 2 * T.links.length) (hl : T.links.length ≤ 256) : Can Tryz.prog 104 [topoV T, compV k x, num a] (· = flag (partB k x T.links (a / 2))) := by
  have hi : a / 2 < T.links.length := by omega
  obtain ⟨e, he⟩ : ∃ e, lnk T.links (a / 2) = e := ⟨_, rfl⟩
  have hdr := lnks_drop7 T.links (a / 2) hi
  rw [he] at hdr
  obtain ⟨q1, h1⟩ : ∃ q, decide (((a / 2 : Nat) : Int) = x) = q := ⟨_, rfl⟩
  obtain ⟨q2, h2⟩ : ∃ q, decide (e.a = x) = q := ⟨_, rfl⟩
  obtain ⟨q3, h3⟩ : ∃ q, decide (e.b = x) = q := ⟨_, rfl⟩
  obtain ⟨q4, h4⟩ : ∃ q, decide (e.grp = x) = q := ⟨_, rfl⟩
  have hP : partB k x T.links (a / 2) = if k = 1 then q1 else if k = 2 then (q2 || q3) else q4 := by unfold partB; rw [he, h1, h2, h3, h4]
  rw [hP]
  refine can_of Tryz.func104 rfl Tryz.ntmps104 rfl ?_
  refine W_cs (.a 3 rfl <| .k [2, 3, 4] rfl) ?_
  refine W_rs ?_
  refine WR_a 3 rfl <| WR_v (y_quo rfl rfl rfl (by decide) ((show (a : Int).tdiv 2 = ((a / 2 : Nat) : Int) by rw [Int.tdiv_eq_ediv_of_nonneg (by omega)]; omega)) (by unfold In64; omega)) rfl <| WR_v (y_ix ((a / 2 * 7)) rfl) rfl <| WR_v (y_la rfl (hdr) rfl) rfl <| WR_a 2 rfl <| WR_k [2, 4, 7] rfl ?_
  refine W_sto (σ' := [some (.cells 72 (lnkP e))]) rfl ?_
  refine W_seq ?_
  refine W_cs (.a 2 rfl <| .k [2, 4, 7, 15] rfl) ?_
  refine W_block ?_
  refine W_cs (.a 2 rfl <| .k [2, 4, 7, 15, 16] rfl) ?_
  refine W_cond rfl (fun hk1 => ?_) (fun hk1 => ?_)
  · have k1 : k = 1 := tt hk1
    refine W_cs (.a 1 rfl <| .v (y_quo rfl rfl rfl (by decide) ((show (a : Int).tdiv 2 = ((a / 2 : Nat) : Int) by rw [Int.tdiv_eq_ediv_of_nonneg (by omega)]; omega)) (by unfold In64; omega)) rfl <| .a 2 rfl <| .v (y_q rfl (h1)) rfl <| .a 1 rfl <| .k [6] rfl) ?_
    refine W_ret ?_
    exact ⟨_, _, ResL.of rfl, Pur.pure, by rw [if_pos k1]; rfl⟩
  · have k1 : ¬ k = 1 := ff hk1
    refine W_cs (.a 2 rfl <| .k [4, 7, 23] rfl) ?_
    refine W_cond rfl (fun hk2 => ?_) (fun hk2 => ?_)
    · have k2 : k = 2 := tt hk2
      refine W_csK 6 (.raw (.bool (q2 || q3))) [] rfl ?_ ?_
      · refine .a 4 rfl <| .v (y_q rfl (h2)) rfl <| .a 1 rfl <| ?_
        cases q2
        · exact .a 4 rfl <| .v (y_q rfl (h3)) rfl <| .a 2 rfl <| .k [6] rfl
        · exact .a 7 rfl <| .k [6] rfl
      refine W_ret ?_
      exact ⟨_, _, ResL.of rfl, Pur.pure, by rw [if_neg k1, if_pos k2]; rfl⟩
    · have k2 : ¬ k = 2 := ff hk2
      refine W_skip ?_
      refine W_cs (.a 4 rfl <| .v (y_q rfl (h4)) rfl <| .a 1 rfl <| .k [6] rfl) ?_
      refine W_ret ?_
      exact ⟨_, _, ResL.of rfl, Pur.pure, by rw [if_neg k1, if_neg k2]; rfl⟩
def brow (L : List Bool) : Option Blk := some (.row 4 1 L.length (boolsP L))
end PW
end Go.Proofs.YtbpgndbjbaoolaaGreat

/- The reference of the layers 9, 11 and 12, in plain form: scalars, search, Dist. -/
namespace Go.Proofs.YtbpgndbjbaoolaaGreat
set_option linter.unusedVariables false
set_option linter.unusedSimpArgs false
namespace PW
open Go.RowKit Reg Mem Net


end PW
end Go.Proofs.YtbpgndbjbaoolaaGreat

/- The reference of layer 12: next arcs; Out of layer 9. -/
namespace Go.Proofs.YtbpgndbjbaoolaaGreat
set_option linter.unusedVariables false
set_option linter.unusedSimpArgs false
namespace PW
open Go.RowKit Reg Mem Net

end PW
end Go.Proofs.YtbpgndbjbaoolaaGreat

/- The reference of layer 22: Routes. -/
namespace Go.Proofs.YtbpgndbjbaoolaaGreat
set_option linter.unusedVariables false
set_option linter.unusedSimpArgs false
namespace PW
open Go.RowKit Reg Mem Net

end PW
end Go.Proofs.YtbpgndbjbaoolaaGreat

/- Segments are compared. -/
namespace Go.Proofs.YtbpgndbjbaoolaaGreat
set_option linter.unusedVariables false
set_option linter.unusedSimpArgs false
namespace PW
open Go.RowKit Reg Mem Net

end PW
end Go.Proofs.YtbpgndbjbaoolaaGreat

/- The reference of the layers 18 and 22: Same. -/
namespace Go.Proofs.YtbpgndbjbaoolaaGreat
set_option linter.unusedVariables false
set_option linter.unusedSimpArgs false
namespace PW
open Go.RowKit Reg Mem Net

deriving instance DecidableEq for Ent
deriving instance DecidableEq for Tab
end PW
end Go.Proofs.YtbpgndbjbaoolaaGreat

/- Valid segments and tables: graph.Segment, package table's leaving, proper, Valid; the reference's of layers 18 and 22. -/
namespace Go.Proofs.YtbpgndbjbaoolaaGreat
set_option linter.unusedVariables false
set_option linter.unusedSimpArgs false
namespace PW
open Go.RowKit Reg Mem Net

def segB (T : Topo) (s : Seg) : Bool := if s.kind = 1 then nodeB T s.num else if s.kind = 2 then arcB T s.num else if s.kind = 3 then withinB s.num 1 64 else if s.kind = 4 then withinB s.num 0 65535 else false
theorem arcB_iff {T : Topo} {a : Int} : arcB T a = true ↔ 0 ≤ a ∧ a < 2 * (T.links.length : Int) := by simp [arcB]
theorem tailI_can (T : Topo) (a : Int) (h : arcB T a = true) : Can Tryz.prog 87 [topoV T, num a] (· = num (tailN T a.toNat)) := by
  obtain ⟨h0, h1⟩ := arcB_iff.1 h
  obtain ⟨a, rfl⟩ := Int.eq_ofNat_of_zero_le h0
  exact tail_can T a (by omega)

end PW
end Go.Proofs.YtbpgndbjbaoolaaGreat

/- The next arcs of a node, as plain mathematics: they lead to nodes that are nearer; a node that reaches has one; tables of routes are valid. -/
namespace Go.Proofs.YtbpgndbjbaoolaaGreat
set_option linter.unusedVariables false
set_option linter.unusedSimpArgs false
namespace PW
open Go.RowKit Reg Mem Net

theorem outL_sorted (T : Topo) (n : Int) : (outL T n).Pairwise (· < ·) := by
  unfold outL outTo
  refine List.Pairwise.map _ (fun a b h => ?_) ((List.pairwise_lt_range (n := 2 * T.links.length)).filter _)
  show (a : Int) < (b : Int)
  omega
theorem outL_iff {T : Topo} {n : Int} {a : Int} : a ∈ outL T n ↔ arcB T a = true ∧ tailN T a.toNat = n := by
  unfold outL outTo
  rw [List.mem_map, arcB_iff]
  constructor
  · rintro ⟨b, hb, rfl⟩
    obtain ⟨h1, h2⟩ := List.mem_filter.1 hb
    have := List.mem_range.1 h1
    refine ⟨⟨by simp, by simp; omega⟩, by simpa using h2⟩
  · rintro ⟨⟨h0, h1⟩, h2⟩
    refine ⟨a.toNat, List.mem_filter.2 ⟨List.mem_range.2 (by omega), by simpa using h2⟩, by simp; omega⟩
theorem next_self (T : Topo) (D : List Bool) (n : Nat) : nextL T D n n = [] := by unfold nextL; rw [if_pos (.inl rfl)]
theorem dist_at {T : Topo} {D : List Bool} (hv : validB T = true) {d x : Nat} (hd : (d : Int) < T.nodes) (hx : (x : Int) < T.nodes) : (distL T D d false).getD x 0 = at' (distL T D d false) (x : Int) := by
  have hl := (distL_bound (D := D) hv (dir := false) hd).1
  unfold at'
  rw [Int.toNat_natCast, List.getD_eq_getElem?_getD, List.getD_eq_getElem?_getD, List.getElem?_eq_getElem (by omega)]
  rfl
/-- What is known of a next arc. -/
structure Nearer (T : Topo) (D : List Bool) (n d a : Nat) : Prop where
  arc : a < 2 * T.links.length
  tail : tailN T a = (n : Int)
  up : downN D a = false
  ne : n ≠ d
  reach : 0 ≤ (distL T D d false).getD (headN T a).toNat 0
  pass : headN T a = (d : Int) ∨ overN T (headN T a).toNat = false
  sum : (distL T D d false).getD n 0 = (distL T D d false).getD (headN T a).toNat 0 + costN T a
theorem next_mem {T : Topo} {D : List Bool} {n d : Nat} {a : Int} (h : a ∈ nextL T D n d) : ∃ k : Nat, a = k ∧ Nearer T D n d k := by
  unfold nextL at h
  split at h
  · simp at h
  · rename_i hne
    obtain ⟨h1, h2⟩ := List.mem_filter.1 h
    obtain ⟨h3, h4⟩ := outL_iff.1 h1
    obtain ⟨h5, h6⟩ := arcB_iff.1 h3
    obtain ⟨k, rfl⟩ := Int.eq_ofNat_of_zero_le h5
    rw [Int.toNat_natCast] at h2 h4
    unfold passB at h2
    simp only [Bool.and_eq_true, Bool.not_eq_true', Bool.or_eq_false_iff, decide_eq_true_eq, decide_eq_false_iff_not] at h2
    obtain ⟨⟨⟨g1, g2⟩, g3⟩, g4⟩ := h2
    refine ⟨k, rfl, by omega, h4, g1, fun e => hne (.inl e), by omega, ?_, by omega⟩
    rcases Bool.and_eq_false_iff.1 g3 with g | g
    · exact .inl (Classical.byContradiction (ff g))
    · exact .inr g
theorem next_of {T : Topo} {D : List Bool} {n d k : Nat} (h : Nearer T D n d k) (hc : 1 ≤ costN T k) : (k : Int) ∈ nextL T D n d := by
  have hs := h.sum
  have hr := h.reach
  unfold nextL
  rw [if_neg (by rintro (e | e); exact h.ne e; omega)]
  refine List.mem_filter.2 ⟨outL_iff.2 ⟨arcB_iff.2 ⟨by omega, by have := h.arc; omega⟩, h.tail⟩, ?_⟩
  unfold passB
  rw [Int.toNat_natCast]
  simp only [Bool.and_eq_true, Bool.not_eq_true', Bool.or_eq_false_iff, decide_eq_true_eq, decide_eq_false_iff_not]
  refine ⟨⟨⟨h.up, by omega⟩, ?_⟩, by omega⟩
  rcases h.pass with g | g
  · rw [decide_eq_false (by simpa using g)]; rfl
  · rw [g, Bool.and_false]
theorem next_ex {T : Topo} {D : List Bool} (hv : validB T = true) {n d : Nat} (hn : (n : Int) < T.nodes) (hd : (d : Int) < T.nodes) (hne : n ≠ d) (h0 : 0 ≤ (distL T D d false).getD n 0) : ∃ k, Nearer T D n d k := by
  have hS := sound_of hv
  have hI := distL_is hS D false hd
  have e1 := dist_at (D := D) hv hd hn
  rcases hI.supp n hn (by rw [← e1]; exact h0) with h | ⟨a, ha, hx, ⟨w1, w2, w3⟩, hs⟩
  · exact absurd h hne
  · have hh := hS.head a ha
    obtain ⟨y, hy⟩ := Int.eq_ofNat_of_zero_le hh.1
    have e2 := dist_at (D := D) hv hd (x := y) (by omega)
    simp only [arcX, arcY, Bool.false_eq_true, if_false] at hx w2 w3 hs
    rw [hy] at w2 w3 hs
    refine ⟨a, ha, hx, w1, hne, ?_, ?_, ?_⟩
    · rw [hy, Int.toNat_natCast, e2]; exact w2
    · rw [hy]; exact w3
    · rw [hy, Int.toNat_natCast, e1, e2]; exact hs
theorem dist_self {T : Topo} {D : List Bool} (hv : validB T = true) {d : Nat} (hd : (d : Int) < T.nodes) : (distL T D d false).getD d 0 = 0 := by
  rw [dist_at hv hd hd]
  exact (distL_is (sound_of hv) D false hd).root
end PW
end Go.Proofs.YtbpgndbjbaoolaaGreat

/- Shortest paths as chains of next arcs, as plain mathematics: their costs, the first of them, how many there are. -/
namespace Go.Proofs.YtbpgndbjbaoolaaGreat
set_option linter.unusedVariables false
set_option linter.unusedSimpArgs false
namespace PW
open Go.RowKit Reg Mem Net

/-- The distance from a node to d. -/
noncomputable def dN (T : Topo) (D : List Bool) (d x : Nat) : Int := (distL T D d false).getD x 0
def costL (T : Topo) (p : List Int) : Int := p.foldr (fun a c => costN T a.toNat + c) 0
theorem costL_nil (T : Topo) : costL T [] = 0 := rfl
theorem costL_cons (T : Topo) (a : Int) (p : List Int) : costL T (a :: p) = costN T a.toNat + costL T p := rfl
theorem costL_append (T : Topo) (p q : List Int) : costL T (p ++ q) = costL T p + costL T q := by
  induction p with
  | nil => simp [costL_nil]
  | cons a p ih => rw [List.cons_append, costL_cons, costL_cons, ih]; omega
inductive SP (T : Topo) (D : List Bool) (d : Nat) : Nat → List Int → Prop
  | nil : SP T D d d []
  | cons {n a m : Nat} {p : List Int} : Nearer T D n d a → headN T a = (m : Int) → SP T D d m p → SP T D d n ((a : Int) :: p)
/-- A path that may be used, to d. -/
inductive Ch (T : Topo) (D : List Bool) (d : Nat) : Nat → List Int → Prop
  | nil : Ch T D d d []
  | cons {n a m : Nat} {p : List Int} : a < 2 * T.links.length → tailN T a = (n : Int) → downN D a = false → headN T a = (m : Int) → (p = [] ∨ overN T m = false) → Ch T D d m p → Ch T D d n ((a : Int) :: p)
theorem nodup_le : ∀ (N : Nat) (l : List Nat), l.Nodup → (∀ x ∈ l, x < N) → l.length ≤ N
  | 0, l, _, h => by
    cases l with
    | nil => simp
    | cons a l => have := h a (by simp); omega
  | N + 1, l, hn, h => by
    have h1 := nodup_le N (l.erase N) (hn.erase N) (fun x hx => by
      have h2 := (List.Nodup.mem_erase_iff hn).1 hx
      have := h x h2.2
      have := h2.1
      omega)
    rw [List.length_erase] at h1
    split at h1 <;> omega
section
variable {T : Topo} {D : List Bool} {d : Nat}
theorem head_nat (hv : validB T = true) {a : Nat} (ha : a < 2 * T.links.length) : ∃ m : Nat, headN T a = (m : Int) ∧ (m : Int) < T.nodes := by
  obtain ⟨h0, h1⟩ := (sound_of hv).head a ha
  obtain ⟨m, hm⟩ := Int.eq_ofNat_of_zero_le h0
  exact ⟨m, hm, by rw [← hm]; exact h1⟩
theorem dN_self (hv : validB T = true) (hd : (d : Int) < T.nodes) : dN T D d d = 0 := dist_self hv hd
theorem dN_ge (hv : validB T = true) (hd : (d : Int) < T.nodes) {x : Nat} (hx : (x : Int) < T.nodes) : -1 ≤ dN T D d x ∧ dN T D d x ≤ 4194240 := by
  obtain ⟨h1, h2⟩ := distL_bound (D := D) hv (dir := false) hd
  exact h2 _ (getD_mem (by omega))
theorem Nearer.dN {n a m : Nat} (h : Nearer T D n d a) (hm : headN T a = (m : Int)) : 0 ≤ dN T D d m ∧ dN T D d n = dN T D d m + costN T a := by
  have h1 := h.reach
  have h2 := h.sum
  rw [hm, Int.toNat_natCast] at h1 h2
  exact ⟨h1, h2⟩
theorem Nearer.node (hv : validB T = true) {n a : Nat} (h : Nearer T D n d a) : (n : Int) < T.nodes := by rw [← h.tail]; exact ((sound_of hv).tail a h.arc).2
theorem SP.node (hv : validB T = true) (hd : (d : Int) < T.nodes) {n : Nat} {p : List Int} (h : SP T D d n p) : (n : Int) < T.nodes := by
  cases h with
  | nil => exact hd
  | cons h1 _ _ => exact h1.node hv
theorem SP.cost (hv : validB T = true) (hd : (d : Int) < T.nodes) {n : Nat} {p : List Int} (h : SP T D d n p) : dN T D d n = costL T p ∧ 0 ≤ dN T D d n := by
  induction h with
  | nil => rw [dN_self hv hd]; exact ⟨rfl, Int.le_refl _⟩
  | cons h1 hm _ ih =>
    obtain ⟨g1, g2⟩ := h1.dN hm
    have := (sound_of hv).cost _ h1.arc
    rw [costL_cons, Int.toNat_natCast]
    omega
theorem SP.self {p : List Int} (h : SP T D d d p) : p = [] := by
  cases h with
  | nil => rfl
  | cons h1 _ _ => exact absurd rfl h1.ne
theorem SP.len (hv : validB T = true) (hd : (d : Int) < T.nodes) {n : Nat} {p : List Int} (h : SP T D d n p) : (p.length : Int) ≤ dN T D d n := by
  induction h with
  | nil => rw [dN_self hv hd]; simp
  | cons h1 hm _ ih =>
    obtain ⟨g1, g2⟩ := h1.dN hm
    have := (sound_of hv).cost _ h1.arc
    simp only [List.length_cons]
    omega
theorem SP.ch {n : Nat} {p : List Int} (h : SP T D d n p) : Ch T D d n p := by
  induction h with
  | nil => exact .nil
  | @cons n a m p h1 hm hp ih =>
    refine .cons h1.arc h1.tail h1.up hm ?_ ih
    rcases h1.pass with hx | hx
    · have : m = d := by rw [hm] at hx; omega
      subst this
      exact .inl hp.self
    · rw [hm, Int.toNat_natCast] at hx; exact .inr hx
theorem dN_way (hv : validB T = true) (hd : (d : Int) < T.nodes) {n a m : Nat} (ha : a < 2 * T.links.length) (ht : tailN T a = (n : Int)) (hu : downN D a = false) (hm : headN T a = (m : Int)) (ho : m = d ∨ overN T m = false) (h0 : 0 ≤ dN T D d m) : 0 ≤ dN T D d n ∧ dN T D d n ≤ dN T D d m + costN T a := by
  have hS := sound_of hv
  have hI := distL_is hS D false hd
  have hmN : (m : Int) < T.nodes := by rw [← hm]; exact (hS.head a ha).2
  have hnN : (n : Int) < T.nodes := by rw [← ht]; exact (hS.tail a ha).2
  have e1 := dist_at (D := D) hv hd hnN
  have e2 := dist_at (D := D) hv hd hmN
  have := hI.closed a ha ⟨hu, by simp only [arcY, Bool.false_eq_true, if_false]; rw [hm, ← e2]; exact h0, by
    simp only [arcY, Bool.false_eq_true, if_false]; rw [hm]
    rcases ho with h | h
    · exact .inl (by rw [h])
    · exact .inr (by simpa using h)⟩
  simp only [arcX, arcY, Bool.false_eq_true, if_false] at this
  rw [hm, ht, ← e1, ← e2] at this
  exact this
theorem Ch.node (hv : validB T = true) (hd : (d : Int) < T.nodes) {n : Nat} {p : List Int} (h : Ch T D d n p) : (n : Int) < T.nodes := by
  cases h with
  | nil => exact hd
  | cons h1 ht _ _ _ _ => rw [← ht]; exact ((sound_of hv).tail _ h1).2
theorem Ch.to {n : Nat} {p : List Int} (h : Ch T D d n p) : p = [] → n = d := by
  cases h with
  | nil => intro _; rfl
  | cons => intro h; cases h
/-- No path is shorter than the distance. -/
theorem Ch.le (hv : validB T = true) (hd : (d : Int) < T.nodes) {n : Nat} {p : List Int} (h : Ch T D d n p) : 0 ≤ dN T D d n ∧ dN T D d n ≤ costL T p := by
  induction h with
  | nil => rw [dN_self hv hd]; exact ⟨Int.le_refl _, Int.le_refl _⟩
  | @cons n a m p ha ht hu hm ho hp ih =>
    have := dN_way hv hd ha ht hu hm (by rcases ho with h | h; exact .inl (hp.to h); exact .inr h) ih.1
    rw [costL_cons, Int.toNat_natCast]
    omega
/-- A path that is as short as the distance is a chain of next arcs. -/
theorem Ch.sp (hv : validB T = true) (hd : (d : Int) < T.nodes) {n : Nat} {p : List Int} (h : Ch T D d n p) (hc : dN T D d n = costL T p) : SP T D d n p := by
  induction h with
  | nil => exact .nil
  | @cons n a m p ha ht hu hm ho hp ih =>
    have ho' : m = d ∨ overN T m = false := by rcases ho with h | h; exact .inl (hp.to h); exact .inr h
    have h1 := hp.le hv hd
    have h2 := dN_way hv hd ha ht hu hm ho' h1.1
    rw [costL_cons, Int.toNat_natCast] at hc
    have h3 := (sound_of hv).cost a ha
    refine .cons ⟨ha, ht, hu, ?_, ?_, ?_, ?_⟩ hm (ih (by omega))
    · rintro rfl; rw [dN_self hv hd] at hc h2; omega
    · rw [hm, Int.toNat_natCast]; exact h1.1
    · rw [hm]; rcases ho' with h | h; exact .inl (by rw [h]); exact .inr (by simpa using h)
    · rw [hm, Int.toNat_natCast]; show dN T D d n = dN T D d m + costN T a; omega
/-- The first shortest path. -/
noncomputable def firstP (T : Topo) (D : List Bool) (d : Nat) : Nat → Nat → List Int
  | 0, _ => []
  | f + 1, n => match nextL T D n d with
    | [] => []
    | a :: _ => a :: firstP T D d f (headN T a.toNat).toNat
noncomputable def spathL (T : Topo) (D : List Bool) (n d : Nat) : List Int := firstP T D d (dN T D d n).toNat n
theorem next_unr {n : Nat} (h : dN T D d n < 0) : nextL T D n d = [] := by unfold nextL; rw [if_pos (.inr h)]
theorem first_sp (hv : validB T = true) (hd : (d : Int) < T.nodes) : ∀ (f n : Nat), (n : Int) < T.nodes → 0 ≤ dN T D d n → dN T D d n ≤ f → SP T D d n (firstP T D d f n)
  | f, n, hn, h0, hf => by
    by_cases hne : n = d
    · subst hne
      have : firstP T D n f n = [] := by cases f with | zero => rfl | succ f => simp only [firstP, next_self]
      rw [this]; exact .nil
    · obtain ⟨k, hk⟩ := next_ex (D := D) hv hn hd hne h0
      cases f with
      | zero =>
        obtain ⟨m, hm, _⟩ := head_nat hv hk.arc
        have := hk.dN hm
        have := (sound_of hv).cost k hk.arc
        omega
      | succ f =>
        simp only [firstP]
        have hmem := next_of hk ((sound_of hv).cost k hk.arc).1
        cases hx : nextL T D n d with
        | nil => rw [hx] at hmem; cases hmem
        | cons a l =>
          obtain ⟨b, hb, hbn⟩ := next_mem (T := T) (D := D) (n := n) (d := d) (a := a) (by rw [hx]; simp)
          subst hb
          obtain ⟨m, hm, hmN⟩ := head_nat hv hbn.arc
          have g := hbn.dN hm
          have := (sound_of hv).cost b hbn.arc
          simp only [Int.toNat_natCast, hm]
          exact .cons hbn hm (first_sp hv hd f m hmN g.1 (by omega))
theorem spath_sp (hv : validB T = true) (hd : (d : Int) < T.nodes) {n : Nat} (hn : (n : Int) < T.nodes) (h0 : 0 ≤ dN T D d n) : SP T D d n (spathL T D n d) := first_sp hv hd _ n hn h0 (by omega)
/-- How many shortest paths there are: 0, 1, or 2 for more. -/
noncomputable def cntF (T : Topo) (D : List Bool) (d : Nat) : Nat → Nat → Int
  | 0, m => if m = d then 1 else 0
  | f + 1, m => if m = d then 1 else (nextL T D m d).foldl (fun c a => min 2 (c + cntF T D d f (headN T a.toNat).toNat)) 0
noncomputable def cntS (T : Topo) (D : List Bool) (d m : Nat) : Int := cntF T D d (dN T D d m).toNat m
theorem foldl_congr {α β : Type} {f g : α → β → α} : ∀ {l : List β} {a : α}, (∀ a b, b ∈ l → f a b = g a b) → l.foldl f a = l.foldl g a
  | [], _, _ => rfl
  | b :: l, a, h => by simp only [List.foldl_cons, h a b (by simp)]; exact foldl_congr fun a c hc => h a c (by simp [hc])
theorem cntF_stab (hv : validB T = true) (hd : (d : Int) < T.nodes) : ∀ (K m f : Nat), (m : Int) < T.nodes → dN T D d m ≤ K → dN T D d m ≤ f → cntF T D d f m = cntS T D d m
  | K, m, f, hmN, hK, hf => by
    unfold cntS
    by_cases hmd : m = d
    · subst hmd
      cases f <;> cases (dN T D m m).toNat <;> simp [cntF]
    · by_cases h0 : dN T D d m < 0
      · have hx := next_unr h0
        rw [show (dN T D d m).toNat = 0 by omega]
        cases f <;> simp [cntF, hmd, hx]
      · obtain ⟨k, hk⟩ := next_ex (D := D) hv hmN hd hmd (by show 0 ≤ dN T D d m; omega)
        have hpos : 0 < dN T D d m := by
          obtain ⟨m', hm', _⟩ := head_nat hv hk.arc
          have := hk.dN hm'
          have := (sound_of hv).cost k hk.arc
          omega
        obtain ⟨g, hg⟩ : ∃ g, (dN T D d m).toNat = g + 1 := ⟨(dN T D d m).toNat - 1, by omega⟩
        cases f with
        | zero => omega
        | succ f =>
          cases K with
          | zero => omega
          | succ K =>
            rw [hg]
            simp only [cntF, if_neg hmd]
            refine foldl_congr fun c a ha => ?_
            obtain ⟨b, rfl, hbn⟩ := next_mem ha
            obtain ⟨m', hm', hmN'⟩ := head_nat hv hbn.arc
            have g1 := hbn.dN hm'
            have g2 := (sound_of hv).cost b hbn.arc
            rw [Int.toNat_natCast, hm', Int.toNat_natCast, cntF_stab hv hd K m' f hmN' (by omega) (by omega), cntF_stab hv hd K m' g hmN' (by omega) (by omega)]
theorem cnt_self (m : Nat) : cntS T D m m = 1 := by unfold cntS; cases (dN T D m m).toNat <;> simp [cntF]
theorem cnt_eq (hv : validB T = true) (hd : (d : Int) < T.nodes) {m : Nat} (hmN : (m : Int) < T.nodes) (hmd : m ≠ d) : cntS T D d m = (nextL T D m d).foldl (fun c a => min 2 (c + cntS T D d (headN T a.toNat).toNat)) 0 := by
  by_cases h0 : dN T D d m < 0
  · unfold cntS
    rw [next_unr h0, show (dN T D d m).toNat = 0 by omega]
    simp [cntF, hmd]
  · have h1 := cntF_stab (D := D) hv hd (dN T D d m).toNat m ((dN T D d m).toNat + 1) hmN (by omega) (by omega)
    rw [← h1]
    simp only [cntF, if_neg hmd]
    refine foldl_congr fun c a ha => ?_
    obtain ⟨b, rfl, hbn⟩ := next_mem ha
    obtain ⟨m', hm', hmN'⟩ := head_nat hv hbn.arc
    have g1 := hbn.dN hm'
    have g2 := (sound_of hv).cost b hbn.arc
    rw [Int.toNat_natCast, hm', Int.toNat_natCast, cntF_stab hv hd (dN T D d m).toNat m' _ hmN' (by omega) (by omega)]
theorem cnt_unr (hv : validB T = true) (hd : (d : Int) < T.nodes) {m : Nat} (hmN : (m : Int) < T.nodes) (h0 : dN T D d m < 0) : cntS T D d m = 0 := by
  have hmd : m ≠ d := by rintro rfl; rw [dN_self hv hd] at h0; omega
  rw [cnt_eq hv hd hmN hmd, next_unr h0]; rfl
/-- Sums that are cut at 2. -/
theorem fold2_le (g : Int → Int) (hg : ∀ a, 0 ≤ g a) : ∀ (l : List Int) (c : Int), 0 ≤ c → c ≤ 2 → 0 ≤ l.foldl (fun c a => min 2 (c + g a)) c ∧ l.foldl (fun c a => min 2 (c + g a)) c ≤ 2
  | [], c, h0, h2 => ⟨h0, h2⟩
  | a :: l, c, h0, h2 => by
    have := hg a
    exact fold2_le g hg l _ (show 0 ≤ min 2 (c + g a) by omega) (show min 2 (c + g a) ≤ 2 by omega)
theorem fold2_ge (g : Int → Int) (hg : ∀ a, 0 ≤ g a) : ∀ (l : List Int) (c : Int), c ≤ 2 → c ≤ l.foldl (fun c a => min 2 (c + g a)) c
  | [], c, _ => Int.le_refl _
  | a :: l, c, h2 => by
    have := hg a
    have := fold2_ge g hg l (min 2 (c + g a)) (by omega)
    simp only [List.foldl_cons]
    omega
theorem cnt_range (hv : validB T = true) (hd : (d : Int) < T.nodes) : ∀ (f m : Nat), 0 ≤ cntF T D d f m ∧ cntF T D d f m ≤ 2
  | 0, m => by simp only [cntF]; split <;> omega
  | f + 1, m => by
    simp only [cntF]
    split
    · omega
    · exact fold2_le (fun a => cntF T D d f (headN T a.toNat).toNat) (fun a => (cnt_range hv hd f _).1) _ 0 (by omega) (by omega)
theorem cnt_rangeS (hv : validB T = true) (hd : (d : Int) < T.nodes) (m : Nat) : 0 ≤ cntS T D d m ∧ cntS T D d m ≤ 2 := cnt_range hv hd _ m
theorem cnt_pos (hv : validB T = true) (hd : (d : Int) < T.nodes) : ∀ (K m : Nat), (m : Int) < T.nodes → 0 ≤ dN T D d m → dN T D d m ≤ K → 1 ≤ cntS T D d m
  | K, m, hmN, h0, hK => by
    by_cases hmd : m = d
    · subst hmd; rw [cnt_self]; omega
    · obtain ⟨k, hk⟩ := next_ex (D := D) hv hmN hd hmd h0
      have hmem := next_of hk ((sound_of hv).cost k hk.arc).1
      obtain ⟨m', hm', hmN'⟩ := head_nat hv hk.arc
      have g1 := hk.dN hm'
      have g2 := (sound_of hv).cost k hk.arc
      cases K with
      | zero => omega
      | succ K =>
        have hp := cnt_pos hv hd K m' hmN' g1.1 (by omega)
        rw [cnt_eq hv hd hmN hmd]
        obtain ⟨l1, l2, hl⟩ := List.append_of_mem hmem
        rw [hl, List.foldl_append, List.foldl_cons]
        have hg : ∀ a : Int, 0 ≤ cntS T D d (headN T a.toNat).toNat := fun a => (cnt_rangeS hv hd _).1
        have a1 := fold2_le (fun a => cntS T D d (headN T a.toNat).toNat) hg l1 0 (by omega) (by omega)
        have a2 := fold2_ge (fun a => cntS T D d (headN T a.toNat).toNat) hg l2 (min 2 (l1.foldl (fun c a => min 2 (c + cntS T D d (headN T a.toNat).toNat)) 0 + cntS T D d (headN T (k : Int).toNat).toNat)) (by omega)
        rw [Int.toNat_natCast, hm', Int.toNat_natCast] at a2
        rw [Int.toNat_natCast, hm', Int.toNat_natCast]
        omega
/-- Only one: each node has one next arc. -/
theorem cnt_one (hv : validB T = true) (hd : (d : Int) < T.nodes) {m : Nat} (hmN : (m : Int) < T.nodes) (hmd : m ≠ d) (h : cntS T D d m = 1) : ∃ a : Nat, nextL T D m d = [(a : Int)] ∧ Nearer T D m d a ∧ ∀ k : Nat, headN T a = (k : Int) → cntS T D d k = 1 := by
  rw [cnt_eq hv hd hmN hmd] at h
  have hg : ∀ a : Int, 0 ≤ cntS T D d (headN T a.toNat).toNat := fun a => (cnt_rangeS hv hd _).1
  have hone : ∀ a ∈ nextL T D m d, 1 ≤ cntS T D d (headN T a.toNat).toNat := fun a ha => by
    obtain ⟨b, rfl, hb⟩ := next_mem ha
    obtain ⟨m', hm', hmN'⟩ := head_nat hv hb.arc
    have g1 := hb.dN hm'
    rw [Int.toNat_natCast, hm', Int.toNat_natCast]
    exact cnt_pos hv hd (dN T D d m').toNat m' hmN' g1.1 (by omega)
  cases hx : nextL T D m d with
  | nil => rw [hx] at h; simp at h
  | cons a l =>
    obtain ⟨b, rfl, hb⟩ := next_mem (T := T) (D := D) (n := m) (d := d) (a := a) (by rw [hx]; simp)
    have h1 := hone b (by rw [hx]; simp)
    rw [hx, List.foldl_cons] at h
    cases l with
    | nil =>
      refine ⟨b, rfl, hb, fun k hk => ?_⟩
      simp only [List.foldl_nil, Int.toNat_natCast, hk] at h h1
      omega
    | cons a2 l =>
      have h2 := hone a2 (by rw [hx]; simp)
      rw [List.foldl_cons] at h
      have := fold2_ge (fun a => cntS T D d (headN T a.toNat).toNat) hg l (min 2 (min 2 (0 + cntS T D d (headN T (b : Int).toNat).toNat) + cntS T D d (headN T a2.toNat).toNat)) (by omega)
      omega
theorem cnt_of_one (hv : validB T = true) (hd : (d : Int) < T.nodes) {m a k : Nat} (hmN : (m : Int) < T.nodes) (hmd : m ≠ d) (hx : nextL T D m d = [(a : Int)]) (hk : headN T a = (k : Int)) (h : cntS T D d k = 1) : cntS T D d m = 1 := by
  rw [cnt_eq hv hd hmN hmd, hx]
  simp only [List.foldl_cons, List.foldl_nil, Int.toNat_natCast, hk, h]
  omega
theorem SP.unique (hv : validB T = true) (hd : (d : Int) < T.nodes) {n : Nat} {p q : List Int} (h : SP T D d n p) (hq : SP T D d n q) (hc : cntS T D d n = 1) : p = q := by
  induction h generalizing q with
  | nil => exact hq.self.symm
  | @cons n a m p h1 hm hp ih =>
    cases hq with
    | nil => exact absurd rfl h1.ne
    | @cons _ a' m' q h1' hm' hq =>
      obtain ⟨b, hb, _, hb2⟩ := cnt_one hv hd (h1.node hv) h1.ne hc
      have e1 := next_of h1 ((sound_of hv).cost a h1.arc).1
      have e2 := next_of h1' ((sound_of hv).cost a' h1'.arc).1
      rw [hb] at e1 e2
      simp only [List.mem_singleton] at e1 e2
      have ea : a = b := by omega
      have ea' : a' = b := by omega
      subst ea
      subst ea'
      have em : m = m' := by rw [hm] at hm'; omega
      subst em
      rw [ih hq (hb2 m hm)]
/-- Only one shortest path, with the checks of its arguments. -/
noncomputable def uniqB (T : Topo) (D : List Bool) (n d : Int) : Bool := decide (nodeE T D n d = 0) && decide (cntS T D d.toNat n.toNat = 1)
/-- The nodes of a shortest path are different. -/
theorem SP.len_lt (hv : validB T = true) (hd : (d : Int) < T.nodes) {n : Nat} {p : List Int} (h : SP T D d n p) : (p.length : Int) < T.nodes := by
  have key : ∃ l : List Nat, l.length = p.length + 1 ∧ l.Nodup ∧ (∀ x ∈ l, (x : Int) < T.nodes ∧ dN T D d x ≤ dN T D d n) := by
    induction h with
    | nil => exact ⟨[d], rfl, by simp, fun x hx => by simp at hx; subst hx; exact ⟨hd, Int.le_refl _⟩⟩
    | @cons n a m p h1 hm hp ih =>
      obtain ⟨l, e1, e2, e3⟩ := ih
      have g1 := h1.dN hm
      have g2 := (sound_of hv).cost a h1.arc
      refine ⟨n :: l, by simp [e1], List.nodup_cons.2 ⟨fun hn => by have := (e3 n hn).2; omega, e2⟩, fun x hx => ?_⟩
      cases hx with
      | head => exact ⟨h1.node hv, Int.le_refl _⟩
      | tail _ hx => have := e3 x hx; exact ⟨this.1, by omega⟩
  obtain ⟨l, e1, e2, e3⟩ := key
  have hN := (sound_of hv).nodes
  have := nodup_le T.nodes.toNat l e2 (fun x hx => by have := (e3 x hx).1; omega)
  omega
end
end PW
end Go.Proofs.YtbpgndbjbaoolaaGreat

/- Paths: package topology's Path, the reference's. -/
namespace Go.Proofs.YtbpgndbjbaoolaaGreat
set_option linter.unusedVariables false
set_option linter.unusedSimpArgs false
namespace PW
open Go.RowKit Reg Mem Net

/-- The error of a path from a node. -/
def walkE (T : Topo) : Bool → Int → List Int → Int
  | _, _, [] => 0
  | f, n, a :: l => if arcB T a = false then 2 else if tailN T a.toNat ≠ n ∨ (f = false ∧ overN T n.toNat = true) then 4 else walkE T false (headN T a.toNat) l
def pathX (T : Topo) (n : Int) (l : List Int) : Int := if validB T then (if nodeB T n then walkE T true n l else 2) else 1
def endL (T : Topo) : Int → List Int → Int
  | n, [] => n
  | _, a :: l => endL T (headN T a.toNat) l
def pathV (T : Topo) (n : Int) (l : List Int) : PV := .tuple [num (if pathX T n l = 0 then endL T n l else 0), num (if pathX T n l = 0 then costL T l else 0), num (pathX T n l)]
theorem endL_append (T : Topo) : ∀ (n : Int) (l m : List Int), endL T n (l ++ m) = endL T (endL T n l) m
  | _, [], _ => rfl
  | _, a :: l, m => endL_append T _ l m
theorem drop_cons (l : List Int) (k : Nat) (h : k < l.length) : l.drop k = l.getD k 0 :: l.drop (k + 1) := by
  rw [List.drop_eq_getElem_cons h, List.getD_eq_getElem?_getD, List.getElem?_eq_getElem h]; rfl
theorem endL_step (T : Topo) (n : Int) (l : List Int) (k : Nat) (h : k < l.length) : endL T n (l.take (k + 1)) = headN T (l.getD k 0).toNat := by
  rw [take_step l k 0 h, endL_append]; rfl
theorem costL_step (T : Topo) (l : List Int) (k : Nat) (h : k < l.length) : costL T (l.take (k + 1)) = costL T (l.take k) + costN T (l.getD k 0).toNat := by
  rw [take_step l k 0 h, costL_append]; simp [costL_cons, costL_nil]
theorem walk_step {T : Topo} {f : Bool} {n a : Int} {l : List Int} (h1 : arcB T a = true) (h2 : tailN T a.toNat = n) (h3 : f = true ∨ overN T n.toNat = false) : walkE T f n (a :: l) = walkE T false (headN T a.toNat) l := by
  simp only [walkE]
  rw [if_neg (by rw [h1]; simp), if_neg]
  rintro (h | ⟨h, h'⟩)
  · exact h h2
  · rcases h3 with h3 | h3
    · rw [h3] at h; cases h
    · rw [h3] at h'; cases h'
theorem walk_bad {T : Topo} {f : Bool} {n a : Int} {l : List Int} (h1 : arcB T a = true) (h2 : tailN T a.toNat ≠ n ∨ (f = false ∧ overN T n.toNat = true)) : walkE T f n (a :: l) = 4 := by
  simp only [walkE]
  rw [if_neg (by rw [h1]; simp), if_pos h2]
theorem headI_can (T : Topo) (hl : T.links.length ≤ 4611686018427387902) (a : Int) (h : arcB T a = true) : Can Tryz.prog 127 [topoV T, num a] (· = num (headN T a.toNat)) := by
  obtain ⟨h0, h1⟩ := arcB_iff.1 h
  obtain ⟨a, rfl⟩ := Int.eq_ofNat_of_zero_le h0
  exact head_can T a (by omega) hl
theorem costI_can (T : Topo) (a : Int) (h : arcB T a = true) : Can Tryz.prog 157 [topoV T, num a] (· = num (costN T a.toNat)) := by
  obtain ⟨h0, h1⟩ := arcB_iff.1 h
  obtain ⟨a, rfl⟩ := Int.eq_ofNat_of_zero_le h0
  exact cost_can T a (by omega)
theorem arc_facts {T : Topo} (hv : validB T = true) {a : Int} (h : arcB T a = true) : (1 ≤ costN T a.toNat ∧ costN T a.toNat ≤ 65535) ∧ ∃ m : Nat, headN T a.toNat = (m : Int) ∧ (m : Int) < T.nodes := by
  obtain ⟨h0, h1⟩ := arcB_iff.1 h
  have hl : a.toNat < 2 * T.links.length := by omega
  exact ⟨(sound_of hv).cost _ hl, head_nat hv hl⟩
theorem over_ln {T : Topo} (hv : validB T = true) {x : Nat} (hx : (x : Int) < T.nodes) : T.over.length = 0 ∨ x < T.over.length := by have := (valid_bd hv).2.2.2; omega
set_option maxRecDepth 10000 in
set_option maxHeartbeats 1000000 in
theorem path_can (T : Topo) (n : Int) (l : List Int) (hl : l.length ≤ 1000000) : Can Tryz.prog 147 [topoV T, num n, intsV l] (· = pathV T n l) := by
  refine can_of Tryz.func147 rfl Tryz.ntmps147 rfl ?_
  refine W_cs (.a 4 rfl <| .k [1, 2, 3, 7] rfl) ?_
  refine W_seq ?_
  refine W_cs (.a 1 rfl <| .c rfl (valid_can T) rfl <| .a 1 rfl <| .k [1, 2, 3, 7, 13] rfl) ?_
  refine W_cond rfl (fun hc => ?_) (fun hc => ?_)
  · have hv : validB T = false := by simpa using hc
    have hX : pathX T n l = 1 := by unfold pathX; rw [hv]; rfl
    unfold pathV
    rw [hX]
    refine W_cs (.a 3 rfl <| .k [6, 7, 8] rfl) ?_
    refine W_ret ?_
    exact ⟨_, _, ResL.of rfl, Pur.pure, rfl⟩
  · have hv : validB T = true := by simpa using hc
    have hll := links_le hv
    refine W_skip ?_
    refine W_seq ?_
    refine W_cs (.a 2 rfl <| .c rfl (node_can T n) rfl <| .a 1 rfl <| .k [1, 2, 3, 7, 17] rfl) ?_
    refine W_cond rfl (fun hc => ?_) (fun hc => ?_)
    · have hn : nodeB T n = false := by simpa using hc
      have hX : pathX T n l = 2 := by unfold pathX; rw [hv, hn]; rfl
      unfold pathV
      rw [hX]
      refine W_cs (.a 3 rfl <| .k [6, 7, 8] rfl) ?_
      refine W_ret ?_
      exact ⟨_, _, ResL.of rfl, Pur.pure, rfl⟩
    · have hn : nodeB T n = true := by simpa using hc
      have hX : pathX T n l = walkE T true n l := by unfold pathX; rw [hv, hn]; rfl
      obtain ⟨hn0, hn1⟩ := nodeB_iff.1 hn
      obtain ⟨n, rfl⟩ := Int.eq_ofNat_of_zero_le hn0
      refine W_skip ?_
      refine W_cs (.a 2 rfl <| .k [2, 3, 6, 7] rfl) ?_
      refine W_seq ?_
      refine W_cs (.a 3 rfl <| .k [3, 6, 7, 19, 20, 21] rfl) ?_
      refine W_block ?_
      refine W_k [3, 6, 7, 19, 20, 21] rfl ?_
      refine W_loop (fun r s => ∃ (k x : Nat), k ≤ l.length ∧ r = l.length - k ∧ endL T n (l.take k) = (x : Int) ∧ (x : Int) < T.nodes ∧ 0 ≤ costL T (l.take k) ∧ costL T (l.take k) ≤ 65535 * (k : Int) ∧ walkE T true n l = walkE T (decide (k = 0)) x (l.drop k) ∧ s = ⟨[(3, .pin (topoP T) 0), (6, num x), (7, num (costL T (l.take k))), (19, intsV l), (20, num l.length), (21, num k)], []⟩) l.length ⟨0, n, by omega, by omega, rfl, hn1, by simp [costL_nil], by simp [costL_nil], rfl, rfl⟩ ?_
      rintro r s ⟨k, x, hk, rfl, hx, hxN, hc0, hc1, hw, rfl⟩
      refine W_cs (.a 1 rfl <| .k [3, 6, 7, 19, 20, 21, 22] rfl) ?_
      refine W_seq ?_
      refine W_cond rfl (fun hy => ?_) (fun hy => ?_)
      · have hlt : k < l.length := by have := tt hy; omega
        rw [drop_cons l k hlt] at hw
        obtain ⟨p1, hp1⟩ : ∃ q, arcB T (l.getD k 0) = q := ⟨_, rfl⟩
        have ha := arc_can T (by omega) (l.getD k 0)
        rw [hp1] at ha
        refine W_skip ?_
        refine W_seq ?_
        refine W_block ?_
        refine W_cs (.a 1 rfl <| .v (y_ix (k) rfl) rfl <| .v (y_ld rfl (ints_get l k hlt)) rfl <| .a 2 rfl <| .k [3, 6, 7, 9, 10, 19, 20, 21] rfl) ?_
        refine W_seq ?_
        refine W_cs (.a 2 rfl <| .c rfl (ha) rfl <| .a 1 rfl <| .k [3, 6, 7, 9, 10, 19, 20, 21, 29] rfl) ?_
        refine W_cond rfl (fun hz => ?_) (fun hz => ?_)
        · have h1 : p1 = false := by simpa using hz
          subst h1
          have hw2 : walkE T true n l = 2 := by rw [hw]; simp only [walkE]; rw [if_pos hp1]
          unfold pathV
          rw [hX, hw2]
          refine W_cs (.a 3 rfl <| .k [6, 7, 8] rfl) ?_
          refine W_ret ?_
          exact ⟨_, _, ResL.of rfl, Pur.pure, rfl⟩
        · have h1 : p1 = true := by simpa using hz
          subst h1
          obtain ⟨⟨hco0, hco1⟩, y, hyh, hyN⟩ := arc_facts hv hp1
          have hsN := endL_step T n l k hlt
          have hsC := costL_step T l k hlt
          obtain ⟨p2, hp2⟩ : ∃ q, decide (tailN T (l.getD k 0).toNat ≠ (x : Int)) = q := ⟨_, rfl⟩
          obtain ⟨p3, hp3⟩ : ∃ q, decide (0 < (k : Int)) = q := ⟨_, rfl⟩
          obtain ⟨p4, hp4⟩ : ∃ q, overN T x = q := ⟨_, rfl⟩
          refine W_skip ?_
          refine W_seq ?_
          refine W_csK 43 (.raw (.bool (p2 || (p3 && p4)))) [3, 7, 10, 19, 20, 21] rfl ?_ ?_
          · refine .a 2 rfl <| .c rfl (tailI_can T _ hp1) rfl <| .a 1 rfl <| .v (y_q rfl (hp2)) rfl <| .a 1 rfl <| ?_
            cases p2
            · refine .a 1 rfl <| .v (y_q rfl (hp3)) rfl <| .a 1 rfl <| ?_
              cases p3
              · exact .a 5 rfl <| .k [43, 3, 7, 10, 19, 20, 21] rfl
              · exact .a 2 rfl <| .c rfl (hp4 ▸ over_can T x (over_ln hv hxN)) rfl <| .a 2 rfl <| .k [43, 3, 7, 10, 19, 20, 21] rfl
            · exact .a 8 rfl <| .k [43, 3, 7, 10, 19, 20, 21] rfl
          refine W_cond rfl (fun hb => ?_) (fun hb => ?_)
          · have hw4 : walkE T true n l = 4 := by
              rw [hw]
              refine walk_bad hp1 ?_
              rcases Bool.or_eq_true_iff.1 hb with h | h
              · rw [h] at hp2; exact .inl (tt hp2)
              · obtain ⟨h3, h4⟩ := Bool.and_eq_true_iff.1 h
                rw [h3] at hp3
                rw [h4] at hp4
                exact .inr ⟨decide_eq_false (by have := tt hp3; omega), by rw [Int.toNat_natCast]; exact hp4⟩
            unfold pathV
            rw [hX, hw4]
            refine W_cs (.a 3 rfl <| .k [6, 7, 8] rfl) ?_
            refine W_ret ?_
            exact ⟨_, _, ResL.of rfl, Pur.pure, rfl⟩
          · obtain ⟨b2, b3⟩ := Bool.or_eq_false_iff.1 hb
            rw [b2] at hp2
            have ht : tailN T (l.getD k 0).toNat = (x : Int) := Classical.byContradiction (ff hp2)
            have hws := walk_step (T := T) (f := decide (k = 0)) (n := (x : Int)) (l := l.drop (k + 1)) hp1 ht (by
              rcases Bool.and_eq_false_iff.1 b3 with h | h
              · rw [h] at hp3; exact .inl (decide_eq_true (by have := ff hp3; omega))
              · rw [h] at hp4; exact .inr (by rw [Int.toNat_natCast]; exact hp4))
            rw [hws, hyh] at hw
            have hh := headI_can T (by omega) _ hp1
            rw [hyh] at hh
            refine W_skip ?_
            refine W_cs (.a 2 rfl <| .c rfl (hh) rfl <| .a 1 rfl <| .k [3, 6, 7, 10, 19, 20, 21] rfl) ?_
            refine W_chain (.a 3 rfl <| .c rfl (costI_can T _ hp1) rfl <| .v (y_ar rfl (hc := hsC.symm) (hn := by unfold In64; omega)) rfl <| .a 1 rfl <| .k [3, 6, 7, 19, 20, 21] rfl) ?_
            refine W_chain (.v (y_ar rfl) rfl <| .a 1 rfl <| .k [3, 6, 7, 19, 20, 21] rfl) ?_
            exact ⟨l.length - (k + 1), by omega, k + 1, y, by omega, rfl, by rw [hsN, hyh], hyN, by omega, by omega, by rw [hw]; rfl, rfl⟩
      · have hke : k = l.length := by have := ff hy; omega
        subst hke
        rw [List.drop_length] at hw
        rw [List.take_length] at hx ⊢
        unfold pathV
        rw [hX, hw]
        simp only [walkE, if_true]
        rw [hx]
        refine W_exit ?_
        refine W_cs (.a 5 rfl <| .k [6, 7, 8] rfl) ?_
        refine W_ret ?_
        exact ⟨_, _, ResL.of rfl, Pur.pure, rfl⟩
end PW
end Go.Proofs.YtbpgndbjbaoolaaGreat

/- graph.Leaving: for each node its arcs. -/
namespace Go.Proofs.YtbpgndbjbaoolaaGreat
set_option linter.unusedVariables false
set_option linter.unusedSimpArgs false
namespace PW
open Go.RowKit Reg Mem Net

set_option maxRecDepth 10000 in
set_option maxHeartbeats 1000000 in
theorem leaving_can (T : Topo) (hv : validB T = true) : Can Tryz.prog 124 [topoV T] (· = rowsV (rowsL (tailN T) T.nodes.toNat (2 * T.links.length))) := by
  have hbd := valid_bd hv
  have hS := sound_of hv
  obtain ⟨n, hn⟩ : ∃ n : Nat, T.nodes = (n : Int) := ⟨T.nodes.toNat, by omega⟩
  rw [show T.nodes.toNat = n by omega]
  refine can_of Tryz.func124 rfl Tryz.ntmps124 rfl ?_
  refine W_cs (.a 2 rfl <| .k [1] rfl) ?_
  refine W_rs ?_
  refine WR_a 2 rfl <| WR_l (l_make rfl (fok.rk.get rfl) rfl rfl hn hn ⟨by unfold maxLen; omega, by omega⟩) rfl <| WR_a 1 rfl <| WR_k [1, 3] rfl ?_
  refine W_adoptRows 33 3 n ?_
  refine W_seq ?_
  refine W_cs (.a 1 rfl <| .c rfl (arcs_can T (by omega)) rfl <| .a 1 rfl <| .k [1, 3, 10, 11] rfl) ?_
  refine W_block ?_
  refine W_k [1, 3, 10, 11] rfl ?_
  refine W_loop (fun r s => ∃ k, k ≤ 2 * T.links.length ∧ r = 2 * T.links.length - k ∧ s = ⟨[(1, .pin (topoP T) 0), (3, .own 0), (10, num (2 * (T.links.length : Int))), (11, num k)], rsto 33 3 (rowsL (tailN T) n k)⟩) (2 * T.links.length) ⟨0, by omega, by omega, by rw [rowsL_zero]; rfl⟩ ?_
  rintro r s ⟨k, hk, rfl, rfl⟩
  refine W_cs (.a 1 rfl <| .k [1, 3, 10, 11, 12] rfl) ?_
  refine W_seq ?_
  refine W_cond rfl (fun hc => ?_) (fun hc => ?_)
  · have hlt : k < 2 * T.links.length := by have := of_decide_eq_true hc; omega
    obtain ⟨hd0, hhN⟩ := hS.tail k hlt
    obtain ⟨m, hm⟩ := Int.eq_ofNat_of_zero_le hd0
    have hmn : m < n := by omega
    have hrl := rowsL_len (tailN T) n k
    have hgl : ((rowsL (tailN T) n k).getD m []).length ≤ k := by
      rw [rowsL_get _ _ _ _ hmn]
      simp only [List.length_map]
      exact Nat.le_trans (List.length_filter_le _ _) (by simp)
    refine W_skip ?_
    refine W_seq ?_
    refine W_block ?_
    refine W_cs (.a 2 rfl <| .k [1, 3, 4, 10, 11] rfl) ?_
    refine W_cs (.a 2 rfl <| .c rfl (hm ▸ tail_can T k hlt) rfl <| .a 1 rfl <| .k [1, 3, 4, 5, 10, 11] rfl) ?_
    refine W_region ?_
    refine WR_a 4 rfl <| WR_v (y_ix (m) rfl) rfl <| WR_v (y_ld rfl (owns_get _ m (by omega))) rfl <| WR_a 2 rfl <| WR_l (l_append rfl (fok.rk.get rfl) rfl (rsto_get _ _ _ m (by omega)) rfl rfl ⟨by unfold maxLen; omega, by omega⟩) rfl <| WR_v (y_ix (m) rfl) rfl <| WR_loud0 (l_store1 rfl (fok.tk.get rfl) rfl rfl rfl (by show m < (ownsP _).length; simp [ownsP]; omega)) rfl rfl <| WR_k [1, 3, 10, 11] rfl ?_
    refine W_ren (rfs (rowsL (tailN T) n k).length m) (.cons 1 rfl Ren.pure <| .cons 3 rfl (Ren.own (i := 0) rfl) <| .cons 10 rfl Ren.pure <| .cons 11 rfl Ren.pure <| .nil) (rsto_ren 33 3 (rowsL (tailN T) n k) m (by omega) (k : Int)) (rfs_nodup _ _) rfl ?_
    rw [← rowsL_step (tailN T) n k m hm hmn]
    refine W_chain (.v (y_ar rfl) rfl <| .a 1 rfl <| .k [1, 3, 10, 11] rfl) ?_
    exact ⟨2 * T.links.length - (k + 1), by omega, k + 1, by omega, rfl, rfl⟩
  · have hke : k = 2 * T.links.length := by have := of_decide_eq_false hc; omega
    subst hke
    refine W_exit ?_
    refine W_cs (.a 2 rfl <| .k [2] rfl) ?_
    refine W_ret ?_
    exact ⟨_, _, ResL.of rfl, rsto_pur _ _ _, rfl⟩
end PW
end Go.Proofs.YtbpgndbjbaoolaaGreat
