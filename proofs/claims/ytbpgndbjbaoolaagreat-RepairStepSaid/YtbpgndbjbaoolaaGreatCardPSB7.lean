/- Texts of the proof, part 7. -/
import Derived.RangeFuncFrom
import Derived.Laws.StructEq
import Derived.Test.YtbpgndbjbaoolaaGreatCardPSB6
/- Package component: within, links, Union, Mask. -/
namespace Go.Proofs.YtbpgndbjbaoolaaGreat
set_option linter.unusedVariables false
set_option linter.unusedSimpArgs false
namespace PW
open Go.RowKit Go.Shelf Reg Mem Net Rng

attribute [local go_sem] Oper.semAt_some

def compP (k x : Int) : List PV := [num k, num x]
def compV (k x : Int) : PV := .agg (compP k x)
instance (k x : Int) : IsPureL (compP k x) := by unfold compP; infer_instance
instance (k x : Int) : IsPure (compV k x) := by unfold compV; infer_instance
def compB (T : Topo) (k x : Int) : Bool := if k = 1 then decide (0 ≤ x) && decide (x < (T.links.length : Int)) else if k = 2 then nodeB T x else if k = 3 then decide (1 ≤ x) && decide (x ≤ 64) else false
set_option maxRecDepth 10000 in
set_option maxHeartbeats 1000000 in
theorem cwithin_can (T : Topo) (k x : Int) : Can Tryz.prog 151 [topoV T, compV k x] (· = flag (compB T k x)) := by
  obtain ⟨q1, h1⟩ : ∃ q, decide (0 ≤ x) = q := ⟨_, rfl⟩
  obtain ⟨q2, h2⟩ : ∃ q, decide (x < (T.links.length : Int)) = q := ⟨_, rfl⟩
  obtain ⟨q3, h3⟩ : ∃ q, decide (1 ≤ x) = q := ⟨_, rfl⟩
  obtain ⟨q4, h4⟩ : ∃ q, decide (x ≤ 64) = q := ⟨_, rfl⟩
  have hB : compB T k x = if k = 1 then (q1 && q2) else if k = 2 then nodeB T x else if k = 3 then (q3 && q4) else false := by unfold compB; rw [h1, h2, h3, h4]
  rw [hB]
  refine can_of Tryz.func151 rfl Tryz.ntmps151 rfl ?_
  refine W_cs (.a 3 rfl <| .k [2, 3] rfl) ?_
  refine W_seq ?_
  refine W_cs (.a 2 rfl <| .k [2, 3, 6] rfl) ?_
  refine W_block ?_
  refine W_cs (.a 2 rfl <| .k [2, 3, 6, 7] rfl) ?_
  refine W_cond rfl (fun hk1 => ?_) (fun hk1 => ?_)
  · have k1 : k = 1 := tt hk1
    refine W_csK 4 (.raw (.bool (q1 && q2))) [] rfl ?_ ?_
    · refine .a 2 rfl <| .v (y_q rfl (h1)) rfl <| .a 1 rfl <| ?_
      cases q1
      · exact .a 8 rfl <| .k [4] rfl
      · exact .a 5 rfl <| .v (y_q rfl (h2)) rfl <| .a 2 rfl <| .k [4] rfl
    refine W_ret ?_
    exact ⟨_, _, ResL.of rfl, Pur.pure, by rw [if_pos k1]; rfl⟩
  · have k1 : ¬ k = 1 := ff hk1
    refine W_cs (.a 2 rfl <| .k [2, 3, 6, 20] rfl) ?_
    refine W_cond rfl (fun hk2 => ?_) (fun hk2 => ?_)
    · have k2 : k = 2 := tt hk2
      refine W_cs (.a 3 rfl <| .c rfl (node_can T x) rfl <| .a 1 rfl <| .k [4] rfl) ?_
      refine W_ret ?_
      exact ⟨_, _, ResL.of rfl, Pur.pure, by rw [if_neg k1, if_pos k2]; rfl⟩
    · have k2 : ¬ k = 2 := ff hk2
      refine W_cs (.a 2 rfl <| .k [3, 26] rfl) ?_
      refine W_cond rfl (fun hk3 => ?_) (fun hk3 => ?_)
      · have k3 : k = 3 := tt hk3
        refine W_csK 4 (.raw (.bool (q3 && q4))) [] rfl ?_ ?_
        · refine .a 2 rfl <| .v (y_q rfl (h3)) rfl <| .a 1 rfl <| ?_
          cases q3
          · exact .a 5 rfl <| .k [4] rfl
          · exact .a 2 rfl <| .v (y_q rfl (h4)) rfl <| .a 2 rfl <| .k [4] rfl
        refine W_ret ?_
        exact ⟨_, _, ResL.of rfl, Pur.pure, by rw [if_neg k1, if_neg k2, if_pos k3]; rfl⟩
      · have k3 : ¬ k = 3 := ff hk3
        refine W_skip ?_
        refine W_cs (.a 1 rfl <| .k [4] rfl) ?_
        refine W_ret ?_
        exact ⟨_, _, ResL.of rfl, Pur.pure, by rw [if_neg k1, if_neg k2, if_neg k3]; rfl⟩
set_option maxRecDepth 100000 in
set_option maxHeartbeats 1000000 in
theorem links_in (c0 c1 c2 : Value) (k x : Int) (n : Nat) (w : World) : CallsIn Fence.wide n Tryz.prog 134 #[.agg #[c0, c1, c2], .agg #[.int .i64 k, .int .i64 x]] w fun e w' =>
    e = .returned (.func (.func 159) #[] #[.pointer (some ⟨w.heap.size, 0, none⟩), .pointer (some ⟨w.heap.size + 1, 0, none⟩)]) ∧ w' = (w.alloc (.cells #[c0, c1, c2] 25)).alloc (.cells #[.int .i64 k, .int .i64 x] 27) := by
  refine callsIn_of_wp Tryz.func134 rfl trivial ?_ rfl
  simp only [Tryz.ntmps134, List.size_toArray, List.length_cons, List.length_nil, Nat.reduceAdd, Nat.reduceSub, Array.replicate_succ, Array.replicate_zero, List.push_toArray, List.append_toArray, List.nil_append, List.cons_append]
  gi_wp2
  go_ret
  exact ⟨rfl, rfl⟩
/-- The cells of the links. -/
def LnkAt (W : World) (b off : Nat) (L : List Lnk) : Prop := ∀ i, i < L.length → W.cell? ⟨b, off + i * 7, none⟩ = some (.int .i64 (lnk L i).a) ∧ W.cell? ⟨b, off + i * 7 + 1, none⟩ = some (.int .i64 (lnk L i).b) ∧ W.cell? ⟨b, off + i * 7 + 2, none⟩ = some (.int .i64 (lnk L i).c0) ∧ W.cell? ⟨b, off + i * 7 + 3, none⟩ = some (.int .i64 (lnk L i).c1) ∧ W.cell? ⟨b, off + i * 7 + 4, none⟩ = some (.int .i64 (lnk L i).cap) ∧ W.cell? ⟨b, off + i * 7 + 5, none⟩ = some (.int .i64 (lnk L i).delay) ∧ W.cell? ⟨b, off + i * 7 + 6, none⟩ = some (.int .i64 (lnk L i).grp)
set_option maxRecDepth 100000 in
set_option maxHeartbeats 1000000 in
/-- No links, no rounds. -/
theorem links0_in (n l Bt Bc cap : Nat) (ad : Option Addr) (J : List (Rng.Ix 0) → World → Prop) (W : World) (hBt : W.cell? ⟨Bt, 2, none⟩ = some (.slice ad 0 cap)) (h0 : J [] W) :
    CallsIn Fence.wide n Tryz.prog 159 #[.func (.yield l) #[] #[], .pointer (some ⟨Bt, 0, none⟩), .pointer (some ⟨Bc, 0, none⟩)] W fun e W' => (∃ v, e = .returned v) ∧ J [] W' := by
  refine callsIn_of_wp Tryz.func159 rfl trivial ?_ rfl
  simp only [Tryz.ntmps159, List.size_toArray, List.length_cons, List.length_nil, Nat.reduceAdd, Nat.reduceSub, Array.replicate_succ, Array.replicate_zero, List.push_toArray, List.append_toArray, List.nil_append, List.cons_append]
  gi_wp2
  gi_loopw [10] (fun i wr => i = .int .i64 0 ∧ J [] wr) (fun _ _ => 0)
  case atStart => exact ⟨rfl, h0⟩
  case round =>
    obtain ⟨rfl, hJs⟩ := hrel
    gi_wp2
    go_end0
    exact ⟨⟨_, rfl⟩, hJs⟩
/-- The links of a topology's value. -/
def LnkV (n₁ G : Nat) (W : World) (v : Value) (L : List Lnk) : Prop := (∃ ad cap, v = .slice ad 0 cap ∧ L = []) ∨ ∃ b off cap, v = .slice (some ⟨b, off, none⟩) L.length cap ∧ b < n₁ ∧ b ≠ G ∧ LnkAt W b off L
theorem links_stops (T : Topo) (k x : Int) (hk : k = 1 ∨ k = 2 ∨ k = 3) (hl : T.links.length ≤ 1000) (n Bt Bc G : Nat) (hn : 1 ≤ n) (v : Value) (w : World) (hBtl : Bt < w.heap.size) (hBcl : Bc < w.heap.size) (hBcG : Bc ≠ G)
    (hBt : w.cell? ⟨Bt, 2, none⟩ = some v) (hBk : w.cell? ⟨Bc, 0, none⟩ = some (.int .i64 k)) (hBx : w.cell? ⟨Bc, 1, none⟩ = some (.int .i64 x)) (hv : LnkV w.heap.size G w v T.links) :
    SeqStopsK Fence.wide n Tryz.prog 159 #[.pointer (some ⟨Bt, 0, none⟩), .pointer (some ⟨Bc, 0, none⟩)] (fun i : Rng.Ix T.links.length => #[Value.int .i64 (i.1 : Int)]) (Kp G w.heap.size) (fun ys => ys = got (partB k x T.links) T.links.length T.links.length) (fun _ => True) T.links.length w := fun l J Jx W hW hA _ hY h0 => by
  have kt := (hW.cell (p := ⟨Bt, 2, none⟩) hBtl).trans hBt
  have kk := (hW.cell (p := ⟨Bc, 0, none⟩) hBcl).trans hBk
  have kx := (hW.cell (p := ⟨Bc, 1, none⟩) hBcl).trans hBx
  rcases hv with ⟨ad, cap, rfl, hL⟩ | ⟨b, off, cap, rfl, hb, hbG, hc⟩
  · generalize T.links = L at *
    subst hL
    exact (links0_in n l Bt Bc cap ad J W kt h0).mono fun e W' h => ⟨h.1, .inl ⟨_, rfl, h.2⟩⟩
  · have hc2 : LnkAt W b off T.links := fun i hi => by
      obtain ⟨a0, a1, a2, a3, a4, a5, a6⟩ := hc i hi
      exact ⟨(hW.cell (p := ⟨b, _, none⟩) hb).trans a0, (hW.cell (p := ⟨b, _, none⟩) hb).trans a1, (hW.cell (p := ⟨b, _, none⟩) hb).trans a2, (hW.cell (p := ⟨b, _, none⟩) hb).trans a3, (hW.cell (p := ⟨b, _, none⟩) hb).trans a4, (hW.cell (p := ⟨b, _, none⟩) hb).trans a5, (hW.cell (p := ⟨b, _, none⟩) hb).trans a6⟩
    have fin : ∀ {e : Ending} {W' : World}, (∃ v, e = .returned v) ∧ ((∃ ys, ys = got (partB k x T.links) T.links.length T.links.length ∧ J ys W') ∨ (∃ pre, Jx pre W')) → (∃ v, e = .returned v) ∧ ((∃ xs, xs = got (partB k x T.links) T.links.length T.links.length ∧ J xs W') ∨ (∃ pre, True ∧ Jx pre W')) := fun h => ⟨h.1, h.2.imp id fun ⟨pre, h⟩ => ⟨pre, trivial, h⟩⟩
    rcases hk with rfl | rfl | rfl
    · exact (links1_in Fence.wide n trivial rfl hn l Bt Bc G w.heap.size b off cap T.links x hl hb hbG hBcl hBcG J Jx hY W kt kk kx hc2 hW.size hA h0).mono fun e W' h => fin h
    · exact (links2_in Fence.wide n trivial rfl hn l Bt Bc G w.heap.size b off cap T.links x hl hb hbG hBcl hBcG J Jx hY W kt kk kx hc2 hW.size hA h0).mono fun e W' h => fin h
    · exact (links3_in Fence.wide n trivial rfl hn l Bt Bc G w.heap.size b off cap T.links x hl hb hbG hBcl hBcG J Jx hY W kt kk kx hc2 hW.size hA h0).mono fun e W' h => fin h
end PW
end Go.Proofs.YtbpgndbjbaoolaaGreat

/- The arguments of the laws of layers 29 to 31: queries with a component. -/
namespace Go.Proofs.YtbpgndbjbaoolaaGreat
set_option linter.unusedVariables false
set_option linter.unusedSimpArgs false
namespace PW
open Go.RowKit Reg Mem Net Go.WideShapes
structure Q30 where
  T : Topo
  k : Int
  x : Int
  n : Int
def q30P (c : Q30) : List PV := topoP c.T ++ [num c.k, num c.x, num c.n]
def q30V (c : Q30) : PV := .agg (q30P c)
instance (c : Q30) : IsPureL (q30P c) := by unfold q30P; unfold topoP; simp only [List.cons_append, List.nil_append]; infer_instance
instance (c : Q30) : IsPure (q30V c) := by unfold q30V; infer_instance
structure Q29 where
  T : Topo
  k : Int
  x : Int
  n : Int
  d : Int
def q29P (c : Q29) : List PV := topoP c.T ++ [num c.k, num c.x, num c.n, num c.d]
def q29V (c : Q29) : PV := .agg (q29P c)
instance (c : Q29) : IsPureL (q29P c) := by unfold q29P; unfold topoP; simp only [List.cons_append, List.nil_append]; infer_instance
instance (c : Q29) : IsPure (q29V c) := by unfold q29V; infer_instance
structure Q31 where
  T : Topo
  k : Int
  x : Int
  S : List Int
  n : Int
  d : Int
def q31P (c : Q31) : List PV := topoP c.T ++ [num c.k, num c.x, intsV c.S, num c.n, num c.d]
def q31V (c : Q31) : PV := .agg (q31P c)
instance (c : Q31) : IsPureL (q31P c) := by unfold q31P; unfold topoP; simp only [List.cons_append, List.nil_append]; infer_instance
instance (c : Q31) : IsPure (q31V c) := by unfold q31V; infer_instance
section
variable {H : Type} {enc : TypeId × Value → H} {W : World}
set_option maxRecDepth 10000 in
theorem rd_comp {n : Nat} {cs : List Value} {y : DataW H × List MemPlace} (h : DataW.trod enc Tryz.prog W 0 (fun _ => true) true n 27 cs = some y) (hl : cs.length = 2) : ∃ k x : Int, cs = [.int .i64 k, .int .i64 x] := by
  have c3 : Tryz.prog.cellsOf 3 = 1 := by kernel_rfl
  obtain ⟨xs, m, _, _, _, hlen, hf⟩ := DataW.trod_struct Tryz.underlying27 h
  match cs, hl with
  | [c0, c1], _ =>
    match xs, hlen with
    | [y0, y1], _ =>
      have f0 : DataW.trod enc Tryz.prog W 0 (fun _ => true) true m 3 (([c0, c1].drop 0).take (Tryz.prog.cellsOf 3)) = some y0 := hf 0 _ rfl
      rw [c3] at f0
      have f1 : DataW.trod enc Tryz.prog W 0 (fun _ => true) true m 3 (([c0, c1].drop 1).take (Tryz.prog.cellsOf 3)) = some y1 := hf 1 _ rfl
      rw [c3] at f1
      obtain ⟨a0, h0⟩ := rd_int f0
      obtain ⟨a1, h1⟩ := rd_int f1
      simp at h0 h1
      subst h0 h1
      exact ⟨a0, a1, rfl⟩
set_option maxRecDepth 10000 in
theorem rd_q29 {base : Nat} {v : Value} {d : DataW H} {p : List MemPlace} (hv : Value.okWide Tryz.prog W .any base 58 v) (h : DataW.Trod enc Tryz.prog W 0 (fun _ => true) true 58 v d p) : ∃ c : Q29, Rep EN W v (q29V c) := by
  have hC : Tryz.prog.cellsOf 58 = 7 := by kernel_rfl
  have k_topo : Tryz.prog.cellsOf 25 = 3 := by kernel_rfl
  have k_comp : Tryz.prog.cellsOf 27 = 2 := by kernel_rfl
  have k_int : Tryz.prog.cellsOf 3 = 1 := by kernel_rfl
  obtain ⟨cs, rfl, hsz⟩ := okWide_struct Tryz.underlying58 hv
  rw [hC] at hsz
  obtain ⟨fuel, hf⟩ := h
  obtain ⟨cl⟩ := cs
  match cl, hsz with
  | [c0, c1, c2, c3, c4, c5, c6], _ =>
    obtain ⟨xs, m, _, _, _, hlen, hg⟩ := DataW.trod_struct Tryz.underlying58 hf
    match xs, hlen with
    | [y0, y1, y2, y3], _ =>
      have f0 : DataW.trod enc Tryz.prog W 0 (fun _ => true) true m 25 (([c0, c1, c2, c3, c4, c5, c6].drop 0).take (Tryz.prog.cellsOf 25)) = some y0 := hg 0 _ rfl
      rw [k_topo] at f0
      have f1 : DataW.trod enc Tryz.prog W 0 (fun _ => true) true m 27 (([c0, c1, c2, c3, c4, c5, c6].drop 3).take (Tryz.prog.cellsOf 27)) = some y1 := hg 1 _ rfl
      rw [k_comp] at f1
      have f2 : DataW.trod enc Tryz.prog W 0 (fun _ => true) true m 3 (([c0, c1, c2, c3, c4, c5, c6].drop 5).take (Tryz.prog.cellsOf 3)) = some y2 := hg 2 _ rfl
      rw [k_int] at f2
      have f3 : DataW.trod enc Tryz.prog W 0 (fun _ => true) true m 3 (([c0, c1, c2, c3, c4, c5, c6].drop 6).take (Tryz.prog.cellsOf 3)) = some y3 := hg 3 _ rfl
      rw [k_int] at f3
      obtain ⟨T, hT⟩ := rd_topo3 f0 rfl
      obtain ⟨k, x, hkx⟩ := rd_comp f1 rfl
      simp only [List.drop, List.take, List.cons.injEq, and_true] at hkx
      obtain ⟨rfl, rfl⟩ := hkx
      obtain ⟨n2, hn2⟩ := rd_int f2
      simp at hn2
      subst hn2
      obtain ⟨n3, hn3⟩ := rd_int f3
      simp at hn3
      subst hn3
      have hall : RepL EN W [c0, c1, c2, .int .i64 k, .int .i64 x, .int .i64 n2, .int .i64 n3] (q29P ⟨T, k, x, n2, n3⟩) := hT.append (RepL.cons (.raw _) <| RepL.cons (.raw _) <| RepL.cons (.raw _) <| RepL.cons (.raw _) <| (RepL.nil _ _))
      exact ⟨⟨T, k, x, n2, n3⟩, .agg _ _ (by simpa using hall.1) (fun i x u h1 h2 => hall.2 i x u (by simpa using h1) h2)⟩
end
end PW
end Go.Proofs.YtbpgndbjbaoolaaGreat

/- What is known between the rounds of package component's Union. -/
namespace Go.Proofs.YtbpgndbjbaoolaaGreat
set_option linter.unusedVariables false
set_option linter.unusedSimpArgs false
namespace PW
open Go.RowKit Go.Shelf Reg Mem Net Rng

theorem rep_bools {E : Env} {w : World} : ∀ {cs : List Value} {M : List Bool}, RepL E w cs (boolsP M) → cs = M.map Value.bool
  | [], [], _ => rfl
  | [], b :: M, h => by have := h.1; simp [boolsP] at this
  | c :: cs, [], h => by have := h.1; simp [boolsP] at this
  | c :: cs, b :: M, h => by
    have h0 := rep_raw (h.2 0 c (flag b) rfl rfl)
    have h1 : RepL E w cs (boolsP M) := ⟨by have := h.1; simpa [boolsP] using this, fun i x u k1 k2 => h.2 (i + 1) x u (by simpa using k1) (by simpa [boolsP] using k2)⟩
    rw [rep_bools h1, h0]
    rfl
theorem bools_rep {E : Env} {w : World} : ∀ (M : List Bool), RepL E w (M.map Value.bool) (boolsP M)
  | [] => RepL.nil _ _
  | b :: M => RepL.cons (.raw _) (bools_rep M)
/-- The mask in the making. -/
def mk2 {N : Nat} (n : Nat) (l : List (Rng.Ix N)) : List Bool := l.foldl (fun M i => (M.set (2 * i.1) true).set (2 * i.1 + 1) true) (List.replicate n false)
theorem mk2_snoc {N n : Nat} (l : List (Rng.Ix N)) (i : Rng.Ix N) : mk2 n (l ++ [i]) = ((mk2 n l).set (2 * i.1) true).set (2 * i.1 + 1) true := by unfold mk2; rw [List.foldl_append]; rfl
theorem mk2_len {N n : Nat} (l : List (Rng.Ix N)) : (mk2 n l).length = n := by
  unfold mk2
  suffices h : ∀ M : List Bool, (l.foldl (fun M (i : Rng.Ix N) => (M.set (2 * i.1) true).set (2 * i.1 + 1) true) M).length = M.length by rw [h]; simp
  induction l with
  | nil => intro M; rfl
  | cons a l ih => intro M; rw [List.foldl_cons, ih]; simp
/-- The mask of a component. -/
def maskL (T : Topo) (k x : Int) : List Bool := (List.range (2 * T.links.length)).map fun a => partB k x T.links (a / 2)
theorem got_mask (p : Nat → Bool) (N : Nat) : ∀ k, k ≤ N → ∀ a, a < 2 * N → (mk2 (2 * N) (got p N k))[a]? = some (decide (a / 2 < k) && p (a / 2))
  | 0, _, a, ha => by
    show (List.replicate (2 * N) false)[a]? = _
    rw [List.getElem?_replicate, if_pos ha]
    simp
  | k + 1, hk, a, ha => by
    have ih := got_mask p N k (by omega) a ha
    have hl := mk2_len (n := 2 * N) (got p N k)
    cases hp : p k with
    | false =>
      rw [got_no hp, ih]
      by_cases e : a / 2 = k
      · rw [e, hp]; simp
      · rw [show decide (a / 2 < k + 1) = decide (a / 2 < k) from decide_eq_decide.2 (by omega)]
    | true =>
      rw [got_yes hp (by omega), mk2_snoc]
      simp only
      rw [List.getElem?_set]
      by_cases e1 : 2 * k + 1 = a
      · rw [if_pos e1, if_pos (by simp; omega), show a / 2 = k by omega, hp]
        simp
      · rw [if_neg e1, List.getElem?_set]
        by_cases e2 : 2 * k = a
        · rw [if_pos e2, if_pos (by omega), show a / 2 = k by omega, hp]
          simp
        · rw [if_neg e2, ih, show decide (a / 2 < k + 1) = decide (a / 2 < k) from decide_eq_decide.2 (by omega)]
theorem mask_eq (T : Topo) (k x : Int) : mk2 (2 * T.links.length) (got (partB k x T.links) T.links.length T.links.length) = maskL T k x := by
  apply List.ext_getElem?
  intro a
  by_cases ha : a < 2 * T.links.length
  · rw [got_mask _ _ _ (Nat.le_refl _) a ha]
    unfold maskL
    rw [List.getElem?_map, List.getElem?_range ha]
    have : a / 2 < T.links.length := by omega
    simp [this]
  · rw [List.getElem?_eq_none (by rw [mk2_len]; omega), List.getElem?_eq_none (by unfold maskL; simp; omega)]
/-- What is known of the world. -/
structure UniW (base n B : Nat) (v : Value) (Mm : Nat → Prop) (M : List Bool) (W : World) : Prop where
  bl : base ≤ W.heap.size
  row : W.ownsRow base 4 1 v n (M.map Value.bool)
  box : W.heap[B]? = some (.cells #[v] 22 (0, 0))
  gl : Glob Mm W
theorem row_same {W W' : World} {base e n : Nat} {v : Value} {xs : List Value} (h : W.ownsRow base e 1 v n xs) (hs : ∀ (g : Nat) (o : Array Value), W.heap[g]? = some (Obj.cells o e (0, 0)) → W'.heap[g]? = W.heap[g]?) : W'.ownsRow base e 1 v n xs := by
  refine ⟨h.1, h.2.imp id ?_⟩
  rintro ⟨g, cap, cur, h1, h2, h3, h4⟩
  exact ⟨g, cap, cur, h1, h2, (hs g cur h3).trans h3, h4⟩
theorem UniW.same {base n B : Nat} {v : Value} {Mm : Nat → Prop} {M : List Bool} {W W' : World} (h : UniW base n B v Mm M W) (hz : W.heap.size ≤ W'.heap.size) (hs : ∀ (b : Nat) (cs : Array Value) (t : TypeId) (fz : Nat × Nat), W.heap[b]? = some (Obj.cells cs t fz) → W'.heap[b]? = W.heap[b]?) : UniW base n B v Mm M W' :=
  ⟨Nat.le_trans h.bl hz, row_same h.row (fun g o hg => hs g o _ _ hg), (hs B _ _ _ h.box).trans h.box, fun g cs hg => by
    obtain ⟨h1, t, fz, h2⟩ := h.gl g cs hg
    exact ⟨h1, t, fz, (hs g _ _ _ h2).trans h2⟩⟩
theorem UniW.grown {base n B : Nat} {v : Value} {Mm : Nat → Prop} {M : List Bool} {W W' : World} {row : Option Nat} (h : UniW base n B v Mm M W) (hg : W.grownBy W' row) (hr : ∀ r, row = some r → ∃ o : Obj, W.heap[r]? = some o ∧ o.isCells = false) : UniW base n B v Mm M W' :=
  h.same hg.size fun b cs t fz hb => hg.block b (Array.getElem?_eq_some_iff.1 hb).1 fun e => by
    obtain ⟨o, h1, h2⟩ := hr b e.symm
    rw [hb] at h1
    cases h1
    cases h2
theorem UniW.sat {base n B : Nat} {E : Env} {M : List Bool} {W W0 : World} {bi : Blk} {s0 : Option Blk} (hS : Sat (fun _ => False) base [some bi, s0] E W0) (hs0 : s0 = some (.cells 22 [.own 0])) (hbi : ∃ e s m ys, bi = .row e s m ys) (hB : E.at_ 1 = .pointer (some ⟨B, 0, none⟩)) (hBb : base ≤ B) (hone : (E.at_ 0).oneCell' = true) (h : UniW base n B (E.at_ 0) E.M M W) : Sat (fun _ => False) base [some (.row 4 1 n (boolsP M)), some (.cells 22 [.own 0])] E W := by
  subst hs0
  have hL : E.L = 2 := hS.len
  have old : ∀ (i : Nat) blk, [some (Blk.row 4 1 n (boolsP M)), some (.cells 22 [.own 0])][i]? = some (some blk) → ∃ blk', [some bi, some (Blk.cells 22 [.own 0])][i]? = some (some blk') := fun i blk h => by
    match i, h with
    | 0, _ => exact ⟨_, rfl⟩
    | 1, _ => exact ⟨_, rfl⟩
    | _ + 2, h => simp at h
  have new : ∀ (i : Nat) blk, [some bi, some (Blk.cells 22 [.own 0])][i]? = some (some blk) → ∃ blk', [some (Blk.row 4 1 n (boolsP M)), some (.cells 22 [.own 0])][i]? = some (some blk') := fun i blk h => by
    match i, h with
    | 0, _ => exact ⟨_, rfl⟩
    | 1, _ => exact ⟨_, rfl⟩
    | _ + 2, h => simp at h
  refine ⟨h.bl, fun b hb => hb.elim, hL, fun b => ?_, fun i blk hi => ?_, fun i j bi' bj b h1 h2 h3 h4 => ?_, h.gl⟩
  · rw [hS.mm b]
    constructor
    · rintro (h | ⟨i, blk, h1, h2⟩)
      · exact .inl h
      · obtain ⟨blk', h3⟩ := new i blk h1; exact .inr ⟨i, blk', h3, h2⟩
    · rintro (h | ⟨i, blk, h1, h2⟩)
      · exact .inl h
      · obtain ⟨blk', h3⟩ := old i blk h1; exact .inr ⟨i, blk', h3, h2⟩
  · match i, hi with
    | 0, hi => cases hi; exact ⟨_, h.row, bools_rep M⟩
    | 1, hi => cases hi; exact ⟨B, _, hB, hBb, h.box, RepL.cons (.own 0 (by omega) _ rfl hone) (RepL.nil _ _)⟩
    | _ + 2, hi => simp at hi
  · obtain ⟨b1, e1⟩ := old i bi' h1
    obtain ⟨b2, e2⟩ := old j bj h2
    exact hS.inj i j b1 b2 b e1 e2 h3 h4
theorem UniW.of {base n B : Nat} {E : Env} {M : List Bool} {W : World} (hS : Sat (fun _ => False) base [some (.row 4 1 n (boolsP M)), some (.cells 22 [.own 0])] E W) (hB : E.at_ 1 = .pointer (some ⟨B, 0, none⟩)) : UniW base n B (E.at_ 0) E.M M W ∧ (E.at_ 0).oneCell' = true := by
  obtain ⟨cs, h1, h2⟩ := hS.blk 0 _ rfl
  rw [rep_bools h2] at h1
  obtain ⟨b, cs1, k1, k2, k3, k4⟩ := hS.blk 1 _ rfl
  have hbB : b = B := by rw [hB] at k1; cases k1; rfl
  subst hbB
  obtain ⟨cl⟩ := cs1
  match cl, k4 with
  | [], k4 => have := k4.1; simp at this
  | _ :: _ :: _, k4 => have := k4.1; simp at this
  | [u], k4 =>
    have hu := k4.2 0 u _ rfl rfl
    cases hu with
    | own _ _ _ hu ho =>
      subst hu
      exact ⟨⟨hS.bl, h1, k3, hS.gl⟩, ho⟩
theorem new2 (w : World) (a b : Value) (t : TypeId) : (w.alloc (.cells #[a, b] t)).cell? ⟨w.heap.size, 0, none⟩ = some a ∧ (w.alloc (.cells #[a, b] t)).cell? ⟨w.heap.size, 1, none⟩ = some b := by
  unfold World.cell?
  simp only [World.alloc_heap_new]
  exact ⟨rfl, rfl⟩
theorem new3 (w : World) (a b c : Value) (t : TypeId) : (w.alloc (.cells #[a, b, c] t)).cell? ⟨w.heap.size, 2, none⟩ = some c := by
  unfold World.cell?
  simp only [World.alloc_heap_new]
  rfl
end PW
end Go.Proofs.YtbpgndbjbaoolaaGreat

/- Package component: Union of one component. -/
namespace Go.Proofs.YtbpgndbjbaoolaaGreat
set_option linter.unusedVariables false
set_option linter.unusedSimpArgs false
namespace PW
open Go.RowKit Go.Shelf Reg Mem Net Rng

attribute [local go_sem] Oper.semAt_some

def onlyK (K : St → Prop) : Exit → St → Prop
  | .normal, s => K s
  | _, _ => False
theorem piece {P : Program} {N L n : Nat} {c : Code} {st : St} {K : St → Prop} {F : Nat → Prop} {base : Nat} {E₀ E : Env} {w₀ w : World} {a : Act} {Q : Exit → Act → World → Prop} (hc : Came base L E₀ w₀ E w) (hs : SatSt F base N st E a w) (h : W P N L c st (onlyK K)) (hq : ∀ s E' a' w', K s → SatSt F base N s E' a' w' → Goes E₀ w₀ E' w' → Below base w₀ w' → Q .normal a' w') : c.wpIn Fence.wide n P Q a w :=
  wpIn_wide.2 (wp_mono (h F base E₀ w₀ E a w hc hs) fun e a' w' ⟨s, E', k1, k2, k3, k4⟩ => by
    cases e <;> first | exact hq s E' a' w' k1 k2 k3 k4 | exact k1.elim)
def isDefer : Op → Bool
  | .defer _ => true
  | _ => false
theorem no_defer {ops : Array Oper} (h : (ops.all fun o => !isDefer o.op) = true) (i : Nat) (o : Oper) (ho : ops[i]? = some o) (c : Call) : o.op ≠ .defer c := fun e => by
  have := Array.all_eq_true'.1 h o (Array.mem_of_getElem? ho)
  rw [e] at this
  cases this
theorem lnkV_of {E : Env} {w w' : World} {v : Value} {L : List Lnk} {n₁ G : Nat} (h : Rep E w v (.slice L.length (lnksP L))) (hE : Ext w w') (hG : G = n₁ ∨ E.M G) (hlt : ∀ b, E.M b → b < w.heap.size) (hn : w'.heap.size = n₁ := by rfl) : LnkV n₁ G w' v L := by
  generalize hn1 : L.length = m at h
  generalize hxs : lnksP L = xs at h
  cases h with
  | nils => exact .inl ⟨none, 0, rfl, List.eq_nil_of_length_eq_zero hn1⟩
  | empty a c _ => exact .inl ⟨some a, c, rfl, List.eq_nil_of_length_eq_zero hn1⟩
  | slice b off _ c cs _ h0 h1 h2 hb hM hc hl hr =>
    subst hn1
    subst hxs
    have hz := hE.size
    refine .inr ⟨b, off, c, rfl, by omega, fun e => ?_, fun i hi => ?_⟩
    · subst e
      rcases hG with h | h
      · omega
      · exact hM h
    · have key : ∀ j v, (lnkP (lnk L i))[j]? = some (.raw v) → j < 7 → w'.cell? ⟨b, off + (i * 7 + j), none⟩ = some v := fun j v hj h7 => by
        have e := lnks_getP L i j hi h7
        rw [hj] at e
        have hlt : i * 7 + j < cs.length := by rw [hl]; exact (List.getElem?_eq_some_iff.1 e).1
        have hcs : cs[i * 7 + j]? = some cs[i * 7 + j] := List.getElem?_eq_getElem hlt
        have := rep_raw (hr _ _ _ hcs e)
        rw [this] at hcs
        exact hE.cell (hc _ _ hcs)
      have k0 := key 0 _ rfl (by omega)
      have k1 := key 1 _ rfl (by omega)
      have k2 := key 2 _ rfl (by omega)
      have k3 := key 3 _ rfl (by omega)
      have k4 := key 4 _ rfl (by omega)
      have k5 := key 5 _ rfl (by omega)
      have k6 := key 6 _ rfl (by omega)
      simp only [← Nat.add_assoc, Nat.add_zero] at k0 k1 k2 k3 k4 k5 k6
      exact ⟨k0, k1, k2, k3, k4, k5, k6⟩
theorem loop_two {P : Program} {F : Fence} {n : Nat} {c : Code} {Q : Exit → Act → World → Prop} {a : Act} {w : World} (Fin : Act → World → Prop) (h1 : c.wpIn F n P (Exit.then Fin Q) a w) (h2 : ∀ a' w', Fin a' w' → c.wpIn F n P (Exit.then (fun _ _ => False) Q) a' w') : (Code.loop c).wpIn F n P Q a w := by
  have mono : ∀ {K K' : Act → World → Prop} {a : Act} {w : World}, (∀ a w, K a w → K' a w) → c.wpIn F n P (Exit.then K Q) a w → c.wpIn F n P (Exit.then K' Q) a w := fun hk h b k cs hro hb hr => by
    obtain ⟨e, a', w', q, r⟩ := h b k cs hro hb hr
    exact ⟨e, a', w', by cases e <;> first | exact hk _ _ q | exact q, r⟩
  classical
  by_cases hf : Fin a w
  · exact wpIn_loop Fin (fun _ _ => 0) hf (fun a w h => mono (fun _ _ h => h.elim) (h2 a w h))
  · refine wpIn_loop (fun a' w' => (a' = a ∧ w' = w) ∨ Fin a' w') (fun a' w' => if Fin a' w' then 0 else 1) (.inl ⟨rfl, rfl⟩) ?_
    rintro a' w' (⟨rfl, rfl⟩ | h)
    · exact mono (fun a'' w'' h => ⟨.inr h, by rw [if_pos h, if_neg hf]; exact Nat.one_pos⟩) h1
    · exact mono (fun _ _ h => h.elim) (h2 a' w' h)
theorem cons_of {α : Type} {l : List α} {n : Nat} (h : l.length = n + 1) : ∃ a t, l = a :: t ∧ t.length = n := by
  cases l with
  | nil => simp at h
  | cons a t => exact ⟨a, t, rfl, by simpa using h⟩
set_option maxRecDepth 100000 in
set_option maxHeartbeats 4000000 in
theorem union_raw (T : Topo) (k x : Int) (hv : validB T = true) (hc : compB T k x = true) (w : World) (vs : Array Value) (hR : RepL (EF fun _ => False) w vs.toList [topoV T, .slice 1 (compP k x)]) (gl : Glob (fun _ => False) w) :
    Calls Tryz.prog 116 vs w fun e w' => ∃ v, e = .returned (.tuple #[v, .int .i64 0]) ∧ Ext w w' ∧ w'.ownsRow w.heap.size 4 1 v (2 * T.links.length) ((maskL T k x).map Value.bool) := by
  have hll := links_le hv
  have hS := Sat.start (fun _ => False) w (fun _ h => h.elim) gl
  refine (callsIn_wide (n := 4)).1 ?_
  refine callsIn_of_wp_marks Tryz.func116 rfl trivial ?_ rfl
  have hs0 := enter_sat (N := 41) hS hR (by have := hR.1; simp at this; omega)
  have hc0 : Came w.heap.size 0 (EF fun _ => False) w (EF fun _ => False) w := ⟨rfl, Goes.refl _ _, Below.refl _ _⟩
  refine wpIn_seq (piece (K := fun s => s = ⟨[(1, .slice 1 (compP k x)), (2, .pin (topoP T) 0)], []⟩) hc0 hs0 ?_ ?_)
  · skip
    refine W_chain (.a 3 rfl <| .k [1, 2] rfl) ?_
    exact rfl
  rintro _ E1 a1 w1 rfl hs1 g1 b1
  refine wpIn_seq (piece (K := fun s => s = ⟨[(1, .slice 1 (compP k x)), (2, .pin (topoP T) 0)], []⟩) ⟨rfl, g1, b1⟩ hs1 ?_ ?_)
  · skip
    refine W_cs (.a 1 rfl <| .c rfl (valid_can T) rfl <| .a 1 rfl <| .k [1, 2, 12] rfl) ?_
    rw [hv]
    refine W_cond rfl (fun hc => ?_) (fun hc => ?_)
    · cases hc
    · refine W_k [1, 2] rfl (W_skip ?_)
      exact rfl
  rintro _ E2 a2 w2 rfl hs2 g2 b2
  refine wpIn_seq (piece (K := fun s => s = ⟨[(1, .slice 1 (compP k x)), (2, .pin (topoP T) 0), (6, .ptr 1 0)], [some (.row 4 1 (2 * T.links.length) (boolsP (List.replicate (2 * T.links.length) false))), some (.cells 22 [.own 0])]⟩) ⟨rfl, g2, b2⟩ hs2 ?_ ?_)
  · skip
    refine W_region ?_
    refine WR_a 1 rfl <| WR_c rfl (arcs_can T (by omega)) rfl <| WR_l (l_make rfl (fok.rk.get rfl) rfl rfl (show 2 * (T.links.length : Int) = ((2 * T.links.length : Nat) : Int) by omega) (show 2 * (T.links.length : Int) = ((2 * T.links.length : Nat) : Int) by omega) ⟨by unfold maxLen; omega, by omega⟩) rfl <| WR_a 2 rfl <| WR_k [1, 2, 6] rfl ?_
    rw [← zeros_bools]
    rfl
  rintro _ E3 a3 w3 rfl hs3 g3 b3
  obtain ⟨n, hn⟩ : ∃ n, 2 * T.links.length = n := ⟨_, rfl⟩
  rw [hn] at hs3
  obtain ⟨B, cs1, hB, hBb, hBh, hBr⟩ := hs3.sat.blk 1 _ rfl
  obtain ⟨cs0, hrow, hcs0⟩ := hs3.sat.blk 0 _ rfl
  have t1 := hs3.tmp 1 _ rfl
  have t2 := hs3.tmp 2 _ rfl
  have t6 := hs3.tmp 6 _ rfl
  have hsz := hs3.size
  have hdf := hs3.dfr
  obtain ⟨arr, ds⟩ := a3
  simp only at hdf hsz
  subst hdf
  obtain ⟨al⟩ := arr
  replace hsz : al.length = 41 := by simpa using hsz
  obtain ⟨x0, z0, e0, k0⟩ := cons_of (n := 40) hsz
  obtain ⟨x1, z1, e1, k1⟩ := cons_of (n := 39) k0
  obtain ⟨x2, z2, e2, k2⟩ := cons_of (n := 38) k1
  obtain ⟨x3, z3, e3, k3⟩ := cons_of (n := 37) k2
  obtain ⟨x4, z4, e4, k4⟩ := cons_of (n := 36) k3
  obtain ⟨x5, z5, e5, k5⟩ := cons_of (n := 35) k4
  obtain ⟨x6, z6, e6, k6⟩ := cons_of (n := 34) k5
  obtain ⟨x7, z7, e7, k7⟩ := cons_of (n := 33) k6
  obtain ⟨x8, z8, e8, k8⟩ := cons_of (n := 32) k7
  obtain ⟨x9, z9, e9, k9⟩ := cons_of (n := 31) k8
  obtain ⟨x10, z10, e10, k10⟩ := cons_of (n := 30) k9
  obtain ⟨x11, z11, e11, k11⟩ := cons_of (n := 29) k10
  obtain ⟨x12, z12, e12, k12⟩ := cons_of (n := 28) k11
  obtain ⟨x13, z13, e13, k13⟩ := cons_of (n := 27) k12
  obtain ⟨x14, z14, e14, k14⟩ := cons_of (n := 26) k13
  obtain ⟨x15, z15, e15, k15⟩ := cons_of (n := 25) k14
  obtain ⟨x16, z16, e16, k16⟩ := cons_of (n := 24) k15
  obtain ⟨x17, z17, e17, k17⟩ := cons_of (n := 23) k16
  obtain ⟨x18, z18, e18, k18⟩ := cons_of (n := 22) k17
  obtain ⟨x19, z19, e19, k19⟩ := cons_of (n := 21) k18
  obtain ⟨x20, z20, e20, k20⟩ := cons_of (n := 20) k19
  obtain ⟨x21, z21, e21, k21⟩ := cons_of (n := 19) k20
  obtain ⟨x22, z22, e22, k22⟩ := cons_of (n := 18) k21
  obtain ⟨x23, z23, e23, k23⟩ := cons_of (n := 17) k22
  obtain ⟨x24, z24, e24, k24⟩ := cons_of (n := 16) k23
  obtain ⟨x25, z25, e25, k25⟩ := cons_of (n := 15) k24
  obtain ⟨x26, z26, e26, k26⟩ := cons_of (n := 14) k25
  obtain ⟨x27, z27, e27, k27⟩ := cons_of (n := 13) k26
  obtain ⟨x28, z28, e28, k28⟩ := cons_of (n := 12) k27
  obtain ⟨x29, z29, e29, k29⟩ := cons_of (n := 11) k28
  obtain ⟨x30, z30, e30, k30⟩ := cons_of (n := 10) k29
  obtain ⟨x31, z31, e31, k31⟩ := cons_of (n := 9) k30
  obtain ⟨x32, z32, e32, k32⟩ := cons_of (n := 8) k31
  obtain ⟨x33, z33, e33, k33⟩ := cons_of (n := 7) k32
  obtain ⟨x34, z34, e34, k34⟩ := cons_of (n := 6) k33
  obtain ⟨x35, z35, e35, k35⟩ := cons_of (n := 5) k34
  obtain ⟨x36, z36, e36, k36⟩ := cons_of (n := 4) k35
  obtain ⟨x37, z37, e37, k37⟩ := cons_of (n := 3) k36
  obtain ⟨x38, z38, e38, k38⟩ := cons_of (n := 2) k37
  obtain ⟨x39, z39, e39, k39⟩ := cons_of (n := 1) k38
  obtain ⟨x40, z40, e40, k40⟩ := cons_of (n := 0) k39
  have e41 := List.eq_nil_of_length_eq_zero k40
  subst e41
  subst e40
  subst e39
  subst e38
  subst e37
  subst e36
  subst e35
  subst e34
  subst e33
  subst e32
  subst e31
  subst e30
  subst e29
  subst e28
  subst e27
  subst e26
  subst e25
  subst e24
  subst e23
  subst e22
  subst e21
  subst e20
  subst e19
  subst e18
  subst e17
  subst e16
  subst e15
  subst e14
  subst e13
  subst e12
  subst e11
  subst e10
  subst e9
  subst e8
  subst e7
  subst e6
  subst e5
  subst e4
  subst e3
  subst e2
  subst e1
  subst e0
  clear k0 k1 k2 k3 k4 k5 k6 k7 k8 k9 k10 k11 k12 k13 k14 k15 k16 k17 k18 k19 k20 k21 k22 k23 k24 k25 k26 k27 k28 k29 k30 k31 k32 k33 k34 k35 k36 k37 k38 k39 k40 hsz
  skip
  have e1 : Act.eval ⟨⟨[x0, x1, x2, x3, x4, x5, x6, x7, x8, x9, x10, x11, x12, x13, x14, x15, x16, x17, x18, x19, x20, x21, x22, x23, x24, x25, x26, x27, x28, x29, x30, x31, x32, x33, x34, x35, x36, x37, x38, x39, x40]⟩, []⟩ (.tmp 1) = x1 := rfl
  have e2 : Act.eval ⟨⟨[x0, x1, x2, x3, x4, x5, x6, x7, x8, x9, x10, x11, x12, x13, x14, x15, x16, x17, x18, x19, x20, x21, x22, x23, x24, x25, x26, x27, x28, x29, x30, x31, x32, x33, x34, x35, x36, x37, x38, x39, x40]⟩, []⟩ (.tmp 2) = x2 := rfl
  have e6 : Act.eval ⟨⟨[x0, x1, x2, x3, x4, x5, x6, x7, x8, x9, x10, x11, x12, x13, x14, x15, x16, x17, x18, x19, x20, x21, x22, x23, x24, x25, x26, x27, x28, x29, x30, x31, x32, x33, x34, x35, x36, x37, x38, x39, x40]⟩, []⟩ (.tmp 6) = x6 := rfl
  rw [e1] at t1
  rw [e2] at t2
  rw [e6] at t6
  clear e1 e2 e6
  cases t1 with
  | slice lb lo _ lcap lcs _ _ hl1 hl2 hlb hlM hlc hll' hlr =>
    match lcs, hll', hlc, hlr with
    | [u0, u1], _, hlc, hlr =>
      have hu0 := rep_raw (hlr 0 u0 _ rfl rfl)
      have hu1 := rep_raw (hlr 1 u1 _ rfl rfl)
      subst hu0
      subst hu1
      have l0 := hlc 0 _ rfl
      have l1 := hlc 1 _ rfl
      clear hlc hlr
      cases t2 with
      | pin bt bo off tcs _ htb htM htc htl htr =>
        match tcs, htl, htc, htr with
        | [c0, c1, c2], _, htc, htr =>
          have m0 := htc 0 _ rfl
          have m1 := htc 1 _ rfl
          have m2 := htc 2 _ rfl
          have hT3 : RepL E3 w3 [c0, c1, c2] (topoP T) := ⟨rfl, htr⟩
          cases t6 with
          | ptr _ _ B' _ h6 =>
            have hBB : B' = B := by
              rcases h6 with h6 | ⟨n', c', h6⟩
              · rw [hB] at h6; cases h6; rfl
              · rw [hB] at h6; cases h6
            subst hBB
            clear h6
            simp only [Nat.add_zero] at l0 l1 m0 m1 m2 ⊢
            have hcw := cwithin_can T k x
            rw [hc] at hcw
            have E34 : Ext w3 (w3.alloc (.cells #[.int .i64 k, .int .i64 x] 27)) := (Ext.refl w3).alloc _
            have hwi := (callsIn_wide (n := 3)).2 (hcw (fun _ => False) (w3.alloc (.cells #[.int .i64 k, .int .i64 x] 27)) #[.agg #[c0, c1, c2], .agg #[.int .i64 k, .int .i64 x]] (fun _ h => h.elim) ((hs3.sat.gl.sub (fun _ h => h.elim)).goes (E := EF fun _ => False) (E' := EF fun _ => False) (.ext E34)) (RepL.cons (.agg _ _ rfl (fun j z u k1 k2 => ((hT3.pure (fun _ h => h.elim) : RepL (EF fun _ => False) w3 [c0, c1, c2] (topoP T)).2 j z u (by simpa using k1) k2).goes (.ext E34))) (RepL.cons (.agg _ _ rfl (fun j z u k1 k2 => (RepL.cons (.raw _) (RepL.cons (.raw _) (RepL.nil _ _)) : RepL (EF fun _ => False) _ [.int .i64 k, .int .i64 x] (compP k x)).2 j z u (by simpa using k1) k2)) (RepL.nil _ _))))
            gi_wp2
            refine loop_two (fun a' w' => ∃ (y0 y1 y2 y3 y4 y5 y7 y8 y9 y10 y11 y12 y13 y14 y15 y16 y19 y20 y21 y22 y23 y24 y25 y26 y27 y28 y29 y30 y31 y32 y33 y34 y35 y36 y37 y38 y39 y40 : Value) (D : Nat), a' = ⟨#[y0, y1, y2, y3, y4, y5, Value.pointer (some ⟨B', 0, none⟩), y7, y8, y9, y10, y11, y12, y13, y14, y15, y16, Value.int .i64 1, Value.int .i64 1, y19, y20, y21, y22, y23, y24, y25, y26, y27, y28, y29, y30, y31, y32, y33, y34, y35, y36, y37, y38, y39, y40], [⟨.collected D, #[]⟩]⟩ ∧ UniW w.heap.size n B' (E3.at_ 0) E3.M (maskL T k x) w' ∧ Below w.heap.size w w' ∧ w.heap.size ≤ D ∧ w'.heap[D]? = some (.deferred (some []))) ?_ ?_
            · gi_wp2
              refine ⟨trivial, hwi.mono ?_⟩
              rintro e w5 ⟨v5, rfl, hE5, r, rfl, hv5⟩
              cases hv5
              have q0 : w5.cell? ⟨bt, bo, none⟩ = some c0 := hE5.cell (cell_al _ m0)
              have q1 : w5.cell? ⟨bt, bo + 1, none⟩ = some c1 := hE5.cell (cell_al _ m1)
              have q2 : w5.cell? ⟨bt, bo + 2, none⟩ = some c2 := hE5.cell (cell_al _ m2)
              have q3 : w5.cell? ⟨w3.heap.size, 0, none⟩ = some (.int .i64 k) := hE5.cell (new2 w3 _ _ _).1
              have q4 : w5.cell? ⟨w3.heap.size, 1, none⟩ = some (.int .i64 x) := hE5.cell (new2 w3 _ _ _).2
              gi_wp2
              refine ⟨trivial, (links_in c0 c1 c2 k x 3 w5).mono ?_⟩
              rintro e w6 ⟨rfl, rfl⟩
              gi_wp2
              have E35 : Ext w3 w5 := E34.trans hE5
              have hz5 := E35.size
              have E56 : Ext w5 ((w5.alloc (.cells #[c0, c1, c2] 25)).alloc (.cells #[.int .i64 k, .int .i64 x] 27)) := ((Ext.refl w5).alloc _).alloc _
              have hz6 : ((w5.alloc (.cells #[c0, c1, c2] 25)).alloc (.cells #[.int .i64 k, .int .i64 x] 27)).heap.size = w5.heap.size + 2 := by simp
              have p2 : ((w5.alloc (.cells #[c0, c1, c2] 25)).alloc (.cells #[.int .i64 k, .int .i64 x] 27)).cell? ⟨w5.heap.size, 2, none⟩ = some c2 := cell_al _ (new3 w5 _ _ _ _)
              have p3 : ((w5.alloc (.cells #[c0, c1, c2] 25)).alloc (.cells #[.int .i64 k, .int .i64 x] 27)).cell? ⟨w5.heap.size + 1, 0, none⟩ = some (.int .i64 k) := by
                have := (new2 (w5.alloc (.cells #[c0, c1, c2] 25)) (.int .i64 k) (.int .i64 x) 27).1
                rwa [World.size_alloc] at this
              have p4 : ((w5.alloc (.cells #[c0, c1, c2] 25)).alloc (.cells #[.int .i64 k, .int .i64 x] 27)).cell? ⟨w5.heap.size + 1, 1, none⟩ = some (.int .i64 x) := by
                have := (new2 (w5.alloc (.cells #[c0, c1, c2] 25)) (.int .i64 k) (.int .i64 x) 27).2
                rwa [World.size_alloc] at this
              generalize (w5.alloc (.cells #[c0, c1, c2] 25)).alloc (.cells #[.int .i64 k, .int .i64 x] 27) = w6 at *
              have E36 : Ext w3 w6 := E35.trans E56
              obtain ⟨hU3, hone⟩ := UniW.of hs3.sat hB
              have hU6 : UniW w.heap.size n B' (E3.at_ 0) E3.M (List.replicate n false) w6 := hU3.same E36.size (fun b cs t fz hb => E36.block b (Array.getElem?_eq_some_iff.1 hb).1)
              have hL3 : E3.L = 2 := hs3.sat.len
              obtain ⟨G, hGv, hGM⟩ : ∃ G, (∀ b, blockOf (E3.at_ 0) = some b → b = G) ∧ (G = w6.heap.size ∨ E3.M G) := by
                cases hbo : blockOf (E3.at_ 0) with
                | none => exact ⟨_, fun b h => (by cases h), .inl rfl⟩
                | some g => exact ⟨g, fun b h => (by cases h; rfl), .inr ((hs3.sat.mm g).2 (.inr ⟨0, _, rfl, hbo⟩))⟩
              have hlk := lnkV_of (n₁ := w6.heap.size) (hT3.2 2 c2 _ rfl rfl) E36 hGM (fun b hb => hs3.sat.lt hb)
              have hGc : w5.heap.size + 1 ≠ G := by
                rcases hGM with h | h
                · omega
                · have := hs3.sat.lt h; omega
              have hk3 : k = 1 ∨ k = 2 ∨ k = 3 := by
                unfold compB at hc
                split at hc
                · exact .inl ‹_›
                · split at hc
                  · exact .inr (.inl ‹_›)
                  · split at hc
                    · exact .inr (.inr ‹_›)
                    · cases hc
              refine wpIn_rangeFunc_ownF (α := Rng.Ix T.links.length) rfl (by omega) (gf := 159) (lb := #[.pointer (some ⟨w5.heap.size, 0, none⟩), .pointer (some ⟨w5.heap.size + 1, 0, none⟩)]) rfl trivial (enters_of Tryz.func159 (by kernel_rfl) rfl)
                (encs := fun i => #[Value.int .i64 (i.1 : Int)]) (links_stops T k x hk3 (by omega) 3 w5.heap.size (w5.heap.size + 1) G (by omega) c2 w6 (by omega) (by omega) hGc p2 p3 p4 hlk) (fun h1 h2 => h1.trans h2) (fun W l o o' hl ho _ _ => ⟨(grownBy_putObj' W l o').size, fun b h1 _ => (grownBy_putObj' W l o').block b (by have := (Array.getElem?_eq_some_iff.1 ho).1; omega) (fun e => by cases e; omega)⟩) (Below.refl _ _) (fun _ => rfl)
                (fun l W => UniW w.heap.size n B' (E3.at_ 0) E3.M (mk2 n l) W ∧ Kp G w6.heap.size w6 W ∧ Below w.heap.size w W) (fun _ _ _ => False)
                (fun s W W' row hs hg hr => ⟨hs.1.grown hg (fun r e => (hr r e).2), ⟨Nat.le_trans hs.2.1.size hg.size, fun b h1 h2 => (hg.block b (by have := hs.2.1.size; omega) (fun e => by have := (hr b e.symm).1; omega)).trans (hs.2.1.block b h1 h2)⟩, hs.2.2.trans ⟨hg.os, hg.tape, hg.output, hg.size, fun b h1 => hg.block b (by have := hs.1.bl; omega) (fun e => by have := (hr b e.symm).1; have := hU6.bl; omega)⟩⟩)
                (fun _ _ _ _ _ h _ _ => h) ⟨hU6, Kp.refl _ _ _, b3.trans (Below.ofExt E36 hs3.sat.bl)⟩
                (fun i => ⟨#[x0, Value.slice (some ⟨lb, lo, none⟩) 1 lcap, Value.pointer (some ⟨bt, bo, none⟩), x3, x4, x5, Value.pointer (some ⟨B', 0, none⟩), x7, Value.pointer (some ⟨w3.heap.size, 0, none⟩), Value.int .i64 (i.1 : Int), x10, x11, x12, x13, x14, x15, Value.slice (some ⟨lb, lo, none⟩) 1 lcap, Value.int .i64 1, Value.int .i64 0, Value.bool true, Value.pointer (some ⟨lb, lo, none⟩), Value.agg #[.int .i64 k, .int .i64 x], Value.agg #[c0, c1, c2], Value.agg #[.int .i64 k, .int .i64 x], Value.bool true, Value.bool false, Value.agg #[c0, c1, c2], Value.agg #[.int .i64 k, .int .i64 x], Value.func (.func 159) #[] #[.pointer (some ⟨w5.heap.size, 0, none⟩), .pointer (some ⟨w5.heap.size + 1, 0, none⟩)], Value.int .i64 (i.1 : Int), x30, x31, x32, x33, x34, x35, x36, x37, x38, x39, x40], []⟩) ?assign ?body ?done ?stop
              case assign =>
                intro l i W K hK
                gi_wp2
                exact hK
              case body =>
                rintro l pre i W ⟨hU, hK, hb⟩ hlt
                have hMl := mk2_len (n := n) pre
                have hi2 := i.2
                have hb11 := body11 (mk2 n pre) i.1 (by rw [hMl]; omega) (by rw [hMl]; omega)
                rw [hMl, ← mk2_snoc] at hb11
                have hUd : UniW w.heap.size n B' (E3.at_ 0) E3.M (mk2 n pre) { W with drawn := W.drawn + 1 } := hU.same (Nat.le_refl _) (fun _ _ _ _ _ => rfl)
                have hsat := hUd.sat hs3.sat rfl ⟨_, _, _, _, rfl⟩ hB hBb hone
                refine wpIn_block (wpIn_region_any mixed (wpAny_round (fun j o ho c => ?_) ?_ _ _ _ _ (hb11.any (fun _ => False) w.heap.size E3 { W with drawn := W.drawn + 1 } E3 _ { W with drawn := W.drawn + 1 } ⟨hL3, Goes.refl _ _, Below.refl _ _⟩ ⟨hsat, ?_, rfl, rfl⟩ _ ?_)))
                · exact no_defer (by kernel_rfl) j o ho c
                · rintro ⟨a', w', h⟩
                  exact h
                · intro k' p' hk'
                  simp only [look, Bool.cond_eq_ite] at hk'
                  split at hk'
                  · rename_i he
                    have := Nat.eq_of_beq_eq_true he
                    subst this
                    cases hk'
                    exact .ptr 1 0 B' (by omega) (.inl hB)
                  · split at hk'
                    · rename_i he
                      have := Nat.eq_of_beq_eq_true he
                      subst this
                      cases hk'
                      exact .raw _
                    · cases hk'
                · rintro a' w' ⟨⟨t', σ'⟩, E', hσ, hs', hg', hb'⟩
                  simp only at hσ
                  subst hσ
                  have hB'2 : E'.at_ 1 = .pointer (some ⟨B', 0, none⟩) := (hg'.at_ 1 (by omega)).trans hB
                  have hv' : E'.at_ 0 = E3.at_ 0 := hg'.at_ 0 (by omega)
                  obtain ⟨hU', _⟩ := UniW.of hs'.sat hB'2
                  rw [hv'] at hU'
                  have hMM : ∀ b, E3.M b → E'.M b := fun b hb => by
                    rcases (hs3.sat.mm b).1 hb with h | ⟨j, blk, h1, h2⟩
                    · exact h.elim
                    · match j, h1 with
                      | 0, _ => exact (hs'.sat.mm b).2 (.inr ⟨0, _, rfl, by rw [hv']; exact h2⟩)
                      | 1, _ => exact (hs'.sat.mm b).2 (.inr ⟨1, _, rfl, by rw [hg'.at_ 1 (by omega)]; exact h2⟩)
                      | _ + 2, h1 => simp at h1
                  have hown : ∀ b, E3.M b → blockOf (E3.at_ 0) = some b ∨ b = B' := fun b hb => by
                    rcases (hs3.sat.mm b).1 hb with h | ⟨j, blk, h1, h2⟩
                    · exact h.elim
                    · match j, h1 with
                      | 0, _ => exact .inl h2
                      | 1, _ => rw [hB] at h2; cases h2; exact .inr rfl
                      | _ + 2, h1 => simp at h1
                  have hfin : UniW w.heap.size n B' (E3.at_ 0) E3.M (mk2 n (pre ++ [i])) w' := ⟨hU'.bl, hU'.row, hU'.box, hU'.gl.sub hMM⟩
                  have hzW : w6.heap.size ≤ W.heap.size := hK.size
                  have hkp : Kp G w6.heap.size W w' := ⟨hg'.size, fun b h1 h2 => by
                    by_cases hm : E3.M b
                    · rcases hown b hm with h | h
                      · exact absurd (hGv b h) h2
                      · rw [h, hU'.box, hU.box]
                    · exact hg'.heap b (show b < W.heap.size by omega) hm⟩
                  refine ⟨⟨hg'.size, fun b o hb ho => ?_⟩, hkp, hfin, hK.trans hkp, hb.trans ⟨hb'.os, hb'.tape, hb'.output, hb'.size, hb'.block⟩⟩
                  have hnm : ¬ E3.M b := fun hm => by
                    rcases hown b hm with h | h
                    · rcases hU.row.2 with ⟨h1, _⟩ | ⟨g, cap, cur, h1, _, h3, _⟩
                      · rw [h1] at h; cases h
                      · rw [h1] at h
                        cases h
                        rw [h3] at hb
                        cases hb
                        cases ho
                    · rw [h, hU.box] at hb
                      cases hb
                      cases ho
                  rw [hg'.heap b (Array.getElem?_eq_some_iff.1 hb).1 hnm]
                  exact hb
              case done =>
                rintro D ys W hD rfl ⟨hU, hK, hb⟩ hDh
                have hmk : mk2 n (got (partB k x T.links) T.links.length T.links.length) = maskL T k x := by rw [← hn]; exact mask_eq T k x
                rw [hmk] at hU
                gi_wp2
                exact ⟨_, _, _, _, _, _, _, _, _, _, _, _, _, _, _, _, _, _, _, _, _, _, _, _, _, _, _, _, _, _, _, _, _, _, _, _, _, _, D, rfl, hU, hb, by have := hU6.bl; omega, hDh⟩
              case stop =>
                rintro D c pre W _ _ h _
                exact h.elim
            · rintro a' w' ⟨y0, y1, y2, y3, y4, y5, y7, y8, y9, y10, y11, y12, y13, y14, y15, y16, y19, y20, y21, y22, y23, y24, y25, y26, y27, y28, y29, y30, y31, y32, y33, y34, y35, y36, y37, y38, y39, y40, D, rfl, hU, hb, hD, hDh⟩
              have hbx : w'.cell? ⟨B', 0, none⟩ = some (E3.at_ 0) := by
                unfold World.cell?
                simp only [hU.box]
                rfl
              gi_wp2
              have hput := grownBy_putObj' w' D (.deferred none)
              have hnd : ∀ (g : Nat) (o : Array Value) (e : TypeId), w'.heap[g]? = some (Obj.cells o e (0, 0)) → (w'.putObj D (.deferred none)).heap[g]? = w'.heap[g]? := fun g o e hg => hput.block g (Array.getElem?_eq_some_iff.1 hg).1 (fun h => by cases h; rw [hDh] at hg; cases hg)
              refine ⟨by simp, .inl ⟨_, _, rfl, run_takeDeferred hDh, ?_⟩⟩
              rw [hn]
              exact ⟨_, results_tmp2 rfl _ _ _, E3.at_ 0, rfl, hb.trans ⟨hput.os, hput.tape, hput.output, hput.size, fun b h1 => hput.block b (by have := hU.bl; omega) (fun h => by cases h; omega)⟩, row_same hU.row (fun g o hg => hnd g o _ hg)⟩
end PW
end Go.Proofs.YtbpgndbjbaoolaaGreat

/- Masks of components: package component's Mask, the reference's. -/
namespace Go.Proofs.YtbpgndbjbaoolaaGreat
set_option linter.unusedVariables false
set_option linter.unusedSimpArgs false
namespace PW
open Go.RowKit Reg Mem Net Rng

/-- A contract with a store of its own, read. -/
theorem Can.ofS {P : Program} {f : FuncId} {ps : List PV} {R : PV → Sto → Prop} {S : PV → Prop} (h : CanS P f ps [] R) (hR : ∀ r σ', R r σ' → ∃ q, Pur σ' r q ∧ S q) : Can P f ps S := fun F w vs hF hG hr => by
  refine (h F w.heap.size (EF F) w vs (Sat.start F w hF hG) hr).mono ?_
  rintro e w' ⟨v, r, σ', E', rfl, h1, h2, h3, h4, h5⟩
  obtain ⟨q, k1, k2⟩ := hR r σ' h1
  exact ⟨v, rfl, h4, q, k2, k1.rep h2 (fun b hb => (h2.mm b).2 (.inl hb)) (fun b hb => (h2.fb b hb).2) v h5⟩
theorem unionS_can (T : Topo) (k x : Int) (hv : validB T = true) (hc : compB T k x = true) : CanS Tryz.prog 116 [topoV T, .slice 1 (compP k x)] [] (fun r σ' => r = .tuple [.own 0, num 0] ∧ σ' = [some (.row 4 1 (2 * T.links.length) (boolsP (maskL T k x)))]) := fun F base E w vs hS hR => by
  refine (union_raw T k x hv hc w vs (hR.pure (fun _ h => h.elim)) (hS.gl.sub fun _ h => h.elim)).mono ?_
  rintro e w' ⟨v, rfl, hE, hrow⟩
  have hrow2 : w'.ownsRow base 4 1 v (2 * T.links.length) ((maskL T k x).map Value.bool) := ⟨hrow.1, hrow.2.imp id fun ⟨g, cap, cur, h1, h2, h3⟩ => ⟨g, cap, cur, h1, Nat.le_trans hS.bl h2, h3⟩⟩
  have hnew : ∀ b, blockOf v = some b → w.heap.size ≤ b ∧ b < w'.heap.size := fun b hb => by
    rcases hrow.2 with ⟨h1, _⟩ | ⟨g, cap, cur, h1, h2, h3, _⟩
    · rw [h1] at hb; cases hb
    · rw [h1] at hb
      cases hb
      exact ⟨h2, (Array.getElem?_eq_some_iff.1 h3).1⟩
  have hone : v.oneCell' = true := by
    rcases hrow.2 with ⟨h1, _⟩ | ⟨g, cap, cur, h1, h2, h3, _⟩ <;> rw [h1] <;> rfl
  have hL : E.L = 0 := hS.len
  have hp := hS.push hE (v := v) (blk := .row 4 1 (2 * T.links.length) (boolsP (maskL T k x))) (fun b h => (hnew b h).1) ⟨_, hrow2, bools_rep _⟩
  refine ⟨_, _, _, E.push v, rfl, ⟨rfl, rfl⟩, hp.1, hp.2, Below.ofExt hE hS.bl, .tuple _ _ rfl (fun i c u h1 h2 => ?_)⟩
  match i, h1, h2 with
  | 0, h1, h2 =>
    simp at h1 h2
    subst h1
    subst h2
    exact .own 0 (by show 0 < E.L + 1; omega) _ (by simp [Env.push, hL]) hone
  | 1, h1, h2 =>
    simp at h1 h2
    subst h1
    subst h2
    exact .raw _
  | _ + 2, h1, h2 => simp at h2
def maskE (T : Topo) (k x : Int) : Int := if (validB T && compB T k x) = true then 0 else 1
def boolsE (e : Int) (L : List Bool) : PV := .tuple [boolsV (if e = 0 then L else []), num e]
theorem maskL_len (T : Topo) (k x : Int) : (maskL T k x).length = 2 * T.links.length := by simp [maskL]
set_option maxRecDepth 10000 in
set_option maxHeartbeats 1000000 in
theorem unionE_can (T : Topo) (k x : Int) (hno : (validB T && compB T k x) = false) : Can Tryz.prog 116 [topoV T, .slice 1 (compP k x)] (· = boolsE 1 []) := by
  refine can_of Tryz.func116 rfl Tryz.ntmps116 rfl ?_
  refine W_cs (.a 3 rfl <| .k [1, 2] rfl) ?_
  refine W_seq ?_
  refine W_cs (.a 1 rfl <| .c rfl (valid_can T) rfl <| .a 1 rfl <| .k [1, 2, 12] rfl) ?_
  refine W_cond rfl (fun h1 => ?_) (fun h1 => ?_)
  · skip
    refine W_cs (.a 2 rfl <| .k [4, 5] rfl) ?_
    refine W_ret ?_
    exact ⟨_, _, ResL.of rfl, Pur.tupleL (PurL.cons Pur.nils (PurL.cons Pur.pure PurL.nil)), rfl⟩
  · have hv : validB T = true := by simpa using h1
    have hc : compB T k x = false := by rw [hv, Bool.true_and] at hno; exact hno
    have hll := links_le hv
    have hcw := cwithin_can T k x
    rw [hc] at hcw
    refine W_skip ?_
    refine W_rs ?_
    refine WR_a 1 rfl <| WR_c rfl (arcs_can T (by omega)) rfl <| WR_l (l_make rfl (fok.rk.get rfl) rfl rfl (show 2 * (T.links.length : Int) = ((2 * T.links.length : Nat) : Int) by omega) (show 2 * (T.links.length : Int) = ((2 * T.links.length : Nat) : Int) by omega) ⟨by unfold maxLen; omega, by omega⟩) rfl <| WR_a 2 rfl <| WR_k [1, 2, 6] rfl ?_
    refine W_seq ?_
    refine W_cs (.a 3 rfl <| .k [2, 6, 16, 17, 18] rfl) ?_
    refine W_block ?_
    refine W_k [2, 6, 16, 17, 18] rfl ?_
    refine W_loop (fun r st => st = ⟨[(2, .pin (topoP T) 0), (6, .ptr 1 0), (16, .slice 1 (compP k x)), (17, num 1), (18, num 0)], [some (.row 4 1 (2 * T.links.length) (zeros [.raw (.bool false)] (2 * T.links.length))), some (.cells 22 [.own 0])]⟩) 0 rfl ?_
    rintro r st rfl
    refine W_cs (.a 1 rfl <| .k [2, 6, 16, 17, 18, 19] rfl) ?_
    refine W_seq ?_
    refine W_cond rfl (fun h2 => ?_) (fun h2 => ?_)
    · skip
      refine W_skip ?_
      refine W_seq ?_
      refine W_block ?_
      refine W_rs ?_
      refine WR_v (y_ix (0) rfl) rfl <| WR_v (y_la rfl ((show ((compP k x).drop 0).take 2 = compP k x from rfl)) rfl) rfl <| WR_a 2 rfl <| WR_k [2, 6, 8, 16, 17, 18] rfl ?_
      refine W_seq ?_
      refine W_cs (.a 2 rfl <| .c rfl (hcw) rfl <| .a 1 rfl <| .k [2, 6, 8, 16, 17, 18, 25] rfl) ?_
      refine W_cond rfl (fun h3 => ?_) (fun h3 => ?_)
      · skip
        refine W_cs (.a 2 rfl <| .k [4, 5] rfl) ?_
        refine W_ret ?_
        exact ⟨_, _, ResL.of rfl, Pur.tupleL (PurL.cons Pur.nils (PurL.cons Pur.pure PurL.nil)), rfl⟩
      · exact absurd h3 (by decide)
    · exact absurd h2 (by decide)
set_option maxRecDepth 10000 in
set_option maxHeartbeats 1000000 in
theorem maskS_can (T : Topo) (k x : Int) (hv : validB T = true) (hc : compB T k x = true) : CanS Tryz.prog 75 [topoV T, compV k x] [] (fun r σ' => r = .tuple [.own 0, num 0] ∧ σ' = [some (.row 4 1 (2 * T.links.length) (boolsP (maskL T k x)))]) := by
  refine canS_of Tryz.func75 rfl Tryz.ntmps75 rfl ?_
  refine W_cs (.a 4 rfl <| .k [2, 3] rfl) ?_
  refine W_rs ?_
  refine WR_a 3 rfl <| WR_cS rfl rfl (CanS.mono (unionS_can T k x hv hc) (fun r σ' h => ?_))
  obtain ⟨rfl, rfl⟩ := h
  refine WR_a 4 rfl <| WR_k [4, 5] rfl ?_
  refine W_ret ?_
  exact ⟨_, ResL.of rfl, rfl, rfl⟩
set_option maxRecDepth 10000 in
set_option maxHeartbeats 1000000 in
theorem mask_can (T : Topo) (k x : Int) : Can Tryz.prog 75 [topoV T, compV k x] (· = boolsE (maskE T k x) (maskL T k x)) := by
  cases hno : (validB T && compB T k x) with
  | true =>
    obtain ⟨hv, hc⟩ := Bool.and_eq_true_iff.1 hno
    refine Can.ofS (maskS_can T k x hv hc) ?_
    rintro r σ' ⟨rfl, rfl⟩
    refine ⟨_, Pur.tupleL (PurL.cons (Pur.ownL rfl PurL.pure) (PurL.cons Pur.pure PurL.nil)), ?_⟩
    unfold boolsE maskE boolsV
    rw [if_pos hno, if_pos rfl, maskL_len]
  | false =>
    have he : maskE T k x = 1 := by unfold maskE; rw [if_neg (by rw [hno]; simp)]
    rw [he]
    refine can_of Tryz.func75 rfl Tryz.ntmps75 rfl ?_
    refine W_cs (.a 4 rfl <| .k [2, 3] rfl) ?_
    refine W_cs (.a 3 rfl <| .c rfl (unionE_can T k x hno) rfl <| .a 4 rfl <| .k [4, 5] rfl) ?_
    refine W_ret ?_
    exact ⟨_, _, ResL.of rfl, Pur.pure, rfl⟩
end PW
end Go.Proofs.YtbpgndbjbaoolaaGreat

/- Masks of components: the reference. -/
namespace Go.Proofs.YtbpgndbjbaoolaaGreat
set_option linter.unusedVariables false
set_option linter.unusedSimpArgs false
namespace PW
open Go.RowKit Reg Mem Net Rng

set_option maxRecDepth 10000 in
set_option maxHeartbeats 1000000 in
theorem rvalid10_can (T : Topo) (k x : Int) : Can Tryz.prog 54 [topoV T, compV k x] (· = flag (validB T && compB T k x)) := by
  obtain ⟨q1, h1⟩ : ∃ q, decide (0 ≤ x) = q := ⟨_, rfl⟩
  obtain ⟨q2, h2⟩ : ∃ q, decide (x < (T.links.length : Int)) = q := ⟨_, rfl⟩
  obtain ⟨q5, h5⟩ : ∃ q, decide (x < T.nodes) = q := ⟨_, rfl⟩
  obtain ⟨q3, h3⟩ : ∃ q, decide (1 ≤ x) = q := ⟨_, rfl⟩
  obtain ⟨q4, h4⟩ : ∃ q, decide (x ≤ 64) = q := ⟨_, rfl⟩
  have hnb : nodeB T x = (q1 && q5) := by rw [← h1, ← h5, ← Bool.decide_and]; rfl
  have hB : compB T k x = if k = 1 then (q1 && q2) else if k = 2 then (q1 && q5) else if k = 3 then (q3 && q4) else false := by unfold compB; rw [h1, h2, h3, h4, hnb]
  rw [hB]
  refine can_of Tryz.func54 rfl Tryz.ntmps54 rfl ?_
  refine W_cs (.a 3 rfl <| .k [2, 3] rfl) ?_
  refine W_seq ?_
  refine W_cs (.a 1 rfl <| .c rfl (rvalid_can T) rfl <| .a 1 rfl <| .k [2, 3, 7] rfl) ?_
  refine W_cond rfl (fun hv1 => ?_) (fun hv1 => ?_)
  · have hv : validB T = false := by simpa using hv1
    refine W_cs (.a 1 rfl <| .k [4] rfl) ?_
    refine W_ret ?_
    exact ⟨_, _, ResL.of rfl, Pur.pure, by rw [hv]; rfl⟩
  · have hv : validB T = true := by simpa using hv1
    rw [hv, Bool.true_and]
    refine W_skip ?_
    refine W_seq ?_
    refine W_cs (.a 2 rfl <| .k [2, 3, 9] rfl) ?_
    refine W_block ?_
    refine W_cs (.a 2 rfl <| .k [2, 3, 9, 10] rfl) ?_
    refine W_cond rfl (fun hk1 => ?_) (fun hk1 => ?_)
    · have k1 : k = 1 := tt hk1
      refine W_csK 4 (.raw (.bool (q1 && q2))) [] rfl ?_ ?_
      · refine .a 2 rfl <| .v (y_q rfl (h1)) rfl <| .a 1 rfl <| ?_
        cases q1
        · exact .a 8 rfl <| .k [4] rfl
        · exact .a 5 rfl <| .v (y_q rfl (h2)) rfl <| .a 2 rfl <| .k [4] rfl
      refine W_ret ?_
      exact ⟨_, _, ResL.of rfl, Pur.pure, by rw [if_pos k1]; rfl⟩
    · have k1 : ¬ k = 1 := ff hk1
      refine W_cs (.a 2 rfl <| .k [2, 3, 9, 23] rfl) ?_
      refine W_cond rfl (fun hk2 => ?_) (fun hk2 => ?_)
      · have k2 : k = 2 := tt hk2
        refine W_csK 4 (.raw (.bool (q1 && q5))) [] rfl ?_ ?_
        · refine .a 2 rfl <| .v (y_q rfl (h1)) rfl <| .a 1 rfl <| ?_
          cases q1
          · exact .a 7 rfl <| .k [4] rfl
          · exact .a 4 rfl <| .v (y_q rfl (h5)) rfl <| .a 2 rfl <| .k [4] rfl
        refine W_ret ?_
        exact ⟨_, _, ResL.of rfl, Pur.pure, by rw [if_neg k1, if_pos k2]; rfl⟩
      · have k2 : ¬ k = 2 := ff hk2
        refine W_cs (.a 2 rfl <| .k [3, 35] rfl) ?_
        refine W_cond rfl (fun hk3 => ?_) (fun hk3 => ?_)
        · have k3 : k = 3 := tt hk3
          refine W_csK 4 (.raw (.bool (q3 && q4))) [] rfl ?_ ?_
          · refine .a 2 rfl <| .v (y_q rfl (h3)) rfl <| .a 1 rfl <| ?_
            cases q3
            · exact .a 5 rfl <| .k [4] rfl
            · exact .a 2 rfl <| .v (y_q rfl (h4)) rfl <| .a 2 rfl <| .k [4] rfl
          refine W_ret ?_
          exact ⟨_, _, ResL.of rfl, Pur.pure, by rw [if_neg k1, if_neg k2, if_pos k3]; rfl⟩
        · have k3 : ¬ k = 3 := ff hk3
          refine W_skip ?_
          refine W_cs (.a 1 rfl <| .k [4] rfl) ?_
          refine W_ret ?_
          exact ⟨_, _, ResL.of rfl, Pur.pure, by rw [if_neg k1, if_neg k2, if_neg k3]; rfl⟩
theorem lnks_drop7 (L : List Lnk) (i : Nat) (hi : i < L.length) : ((lnksP L).drop (i * 7)).take 7 = lnkP (lnk L i) := by
  apply List.ext_getElem?
  intro j
  by_cases hj : j < 7
  · rw [List.getElem?_take, if_pos hj, List.getElem?_drop, lnks_getP L i j hi hj]
  · rw [List.getElem?_take, if_neg hj, List.getElem?_eq_none (by simp [lnkP]; omega)]
set_option maxRecDepth 10000 in
set_option maxHeartbeats 1000000 in
theorem rof_can (T : Topo) (k x : Int) (a : Nat) (ha : a < 2 * T.links.length) (hl : T.links.length ≤ 256) : Can Tryz.prog 104 [topoV T, compV k x, num a] (· = flag (partB k x T.links (a / 2))) := by
  have hi : a / 2 < T.links.length := by omega
  obtain ⟨e, he⟩ : ∃ e, lnk T.links (a / 2) = e := ⟨_, rfl⟩
  have hdr := lnks_drop7 T.links (a / 2) hi
  rw [he] at hdr
  obtain ⟨q1, h1⟩ : ∃ q, decide (((a / 2 : Nat) : Int) = x) = q := ⟨_, rfl⟩
  obtain ⟨q2, h2⟩ : ∃ q, decide (e.a = x) = q := ⟨_, rfl⟩
  obtain ⟨q3, h3⟩ : ∃ q, decide (e.b = x) = q := ⟨_, rfl⟩
  obtain ⟨q4, h4⟩ : ∃ q, decide (e.grp = x) = q := ⟨_, rfl⟩
  have hP : partB k x T.links (a / 2) = if k = 1 then q1 else if k = 2 then (q2 || q3) else q4 := by unfold partB; rw [he, h1, h2, h3, h4]
  rw [hP]
  refine can_of Tryz.func104 rfl Tryz.ntmps104 rfl ?_
  refine W_cs (.a 3 rfl <| .k [2, 3, 4] rfl) ?_
  refine W_rs ?_
  refine WR_a 3 rfl <| WR_v (y_quo rfl rfl rfl (by decide) ((show (a : Int).tdiv 2 = ((a / 2 : Nat) : Int) by rw [Int.tdiv_eq_ediv_of_nonneg (by omega)]; omega)) (by unfold In64; omega)) rfl <| WR_v (y_ix ((a / 2 * 7)) rfl) rfl <| WR_v (y_la rfl (hdr) rfl) rfl <| WR_a 2 rfl <| WR_k [2, 4, 7] rfl ?_
  refine W_sto (σ' := [some (.cells 72 (lnkP e))]) rfl ?_
  refine W_seq ?_
  refine W_cs (.a 2 rfl <| .k [2, 4, 7, 15] rfl) ?_
  refine W_block ?_
  refine W_cs (.a 2 rfl <| .k [2, 4, 7, 15, 16] rfl) ?_
  refine W_cond rfl (fun hk1 => ?_) (fun hk1 => ?_)
  · have k1 : k = 1 := tt hk1
    refine W_cs (.a 1 rfl <| .v (y_quo rfl rfl rfl (by decide) ((show (a : Int).tdiv 2 = ((a / 2 : Nat) : Int) by rw [Int.tdiv_eq_ediv_of_nonneg (by omega)]; omega)) (by unfold In64; omega)) rfl <| .a 2 rfl <| .v (y_q rfl (h1)) rfl <| .a 1 rfl <| .k [6] rfl) ?_
    refine W_ret ?_
    exact ⟨_, _, ResL.of rfl, Pur.pure, by rw [if_pos k1]; rfl⟩
  · have k1 : ¬ k = 1 := ff hk1
    refine W_cs (.a 2 rfl <| .k [4, 7, 23] rfl) ?_
    refine W_cond rfl (fun hk2 => ?_) (fun hk2 => ?_)
    · have k2 : k = 2 := tt hk2
      refine W_csK 6 (.raw (.bool (q2 || q3))) [] rfl ?_ ?_
      · refine .a 4 rfl <| .v (y_q rfl (h2)) rfl <| .a 1 rfl <| ?_
        cases q2
        · exact .a 4 rfl <| .v (y_q rfl (h3)) rfl <| .a 2 rfl <| .k [6] rfl
        · exact .a 7 rfl <| .k [6] rfl
      refine W_ret ?_
      exact ⟨_, _, ResL.of rfl, Pur.pure, by rw [if_neg k1, if_pos k2]; rfl⟩
    · have k2 : ¬ k = 2 := ff hk2
      refine W_skip ?_
      refine W_cs (.a 4 rfl <| .v (y_q rfl (h4)) rfl <| .a 1 rfl <| .k [6] rfl) ?_
      refine W_ret ?_
      exact ⟨_, _, ResL.of rfl, Pur.pure, by rw [if_neg k1, if_neg k2]; rfl⟩
/-- The mask as far as m. -/
def mskTo (T : Topo) (k x : Int) (m : Nat) : List Bool := (List.range (2 * T.links.length)).map fun a => decide (a < m) && partB k x T.links (a / 2)
theorem mskTo_zero (T : Topo) (k x : Int) : mskTo T k x 0 = List.replicate (2 * T.links.length) false := by
  unfold mskTo
  apply List.ext_getElem (by simp)
  intro i h1 h2
  simp
theorem mskTo_len (T : Topo) (k x : Int) (m : Nat) : (mskTo T k x m).length = 2 * T.links.length := by simp [mskTo]
theorem mskTo_yes {T : Topo} {k x : Int} {m : Nat} (h : partB k x T.links (m / 2) = true) : (mskTo T k x m).set m true = mskTo T k x (m + 1) := by
  apply List.ext_getElem (by simp [mskTo])
  intro i h1 h2
  rw [List.getElem_set]
  by_cases e : m = i
  · subst e; simp [mskTo, h]
  · rw [if_neg e]
    simp only [mskTo, List.getElem_map, List.getElem_range]
    rw [show decide (i < m + 1) = decide (i < m) from decide_eq_decide.2 (by omega)]
theorem mskTo_no {T : Topo} {k x : Int} {m : Nat} (h : partB k x T.links (m / 2) = false) : mskTo T k x (m + 1) = mskTo T k x m := by
  unfold mskTo
  refine List.map_congr_left fun a _ => ?_
  by_cases e : a = m
  · subst e; rw [h]; simp
  · rw [show decide (a < m + 1) = decide (a < m) from decide_eq_decide.2 (by omega)]
theorem mskTo_all (T : Topo) (k x : Int) : mskTo T k x (2 * T.links.length) = maskL T k x := by
  unfold mskTo maskL
  refine List.map_congr_left fun a ha => ?_
  rw [decide_eq_true (List.mem_range.1 ha), Bool.true_and]
def brow (L : List Bool) : Option Blk := some (.row 4 1 L.length (boolsP L))
set_option maxRecDepth 10000 in
set_option maxHeartbeats 2000000 in
theorem runionS_can (T : Topo) (k x : Int) : CanS Tryz.prog 57 [topoV T, .slice 1 (compP k x)] [] (fun r σ' => ((validB T && compB T k x) = false ∧ r = .tuple [.raw (.slice none 0 0), num 1]) ∨ ((validB T && compB T k x) = true ∧ r = .tuple [.own 0, num 0] ∧ σ' = [brow (maskL T k x)])) := by
  refine canS_of Tryz.func57 rfl Tryz.ntmps57 rfl ?_
  refine W_cs (.a 3 rfl <| .k [1, 2] rfl) ?_
  refine W_seq ?_
  refine W_cs (.a 1 rfl <| .c rfl (rvalid_can T) rfl <| .a 1 rfl <| .k [1, 2, 11] rfl) ?_
  refine W_cond rfl (fun h1 => ?_) (fun h1 => ?_)
  · have hv : validB T = false := by simpa using h1
    refine W_cs (.a 2 rfl <| .k [4, 5] rfl) ?_
    refine W_ret ?_
    exact ⟨_, ResL.of rfl, .inl ⟨by rw [hv]; rfl, rfl⟩⟩
  · have hv : validB T = true := by simpa using h1
    have hll := links_le hv
    refine W_skip ?_
    refine W_rs ?_
    refine WR_a 3 rfl <| WR_v (y_ar rfl) rfl <| WR_l (l_make rfl (fok.rk.get rfl) rfl rfl (show 2 * (T.links.length : Int) = ((2 * T.links.length : Nat) : Int) by omega) (show 2 * (T.links.length : Int) = ((2 * T.links.length : Nat) : Int) by omega) ⟨by unfold maxLen; omega, by omega⟩) rfl <| WR_a 1 rfl <| WR_k [1, 2, 6] rfl ?_
    refine W_sto (σ' := [brow (mskTo T k x 0)]) (by unfold brow; rw [mskTo_zero, List.length_replicate, ← zeros_bools]; rfl) ?_
    refine W_seq ?_
    refine W_cs (.a 1 rfl <| .k [1, 2, 6, 7] rfl) ?_
    refine W_block ?_
    refine W_k [1, 2, 6, 7] rfl ?_
    refine W_loop (fun r st => ∃ (i : Nat) (M : List Bool), i ≤ 1 ∧ r = 1 - i ∧ (i = 0 → M = mskTo T k x 0) ∧ (i = 1 → compB T k x = true ∧ M = maskL T k x) ∧ st = ⟨[(1, .slice 1 (compP k x)), (2, .pin (topoP T) 0), (6, .own 0), (7, num i)], [brow M]⟩) 1 ⟨0, _, by omega, rfl, fun _ => rfl, fun h => by omega, rfl⟩ ?_
    rintro r st ⟨i, M, hi, rfl, hM0, hM1, rfl⟩
    refine W_seq ?_
    refine W_cs (.a 4 rfl <| .k [1, 2, 6, 7, 20] rfl) ?_
    refine W_cond rfl (fun h2 => ?_) (fun h2 => ?_)
    · have hi0 : i = 0 := by have := tt h2; omega
      subst hi0
      obtain rfl := hM0 rfl
      refine W_skip ?_
      refine W_seq ?_
      refine W_block ?_
      refine W_seq ?_
      refine W_drs mixed (by kernel_rfl) (.a 3 rfl <| .v [24, 25] (y_ix (0) rfl) rfl rfl <| .v [26] (y_la rfl ((show ((compP k x).drop 0).take 2 = compP k x from rfl)) rfl) rfl rfl <| .v [23, 27] (y_c rfl (rvalid10_can T k x)) rfl rfl <| .a 1 rfl <| .k [1, 2, 6, 7, 29] rfl) ?_
      refine W_cond rfl (fun h3 => ?_) (fun h3 => ?_)
      · have hc : (validB T && compB T k x) = false := (Bool.not_eq_true' _).mp h3
        refine W_cs (.a 2 rfl <| .k [4, 5] rfl) ?_
        refine W_ret ?_
        exact ⟨_, ResL.of rfl, .inl ⟨hc, rfl⟩⟩
      · have hvc : (validB T && compB T k x) = true := by simpa using h3
        have hc : compB T k x = true := (Bool.and_eq_true_iff.1 hvc).2
        refine W_skip ?_
        refine W_cs (.a 1 rfl <| .k [1, 2, 6, 7, 8] rfl) ?_
        refine W_block ?_
        refine W_k [1, 2, 6, 7, 8] rfl ?_
        refine W_loop (fun r st => ∃ m : Nat, m ≤ 2 * T.links.length ∧ r = 2 * T.links.length - m ∧ st = ⟨[(1, .slice 1 (compP k x)), (2, .pin (topoP T) 0), (6, .own 0), (7, num 0), (8, num m)], [brow (mskTo T k x m)]⟩) (2 * T.links.length) ⟨0, by omega, by omega, rfl⟩ ?_
        rintro r st ⟨m, hm, rfl, rfl⟩
        have hml := mskTo_len T k x m
        refine W_seq ?_
        refine W_cs (.a 4 rfl <| .k [1, 2, 6, 7, 8, 33] rfl) ?_
        refine W_cond rfl (fun h4 => ?_) (fun h4 => ?_)
        · have hlt : m < 2 * T.links.length := by have := tt h4; omega
          refine W_skip ?_
          refine W_seq ?_
          refine W_block ?_
          refine W_drs mixed (by kernel_rfl) (.a 3 rfl <| .v [37, 38] (y_ix (0) rfl) rfl rfl <| .v [39] (y_la rfl ((show ((compP k x).drop 0).take 2 = compP k x from rfl)) rfl) rfl rfl <| .a 1 rfl <| .v [36, 40, 41] (y_c rfl (rof_can T k x m hlt (by omega))) rfl rfl <| .k [1, 2, 6, 7, 8, 42] rfl) ?_
          refine W_cond rfl (fun h5 => ?_) (fun h5 => ?_)
          · have hst := mskTo_yes h5
            refine W_region ?_
            refine WR_a 2 rfl <| WR_v (y_ix (m) rfl) rfl <| WR_loud0 ((by first | exact l_storeInts rfl (fok.tk.get rfl) rfl rfl rfl (by first | omega | (simp; omega)) | exact l_storeBools rfl (fok.tk.get rfl) rfl rfl rfl (by first | omega | (simp; omega)))) rfl rfl <| WR_k [1, 2, 6, 7, 8] rfl ?_
            refine W_chain (.a 1 rfl <| .v (y_ar rfl) rfl <| .a 1 rfl <| .k [1, 2, 6, 7, 8] rfl) ?_
            refine ⟨2 * T.links.length - (m + 1), by omega, m + 1, by omega, rfl, ?_⟩
            first
              | (rw [hst]; rfl)
              | (rw [hst]; unfold brow; rw [mskTo_len, mskTo_len]; rfl)
          · have hst := mskTo_no h5
            refine W_skip ?_
            refine W_chain (.a 1 rfl <| .v (y_ar rfl) rfl <| .a 1 rfl <| .k [1, 2, 6, 7, 8] rfl) ?_
            refine ⟨2 * T.links.length - (m + 1), by omega, m + 1, by omega, rfl, ?_⟩
            first
              | (rw [hst]; rfl)
              | (rw [hst]; unfold brow; rw [mskTo_len, mskTo_len]; rfl)
        · have hme : m = 2 * T.links.length := by have := ff h4; omega
          subst hme
          refine W_exit ?_
          refine W_chain (.a 1 rfl <| .v (y_ar rfl) rfl <| .a 1 rfl <| .k [1, 2, 6, 7] rfl) ?_
          exact ⟨0, by omega, 1, _, by omega, rfl, fun h => by omega, fun _ => ⟨hc, rfl⟩, by rw [mskTo_all]; rfl⟩
    · have hi1 : i = 1 := by have := ff h2; omega
      subst hi1
      obtain ⟨hc, rfl⟩ := hM1 rfl
      refine W_exit ?_
      refine W_cs (.a 3 rfl <| .k [4, 5] rfl) ?_
      refine W_ret ?_
      exact ⟨_, ResL.of rfl, .inr ⟨by rw [hv, hc]; rfl, rfl, rfl⟩⟩
set_option maxRecDepth 10000 in
set_option maxHeartbeats 1000000 in
theorem rmaskS_can (T : Topo) (k x : Int) : CanS Tryz.prog 23 [topoV T, compV k x] [] (fun r σ' => ((validB T && compB T k x) = false ∧ r = .tuple [.raw (.slice none 0 0), num 1]) ∨ ((validB T && compB T k x) = true ∧ r = .tuple [.own 0, num 0] ∧ σ' = [brow (maskL T k x)])) := by
  refine canS_of Tryz.func23 rfl Tryz.ntmps23 rfl ?_
  refine W_cs (.a 4 rfl <| .k [2, 3] rfl) ?_
  refine W_cs (.a 3 rfl <| .k [2, 6] rfl) ?_
  refine W_rs ?_
  refine WR_a 2 rfl <| WR_cS rfl rfl (CanS.mono (CanS.mono (runionS_can T k x) (fun r σ' h => (show ∃ y z, r = .tuple [y, z] ∧ (((validB T && compB T k x) = false ∧ y = .raw (.slice none 0 0) ∧ z = num 1) ∨ ((validB T && compB T k x) = true ∧ y = .own 0 ∧ z = num 0 ∧ σ' = [brow (maskL T k x)])) from by rcases h with ⟨h1, rfl⟩ | ⟨h1, rfl, h2⟩; exact ⟨_, _, rfl, .inl ⟨h1, rfl, rfl⟩⟩; exact ⟨_, _, rfl, .inr ⟨h1, rfl, rfl, h2⟩⟩))) (fun r σ' h => ?_))
  obtain ⟨y, z, rfl, hyz⟩ := h
  refine WR_a 4 rfl <| WR_k [4, 5] rfl ?_
  refine W_ret ?_
  refine ⟨_, ResL.of rfl, ?_⟩
  rcases hyz with ⟨h1, rfl, rfl⟩ | ⟨h1, rfl, rfl, rfl⟩
  · exact .inl ⟨h1, rfl⟩
  · exact .inr ⟨h1, rfl, rfl⟩
theorem rmask_can (T : Topo) (k x : Int) : Can Tryz.prog 23 [topoV T, compV k x] (· = boolsE (maskE T k x) (maskL T k x)) := by
  refine Can.ofS (rmaskS_can T k x) ?_
  rintro r σ' (⟨h1, rfl⟩ | ⟨h1, rfl, rfl⟩)
  · refine ⟨_, Pur.tupleL (PurL.cons Pur.nils (PurL.cons Pur.pure PurL.nil)), ?_⟩
    have he : maskE T k x = 1 := by unfold maskE; rw [if_neg (by rw [h1]; simp)]
    rw [he]
    rfl
  · refine ⟨_, Pur.tupleL (PurL.cons (Pur.ownL rfl PurL.pure) (PurL.cons Pur.pure PurL.nil)), ?_⟩
    unfold boolsE maskE boolsV
    rw [if_pos h1, if_pos rfl]
end PW
end Go.Proofs.YtbpgndbjbaoolaaGreat

/- The reference of the layers 9, 11 and 12, in plain form: scalars, search, Dist. -/
namespace Go.Proofs.YtbpgndbjbaoolaaGreat
set_option linter.unusedVariables false
set_option linter.unusedSimpArgs false
namespace PW
open Go.RowKit Reg Mem Net


end PW
end Go.Proofs.YtbpgndbjbaoolaaGreat

/- The reference of layer 12: next arcs; Out of layer 9. -/
namespace Go.Proofs.YtbpgndbjbaoolaaGreat
set_option linter.unusedVariables false
set_option linter.unusedSimpArgs false
namespace PW
open Go.RowKit Reg Mem Net

end PW
end Go.Proofs.YtbpgndbjbaoolaaGreat

/- The reference of layer 22: Routes. -/
namespace Go.Proofs.YtbpgndbjbaoolaaGreat
set_option linter.unusedVariables false
set_option linter.unusedSimpArgs false
namespace PW
open Go.RowKit Reg Mem Net

end PW
end Go.Proofs.YtbpgndbjbaoolaaGreat

/- Segments are compared. -/
namespace Go.Proofs.YtbpgndbjbaoolaaGreat
set_option linter.unusedVariables false
set_option linter.unusedSimpArgs false
namespace PW
open Go.RowKit Reg Mem Net

theorem run_eqSeg (a b c d : Int) (w : World) : (Op.equalIn 10000 53 (.agg #[.int .i64 a, .int .i64 b]) (.agg #[.int .i64 c, .int .i64 d])).run Tryz.prog w = .ok (a == c && b == d) w := by
  have u3 := Tryz.underlying3
  have a3 := Tryz.isAgg3
  have z3 := Tryz.sizeOf3
  have hS : Tryz.prog.underlying 53 = some (.struct (Tryz.prog.fieldsOf 53)) := by kernel_rfl
  rw [show (10000 : Nat) = 9999 + 1 from rfl, run_equalIn_agg w 9999 53 _ _ hS (by kernel_rfl)]
  simp only [Program.fieldsOf, Tryz.underlying53]
  go_simp
  by_cases h1 : a = c <;> by_cases h2 : b = d <;> simp [h1, h2]
theorem rep_seg {E : Env} {w : World} {v : Value} {s : Seg} (h : Rep E w v (segV s)) : v = .agg #[.int .i64 s.kind, .int .i64 s.num] := by
  unfold segV segP at h
  cases h with
  | agg cs _ hl hr =>
    obtain ⟨l⟩ := cs
    match l, hl, hr with
    | [x, y], _, hr =>
      have h0 := rep_raw (hr 0 x _ rfl rfl)
      have h1 := rep_raw (hr 1 y _ rfl rfl)
      subst h0; subst h1; rfl
    | [], hl, _ => simp at hl
    | [_], hl, _ => simp at hl
    | _ :: _ :: _ :: _, hl, _ => simp at hl
theorem y_segEql {σ : Sto} {t : Tms} {o : Oper} {x y : Operand} {tz : TypeId} {a b : Seg} {q : Bool} (ho : o.op = .binOp .eql 53 x y tz) (hx : evalO t x = some (segV a)) (hy : evalO t y = some (segV b)) (hq : decide (a = b) = q) : Yield Tryz.prog σ t o (.raw (.bool q)) := by
  intro F base E ρ w hρ _ hT
  have h1 := rep_seg (evalO_rep hρ hT hx)
  have h2 := rep_seg (evalO_rep hρ hT hy)
  have hb : (a.kind == b.kind && a.num == b.num) = q := by
    rw [← hq]
    obtain ⟨a1, a2⟩ := a
    obtain ⟨b1, b2⟩ := b
    by_cases e1 : a1 = b1 <;> by_cases e2 : a2 = b2 <;> simp [e1, e2]
  simp only [execOp, ho, h1, h2, Sem.run_bind, run_eqGuard_agg w _ _ _ _ _ _ (show Tryz.prog.eqGuardType Tryz.prog.depth 53 = false by kernel_rfl), Result.andThen_ok, run_eql_struct, run_eqSeg, Sem.run_pure, hb]
  exact upon_val (.raw _)
end PW
end Go.Proofs.YtbpgndbjbaoolaaGreat

/- The reference of the layers 18 and 22: Same. -/
namespace Go.Proofs.YtbpgndbjbaoolaaGreat
set_option linter.unusedVariables false
set_option linter.unusedSimpArgs false
namespace PW
open Go.RowKit Reg Mem Net

deriving instance DecidableEq for Ent
deriving instance DecidableEq for Tab
theorem rep_tab {E : Env} {w : World} {v : Value} {x : Tab} (h : Rep E w v (tabV x)) : x.ents.length ≤ maxLen ∧ x.down.length ≤ maxLen := by
  unfold tabV tabP at h
  cases h with
  | agg cs _ hl hr =>
    have hr : RepL E w cs.toList _ := ⟨by simpa using hl, fun i x u h1 h2 => hr i x u (by simpa using h1) h2⟩
    obtain ⟨v1, _, h1⟩ := hr.get (i := 1) rfl
    obtain ⟨v2, _, h2⟩ := hr.get (i := 2) rfl
    exact ⟨rep_len h1, rep_len h2⟩
end PW
end Go.Proofs.YtbpgndbjbaoolaaGreat

/- Valid segments and tables: graph.Segment, package table's leaving, proper, Valid; the reference's of layers 18 and 22. -/
namespace Go.Proofs.YtbpgndbjbaoolaaGreat
set_option linter.unusedVariables false
set_option linter.unusedSimpArgs false
namespace PW
open Go.RowKit Reg Mem Net

def segB (T : Topo) (s : Seg) : Bool := if s.kind = 1 then nodeB T s.num else if s.kind = 2 then arcB T s.num else if s.kind = 3 then withinB s.num 1 64 else if s.kind = 4 then withinB s.num 0 65535 else false
def leaveB (T : Topo) (n : Int) (L : List Int) : Bool := decide (∀ i, i < L.length → arcB T (L.getD i 0) = true ∧ tailN T (L.getD i 0).toNat = n ∧ (0 < i → L.getD (i - 1) 0 < L.getD i 0))
def entOK (T : Topo) (n d : Int) (e : Ent) : Bool := leaveB T n e.arcs && (!(decide (d = n) && decide (0 < (e.arcs.length : Int)))) && (if e.rep then decide ((e.arcs.length : Int) = 1) && decide ((e.push.length : Int) ≤ 32) && e.push.all (segB T) else decide ((e.push.length : Int) = 0))
def entD : Ent := ⟨[], false, []⟩
def entsOK (T : Topo) (n : Int) (l : List Ent) : Bool := decide (∀ d, d < l.length → entOK T n d (l.getD d entD) = true)
def tabOK (T : Topo) (x : Tab) : Bool := validB T && nodeB T x.node && decide ((x.ents.length : Int) = T.nodes) && leaveB T x.node x.down && entsOK T x.node x.ents
theorem arcB_iff {T : Topo} {a : Int} : arcB T a = true ↔ 0 ≤ a ∧ a < 2 * (T.links.length : Int) := by simp [arcB]
theorem tailI_can (T : Topo) (a : Int) (h : arcB T a = true) : Can Tryz.prog 87 [topoV T, num a] (· = num (tailN T a.toNat)) := by
  obtain ⟨h0, h1⟩ := arcB_iff.1 h
  obtain ⟨a, rfl⟩ := Int.eq_ofNat_of_zero_le h0
  exact tail_can T a (by omega)

set_option maxRecDepth 10000 in
set_option maxHeartbeats 1000000 in
theorem segm_can (T : Topo) (hl : T.links.length ≤ 4611686018427387903) (s : Seg) : Can Tryz.prog 160 [topoV T, segV s] (· = flag (segB T s)) := by
  unfold segB
  refine can_of Tryz.func160 rfl Tryz.ntmps160 rfl ?_
  refine W_cs (.a 3 rfl <| .k [2, 3] rfl) ?_
  refine W_seq ?_
  refine W_cs (.a 2 rfl <| .k [2, 3, 6] rfl) ?_
  refine W_block ?_
  refine W_cs (.a 2 rfl <| .k [2, 3, 6, 7] rfl) ?_
  refine W_cond rfl (fun hc => ?_) (fun hc => ?_)
  · rw [if_pos (tt hc)]
    refine W_cs (.a 3 rfl <| .c rfl (node_can T s.num) rfl <| .a 1 rfl <| .k [4] rfl) ?_
    refine W_ret ?_
    exact ⟨_, _, ResL.of rfl, Pur.pure, rfl⟩
  · rw [if_neg (ff hc)]
    refine W_cs (.a 2 rfl <| .k [2, 3, 6, 13] rfl) ?_
    refine W_cond rfl (fun hc => ?_) (fun hc => ?_)
    · rw [if_pos (tt hc)]
      refine W_cs (.a 3 rfl <| .c rfl (arc_can T hl s.num) rfl <| .a 1 rfl <| .k [4] rfl) ?_
      refine W_ret ?_
      exact ⟨_, _, ResL.of rfl, Pur.pure, rfl⟩
    · rw [if_neg (ff hc)]
      refine W_cs (.a 2 rfl <| .k [3, 6, 19] rfl) ?_
      refine W_cond rfl (fun hc => ?_) (fun hc => ?_)
      · rw [if_pos (tt hc)]
        obtain ⟨p1, hp1⟩ : ∃ q, decide (1 ≤ s.num) = q := ⟨_, rfl⟩
        obtain ⟨p2, hp2⟩ : ∃ q, decide (s.num ≤ 64) = q := ⟨_, rfl⟩
        have he : withinB s.num 1 64 = (p1 && p2) := by rw [← hp1, ← hp2]; unfold withinB; exact Bool.decide_and _ _
        rw [he]
        refine W_csK 4 (.raw (.bool (p1 && p2))) [] rfl ?_ ?_
        · refine .a 2 rfl <| .v (y_q rfl (hp1)) rfl <| .a 1 rfl <| ?_
          cases p1
          · exact .a 5 rfl <| .k [4] rfl
          · exact .a 2 rfl <| .v (y_q rfl (hp2)) rfl <| .a 2 rfl <| .k [4] rfl
        refine W_ret ?_
        exact ⟨_, _, ResL.of rfl, Pur.pure, rfl⟩
      · rw [if_neg (ff hc)]
        refine W_cs (.a 2 rfl <| .k [3, 29] rfl) ?_
        refine W_cond rfl (fun hc => ?_) (fun hc => ?_)
        · rw [if_pos (tt hc)]
          obtain ⟨p1, hp1⟩ : ∃ q, decide (0 ≤ s.num) = q := ⟨_, rfl⟩
          obtain ⟨p2, hp2⟩ : ∃ q, decide (s.num ≤ 65535) = q := ⟨_, rfl⟩
          have he : withinB s.num 0 65535 = (p1 && p2) := by rw [← hp1, ← hp2]; unfold withinB; exact Bool.decide_and _ _
          rw [he]
          refine W_csK 4 (.raw (.bool (p1 && p2))) [] rfl ?_ ?_
          · refine .a 2 rfl <| .v (y_q rfl (hp1)) rfl <| .a 1 rfl <| ?_
            cases p1
            · exact .a 5 rfl <| .k [4] rfl
            · exact .a 2 rfl <| .v (y_q rfl (hp2)) rfl <| .a 2 rfl <| .k [4] rfl
          refine W_ret ?_
          exact ⟨_, _, ResL.of rfl, Pur.pure, rfl⟩
        · rw [if_neg (ff hc)]
          refine W_skip ?_
          refine W_cs (.a 1 rfl <| .k [4] rfl) ?_
          refine W_ret ?_
          exact ⟨_, _, ResL.of rfl, Pur.pure, rfl⟩
/-- One step of the check of a list of arcs. -/
def stepB (T : Topo) (n : Int) (L : List Int) (i : Nat) : Bool := decide (arcB T (L.getD i 0) = true ∧ tailN T (L.getD i 0).toNat = n ∧ (0 < i → L.getD (i - 1) 0 < L.getD i 0))
theorem leave_all {T : Topo} {n : Int} {L : List Int} (h : ∀ i, i < L.length → stepB T n L i = true) : leaveB T n L = true := decide_eq_true fun i hi => tt (h i hi)
theorem leave_fail {T : Topo} {n : Int} {L : List Int} {i : Nat} (hi : i < L.length) (h : stepB T n L i = false) : leaveB T n L = false := decide_eq_false fun ha => ff h (ha i hi)
set_option maxRecDepth 10000 in
set_option maxHeartbeats 1000000 in
theorem tleaving_can (T : Topo) (hv : validB T = true) (n : Int) (L : List Int) : Can Tryz.prog 135 [topoV T, num n, intsV L] (· = flag (leaveB T n L)) := by
  have hll := links_le hv
  refine can_rep fun ⟨E, w, vs, hR⟩ => ?_
  obtain ⟨v, _, hv⟩ := hR.get (i := 2) rfl
  have hm := rep_len hv
  unfold maxLen at hm
  refine can_of Tryz.func135 rfl Tryz.ntmps135 rfl ?_
  refine W_cs (.a 2 rfl <| .k [1, 2, 3] rfl) ?_
  refine W_seq ?_
  refine W_cs (.a 3 rfl <| .k [1, 2, 3, 9, 10, 11] rfl) ?_
  refine W_block ?_
  refine W_k [1, 2, 3, 9, 10, 11] rfl ?_
  refine W_loop (fun r s => ∃ k, k ≤ L.length ∧ r = L.length - k ∧ (∀ i, i < k → stepB T n L i = true) ∧ s = ⟨[(1, num n), (2, intsV L), (3, .pin (topoP T) 0), (9, intsV L), (10, num L.length), (11, num k)], []⟩) L.length ⟨0, by omega, by omega, fun i hi => by omega, rfl⟩ ?_
  rintro r s ⟨k, hk, rfl, hall, rfl⟩
  refine W_cs (.a 1 rfl <| .k [1, 2, 3, 9, 10, 11, 12] rfl) ?_
  refine W_seq ?_
  refine W_cond rfl (fun hc => ?_) (fun hc => ?_)
  · have hlt : k < L.length := by have := tt hc; omega
    obtain ⟨p1, hp1⟩ : ∃ q, arcB T (L.getD k 0) = q := ⟨_, rfl⟩
    obtain ⟨p2, hp2⟩ : ∃ q, decide (tailN T (L.getD k 0).toNat ≠ n) = q := ⟨_, rfl⟩
    obtain ⟨p3, hp3⟩ : ∃ q, decide (0 < (k : Int)) = q := ⟨_, rfl⟩
    obtain ⟨p4, hp4⟩ : ∃ q, decide (L.getD k 0 ≤ L.getD (k - 1) 0) = q := ⟨_, rfl⟩
    refine W_skip ?_
    refine W_seq ?_
    refine W_block ?_
    refine W_cs (.a 1 rfl <| .v (y_ix (k) rfl) rfl <| .v (y_ld rfl (ints_get L k hlt)) rfl <| .a 2 rfl <| .k [1, 2, 3, 7, 8, 9, 10, 11] rfl) ?_
    refine W_csK 39 (.raw (.bool (((!p1) || p2) || (p3 && p4)))) [1, 2, 3, 9, 10, 11] rfl ?_ ?_
    · refine .a 2 rfl <| .c rfl (hp1 ▸ arc_can T (by omega) (L.getD k 0)) rfl <| .a 2 rfl <| ?_
      cases p1
      · exact .a 19 rfl <| .k [39, 1, 2, 3, 9, 10, 11] rfl
      · refine .a 2 rfl <| .c rfl (tailI_can T _ hp1) rfl <| .a 1 rfl <| .v (y_q rfl (hp2)) rfl <| .a 2 rfl <| ?_
        cases p2
        · refine .a 1 rfl <| .v (y_q rfl (hp3)) rfl <| .a 1 rfl <| ?_
          cases p3
          · exact .a 9 rfl <| .k [39, 1, 2, 3, 9, 10, 11] rfl
          · exact .a 2 rfl <| .v (y_ar rfl) rfl <| .v (y_ix (k - 1) rfl (by have := tt hp3; omega) (by omega)) rfl <| .v (y_ld rfl (ints_get L (k - 1) (by omega))) rfl <| .a 1 rfl <| .v (y_q rfl (hp4)) rfl <| .a 2 rfl <| .k [39, 1, 2, 3, 9, 10, 11] rfl
        · exact .a 12 rfl <| .k [39, 1, 2, 3, 9, 10, 11] rfl
    refine W_cond rfl (fun hx => ?_) (fun hx => ?_)
    · have hno : stepB T n L k = false := by
        refine decide_eq_false fun ⟨h1, h2, h3⟩ => ?_
        rw [h1] at hp1
        rw [decide_eq_false (by simpa using h2)] at hp2
        subst hp1 hp2
        simp only [Bool.not_true, Bool.false_or, Bool.and_eq_true] at hx
        rw [hx.1] at hp3
        rw [hx.2] at hp4
        have := h3 (by have := tt hp3; omega)
        have := tt hp4
        omega
      rw [leave_fail hlt hno]
      refine W_cs (.a 1 rfl <| .k [6] rfl) ?_
      refine W_ret ?_
      exact ⟨_, _, ResL.of rfl, Pur.pure, rfl⟩
    · have hyes : stepB T n L k = true := by
        obtain ⟨c1, c3⟩ := Bool.or_eq_false_iff.1 hx
        obtain ⟨c1, c2⟩ := Bool.or_eq_false_iff.1 c1
        refine decide_eq_true ⟨?_, ?_, fun h0 => ?_⟩
        · rw [hp1]; simpa using c1
        · rw [c2] at hp2; exact Classical.byContradiction (ff hp2)
        · rw [decide_eq_true (by omega)] at hp3
          subst hp3
          rw [Bool.true_and] at c3
          rw [c3] at hp4
          have := ff hp4
          omega
      refine W_skip ?_
      refine W_chain (.v (y_ar rfl) rfl <| .a 1 rfl <| .k [1, 2, 3, 9, 10, 11] rfl) ?_
      refine ⟨L.length - (k + 1), by omega, k + 1, by omega, rfl, fun i hi => ?_, rfl⟩
      by_cases h : i = k
      · rw [h]; exact hyes
      · exact hall i (by omega)
  · have hke : k = L.length := by have := ff hc; omega
    subst hke
    rw [leave_all hall]
    refine W_exit ?_
    refine W_cs (.a 1 rfl <| .k [6] rfl) ?_
    refine W_ret ?_
    exact ⟨_, _, ResL.of rfl, Pur.pure, rfl⟩
theorem allT {α : Type} (p : α → Bool) (L : List α) (k : Nat) (a : α) (h : L[k]? = some a) : (L.take (k + 1)).all p = ((L.take k).all p && p a) := by
  rw [List.take_add_one, h, List.all_append]; simp
theorem allF {α : Type} (p : α → Bool) (L : List α) (k : Nat) (a : α) (h : L[k]? = some a) (hp : p a = false) : L.all p = false := by
  rw [Bool.eq_false_iff]
  intro ha
  have := List.all_eq_true.1 ha a (List.mem_of_getElem? h)
  rw [hp] at this
  cases this
set_option maxRecDepth 10000 in
set_option maxHeartbeats 1000000 in
theorem proper_can (T : Topo) (hv : validB T = true) (e : Ent) (n d : Int) : Can Tryz.prog 136 [topoV T, entV e, num n, num d] (· = flag (entOK T n d e)) := by
  have hll := links_le hv
  obtain ⟨p1, hp1⟩ : ∃ q, leaveB T n e.arcs = q := ⟨_, rfl⟩
  obtain ⟨p2, hp2⟩ : ∃ q, decide (d = n) = q := ⟨_, rfl⟩
  obtain ⟨p3, hp3⟩ : ∃ q, decide (0 < (e.arcs.length : Int)) = q := ⟨_, rfl⟩
  unfold entOK
  rw [hp1, hp2, hp3]
  refine can_of Tryz.func136 rfl Tryz.ntmps136 rfl ?_
  refine W_cs (.a 3 rfl <| .k [2, 3, 4, 5] rfl) ?_
  refine W_seq ?_
  refine W_csK 27 (.raw (.bool ((!p1) || (p2 && p3)))) [4, 5] rfl ?_ ?_
  · refine .a 4 rfl <| .c rfl (hp1 ▸ tleaving_can T hv n e.arcs) rfl <| .a 2 rfl <| ?_
    cases p1
    · exact .a 10 rfl <| .k [27, 4, 5] rfl
    · refine .a 2 rfl <| .v (y_q rfl (hp2)) rfl <| .a 1 rfl <| ?_
      cases p2
      · exact .a 6 rfl <| .k [27, 4, 5] rfl
      · exact .a 3 rfl <| .v (y_q rfl (hp3)) rfl <| .a 2 rfl <| .k [27, 4, 5] rfl
  refine W_cond rfl (fun hc => ?_) (fun hc => ?_)
  · have he : (p1 && !(p2 && p3)) = false := by cases p1 <;> cases p2 <;> cases p3 <;> first | rfl | cases hc
    rw [he, Bool.false_and]
    refine W_cs (.a 1 rfl <| .k [8] rfl) ?_
    refine W_ret ?_
    exact ⟨_, _, ResL.of rfl, Pur.pure, rfl⟩
  · have he : (p1 && !(p2 && p3)) = true := by cases p1 <;> cases p2 <;> cases p3 <;> first | rfl | cases hc
    rw [he, Bool.true_and]
    refine W_skip ?_
    refine W_seq ?_
    refine W_cs (.a 3 rfl <| .k [4, 5, 30] rfl) ?_
    refine W_cond rfl (fun hc => ?_) (fun hc => ?_)
    · have hr : e.rep = false := by simpa using hc
      rw [hr, if_neg (by simp)]
      refine W_cs (.a 5 rfl <| .k [8] rfl) ?_
      refine W_ret ?_
      exact ⟨_, _, ResL.of rfl, Pur.pure, rfl⟩
    · have hr : e.rep = true := by simpa using hc
      rw [hr, if_pos rfl]
      refine W_skip ?_
      refine W_seq ?_
      obtain ⟨p4, hp4⟩ : ∃ q, decide ((e.arcs.length : Int) ≠ 1) = q := ⟨_, rfl⟩
      obtain ⟨p5, hp5⟩ : ∃ q, decide (32 < (e.push.length : Int)) = q := ⟨_, rfl⟩
      refine W_csK 44 (.raw (.bool (p4 || p5))) [4, 5] rfl ?_ ?_
      · refine .a 3 rfl <| .v (y_q rfl (hp4)) rfl <| .a 1 rfl <| ?_
        cases p4
        · exact .a 3 rfl <| .v (y_q rfl (hp5)) rfl <| .a 1 rfl <| .k [44, 4, 5] rfl
        · exact .a 5 rfl <| .k [44, 4, 5] rfl
      refine W_cond rfl (fun hx => ?_) (fun hx => ?_)
      · have hf : (decide ((e.arcs.length : Int) = 1) && decide ((e.push.length : Int) ≤ 32)) = false := by
          rcases Bool.or_eq_true_iff.1 hx with h | h
          · rw [h] at hp4; rw [decide_eq_false (tt hp4)]; rfl
          · rw [h] at hp5; rw [decide_eq_false (by have := tt hp5; omega : ¬ ((e.push.length : Int) ≤ 32)), Bool.and_false]
        rw [hf, Bool.false_and]
        refine W_cs (.a 1 rfl <| .k [8] rfl) ?_
        refine W_ret ?_
        exact ⟨_, _, ResL.of rfl, Pur.pure, rfl⟩
      · obtain ⟨c1, c2⟩ := Bool.or_eq_false_iff.1 hx
        rw [c1] at hp4
        rw [c2] at hp5
        have hlen : e.push.length ≤ 32 := by have := ff hp5; omega
        rw [decide_eq_true (Classical.byContradiction (ff hp4)), decide_eq_true (by omega : (e.push.length : Int) ≤ 32), Bool.true_and, Bool.true_and]
        refine W_skip ?_
        refine W_seq ?_
        refine W_cs (.a 4 rfl <| .k [4, 46, 47, 48] rfl) ?_
        refine W_block ?_
        refine W_k [4, 46, 47, 48] rfl ?_
        refine W_loop (fun r s => ∃ k, k ≤ e.push.length ∧ r = e.push.length - k ∧ (e.push.take k).all (segB T) = true ∧ s = ⟨[(4, .pin (topoP T) 0), (46, segsV e.push), (47, num e.push.length), (48, num k)], []⟩) e.push.length ⟨0, by omega, by omega, by simp, rfl⟩ ?_
        rintro r s ⟨k, hk, rfl, hall, rfl⟩
        refine W_cs (.a 1 rfl <| .k [4, 46, 47, 48, 49] rfl) ?_
        refine W_seq ?_
        refine W_cond rfl (fun hy => ?_) (fun hy => ?_)
        · have hlt : k < e.push.length := by have := tt hy; omega
          obtain ⟨a, ha⟩ : ∃ a, e.push[k]? = some a := ⟨e.push[k], by simp [hlt]⟩
          refine W_skip ?_
          refine W_seq ?_
          refine W_block ?_
          refine W_rs ?_
          refine WR_v (y_ix (k * 2) rfl) rfl <| WR_v (y_la rfl (segs_drop e.push k a ha) rfl) rfl <| WR_a 2 rfl <| WR_k [4, 10, 46, 47, 48] rfl ?_
          refine W_cs (.a 2 rfl <| .c rfl (segm_can T (by omega) a) rfl <| .a 1 rfl <| .k [4, 46, 47, 48, 55] rfl) ?_
          refine W_ren [] (.c 4 <| .c 46 <| .c 47 <| .c 48 <| .c 55 .nil) .nil rfl rfl ?_
          refine W_cond rfl (fun hz => ?_) (fun hz => ?_)
          · rw [allF _ _ k a ha (by simpa using hz)]
            refine W_cs (.a 1 rfl <| .k [8] rfl) ?_
            refine W_ret ?_
            exact ⟨_, _, ResL.of rfl, Pur.pure, rfl⟩
          · have hz' : segB T a = true := by simpa using hz
            refine W_skip ?_
            refine W_chain (.v (y_ar rfl) rfl <| .a 1 rfl <| .k [4, 46, 47, 48] rfl) ?_
            exact ⟨e.push.length - (k + 1), by omega, k + 1, by omega, rfl, by rw [allT _ _ k a ha, hall, hz']; rfl, rfl⟩
        · have hke : k = e.push.length := by have := ff hy; omega
          subst hke
          rw [List.take_length] at hall
          rw [hall]
          refine W_exit ?_
          refine W_cs (.a 1 rfl <| .k [8] rfl) ?_
          refine W_ret ?_
          exact ⟨_, _, ResL.of rfl, Pur.pure, rfl⟩
theorem ents_getD (l : List Ent) (k : Nat) (e : Ent) (h : l[k]? = some e) : l.getD k entD = e := by rw [List.getD_eq_getElem?_getD, h]; rfl
theorem entsOK_fail {T : Topo} {n : Int} {l : List Ent} {k : Nat} {e : Ent} (h : l[k]? = some e) (hf : entOK T n k e = false) : entsOK T n l = false := decide_eq_false fun ha => by
  have := ha k (List.getElem?_eq_some_iff.1 h).1
  rw [ents_getD l k e h, hf] at this
  cases this
theorem entsOK_all {T : Topo} {n : Int} {l : List Ent} (h : ∀ (k : Nat) e, l[k]? = some e → entOK T n k e = true) : entsOK T n l = true := decide_eq_true fun d hd => by
  have he : l[d]? = some l[d] := by simp [hd]
  rw [ents_getD l d _ he]
  exact h d _ he
set_option maxRecDepth 10000 in
set_option maxHeartbeats 1000000 in
theorem tvalid_can (T : Topo) (x : Tab) : Can Tryz.prog 91 [topoV T, tabV x] (· = flag (tabOK T x)) := by
  refine can_rep fun ⟨E, w, vs, hR⟩ => ?_
  obtain ⟨v, _, hvv⟩ := hR.get (i := 1) rfl
  have hm := (rep_tab hvv).1
  unfold maxLen at hm
  obtain ⟨p1, hp1⟩ : ∃ q, validB T = q := ⟨_, rfl⟩
  obtain ⟨p2, hp2⟩ : ∃ q, nodeB T x.node = q := ⟨_, rfl⟩
  obtain ⟨p3, hp3⟩ : ∃ q, decide ((x.ents.length : Int) ≠ T.nodes) = q := ⟨_, rfl⟩
  obtain ⟨p4, hp4⟩ : ∃ q, leaveB T x.node x.down = q := ⟨_, rfl⟩
  have he : decide ((x.ents.length : Int) = T.nodes) = !p3 := by rw [← hp3]; simp
  unfold tabOK
  rw [hp1, hp2, he, hp4]
  refine can_of Tryz.func91 rfl Tryz.ntmps91 rfl ?_
  refine W_cs (.a 3 rfl <| .k [2, 3] rfl) ?_
  refine W_seq ?_
  refine W_csK 33 (.raw (.bool ((((!p1) || !p2) || p3) || !p4))) [2, 3] rfl ?_ ?_
  · refine .a 1 rfl <| .c rfl (hp1 ▸ valid_can T) rfl <| .a 2 rfl <| ?_
    cases p1
    · exact .a 23 rfl <| .k [33, 2, 3] rfl
    · refine .a 3 rfl <| .c rfl (hp2 ▸ node_can T x.node) rfl <| .a 3 rfl <| ?_
      cases p2
      · exact .a 16 rfl <| .k [33, 2, 3] rfl
      · refine .a 5 rfl <| .v (y_q rfl (hp3)) rfl <| .a 2 rfl <| ?_
        cases p3
        · exact .a 5 rfl <| .c rfl (hp4 ▸ tleaving_can T hp1 x.node x.down) rfl <| .a 2 rfl <| .k [33, 2, 3] rfl
        · exact .a 8 rfl <| .k [33, 2, 3] rfl
  refine W_cond rfl (fun hc => ?_) (fun hc => ?_)
  · have hf : (p1 && p2 && !p3 && p4) = false := by cases p1 <;> cases p2 <;> cases p3 <;> cases p4 <;> first | rfl | cases hc
    rw [hf, Bool.false_and]
    refine W_cs (.a 1 rfl <| .k [4] rfl) ?_
    refine W_ret ?_
    exact ⟨_, _, ResL.of rfl, Pur.pure, rfl⟩
  · have hf : (p1 && p2 && !p3 && p4) = true := by cases p1 <;> cases p2 <;> cases p3 <;> cases p4 <;> first | rfl | cases hc
    rw [hf, Bool.true_and]
    have e1 : p1 = true := by cases p1 <;> simp_all
    rw [e1] at hp1
    refine W_skip ?_
    refine W_seq ?_
    refine W_cs (.a 4 rfl <| .k [2, 3, 35, 36, 37] rfl) ?_
    refine W_block ?_
    refine W_k [2, 3, 35, 36, 37] rfl ?_
    refine W_loop (fun r s => ∃ k, k ≤ x.ents.length ∧ r = x.ents.length - k ∧ (∀ (i : Nat) e, i < k → x.ents[i]? = some e → entOK T x.node i e = true) ∧ s = ⟨[(2, .pin (topoP T) 0), (3, .pin (tabP x) 0), (35, entsV x.ents), (36, num x.ents.length), (37, num k)], []⟩) x.ents.length ⟨0, by omega, by omega, fun i e hi => by omega, rfl⟩ ?_
    rintro r s ⟨k, hk, rfl, hall, rfl⟩
    refine W_cs (.a 1 rfl <| .k [2, 3, 35, 36, 37, 38] rfl) ?_
    refine W_seq ?_
    refine W_cond rfl (fun hy => ?_) (fun hy => ?_)
    · have hlt : k < x.ents.length := by have := tt hy; omega
      obtain ⟨e, hek⟩ : ∃ a, x.ents[k]? = some a := ⟨x.ents[k], by simp [hlt]⟩
      refine W_skip ?_
      refine W_seq ?_
      refine W_block ?_
      refine W_rs ?_
      refine WR_a 1 rfl <| WR_v (y_ix (k * 3) rfl) rfl <| WR_v (y_la rfl (ents_drop x.ents k e hek) rfl) rfl <| WR_a 3 rfl <| WR_k [2, 3, 5, 6, 35, 36, 37] rfl ?_
      refine W_cs (.a 5 rfl <| .c rfl (proper_can T hp1 e x.node k) rfl <| .a 1 rfl <| .k [2, 3, 35, 36, 37, 48] rfl) ?_
      refine W_ren [] (.c 2 <| .c 3 <| .c 35 <| .c 36 <| .c 37 <| .c 48 .nil) .nil rfl rfl ?_
      refine W_cond rfl (fun hz => ?_) (fun hz => ?_)
      · rw [entsOK_fail hek (by simpa using hz)]
        refine W_cs (.a 1 rfl <| .k [4] rfl) ?_
        refine W_ret ?_
        exact ⟨_, _, ResL.of rfl, Pur.pure, rfl⟩
      · have hz' : entOK T x.node k e = true := by simpa using hz
        refine W_skip ?_
        refine W_chain (.v (y_ar rfl) rfl <| .a 1 rfl <| .k [2, 3, 35, 36, 37] rfl) ?_
        refine ⟨x.ents.length - (k + 1), by omega, k + 1, by omega, rfl, fun i e' hi he' => ?_, rfl⟩
        by_cases h : i = k
        · subst h; rw [hek] at he'; cases he'; exact hz'
        · exact hall i e' (by omega) he'
    · have hke : k = x.ents.length := by have := ff hy; omega
      rw [entsOK_all fun i e hi => hall i e (by have := (List.getElem?_eq_some_iff.1 hi).1; omega) hi]
      refine W_exit ?_
      refine W_cs (.a 1 rfl <| .k [4] rfl) ?_
      refine W_ret ?_
      exact ⟨_, _, ResL.of rfl, Pur.pure, rfl⟩
end PW
end Go.Proofs.YtbpgndbjbaoolaaGreat

/- The next arcs of a node, as plain mathematics: they lead to nodes that are nearer; a node that reaches has one; tables of routes are valid. -/
namespace Go.Proofs.YtbpgndbjbaoolaaGreat
set_option linter.unusedVariables false
set_option linter.unusedSimpArgs false
namespace PW
open Go.RowKit Reg Mem Net

theorem outL_sorted (T : Topo) (n : Int) : (outL T n).Pairwise (· < ·) := by
  unfold outL outTo
  refine List.Pairwise.map _ (fun a b h => ?_) ((List.pairwise_lt_range (n := 2 * T.links.length)).filter _)
  show (a : Int) < (b : Int)
  omega
theorem outL_iff {T : Topo} {n : Int} {a : Int} : a ∈ outL T n ↔ arcB T a = true ∧ tailN T a.toNat = n := by
  unfold outL outTo
  rw [List.mem_map, arcB_iff]
  constructor
  · rintro ⟨b, hb, rfl⟩
    obtain ⟨h1, h2⟩ := List.mem_filter.1 hb
    have := List.mem_range.1 h1
    refine ⟨⟨by simp, by simp; omega⟩, by simpa using h2⟩
  · rintro ⟨⟨h0, h1⟩, h2⟩
    refine ⟨a.toNat, List.mem_filter.2 ⟨List.mem_range.2 (by omega), by simpa using h2⟩, by simp; omega⟩
theorem leave_of {T : Topo} {n : Int} {L : List Int} (hs : L.Pairwise (· < ·)) (hm : ∀ a ∈ L, arcB T a = true ∧ tailN T a.toNat = n) : leaveB T n L = true := decide_eq_true fun i hi => by
  have h1 := hm _ (getD_mem (d := 0) hi)
  refine ⟨h1.1, h1.2, fun h0 => ?_⟩
  have := List.pairwise_iff_getElem.1 hs (i - 1) i (by omega) hi (by omega)
  rw [List.getD_eq_getElem?_getD, List.getD_eq_getElem?_getD, List.getElem?_eq_getElem hi, List.getElem?_eq_getElem (by omega : i - 1 < L.length)]
  exact this
theorem leave_out (T : Topo) (n : Int) (p : Int → Bool) : leaveB T n ((outL T n).filter p) = true := leave_of ((outL_sorted T n).filter p) fun _ ha => outL_iff.1 (List.mem_filter.1 ha).1
theorem leave_next (T : Topo) (D : List Bool) (n d : Nat) : leaveB T n (nextL T D n d) = true := by
  unfold nextL
  split
  · exact decide_eq_true fun i hi => by simp at hi
  · exact leave_out T n _
theorem next_self (T : Topo) (D : List Bool) (n : Nat) : nextL T D n n = [] := by unfold nextL; rw [if_pos (.inl rfl)]
theorem dist_at {T : Topo} {D : List Bool} (hv : validB T = true) {d x : Nat} (hd : (d : Int) < T.nodes) (hx : (x : Int) < T.nodes) : (distL T D d false).getD x 0 = at' (distL T D d false) (x : Int) := by
  have hl := (distL_bound (D := D) hv (dir := false) hd).1
  unfold at'
  rw [Int.toNat_natCast, List.getD_eq_getElem?_getD, List.getD_eq_getElem?_getD, List.getElem?_eq_getElem (by omega)]
  rfl
/-- What is known of a next arc. -/
structure Nearer (T : Topo) (D : List Bool) (n d a : Nat) : Prop where
  arc : a < 2 * T.links.length
  tail : tailN T a = (n : Int)
  up : downN D a = false
  ne : n ≠ d
  reach : 0 ≤ (distL T D d false).getD (headN T a).toNat 0
  pass : headN T a = (d : Int) ∨ overN T (headN T a).toNat = false
  sum : (distL T D d false).getD n 0 = (distL T D d false).getD (headN T a).toNat 0 + costN T a
theorem next_mem {T : Topo} {D : List Bool} {n d : Nat} {a : Int} (h : a ∈ nextL T D n d) : ∃ k : Nat, a = k ∧ Nearer T D n d k := by
  unfold nextL at h
  split at h
  · simp at h
  · rename_i hne
    obtain ⟨h1, h2⟩ := List.mem_filter.1 h
    obtain ⟨h3, h4⟩ := outL_iff.1 h1
    obtain ⟨h5, h6⟩ := arcB_iff.1 h3
    obtain ⟨k, rfl⟩ := Int.eq_ofNat_of_zero_le h5
    rw [Int.toNat_natCast] at h2 h4
    unfold passB at h2
    simp only [Bool.and_eq_true, Bool.not_eq_true', Bool.or_eq_false_iff, decide_eq_true_eq, decide_eq_false_iff_not] at h2
    obtain ⟨⟨⟨g1, g2⟩, g3⟩, g4⟩ := h2
    refine ⟨k, rfl, by omega, h4, g1, fun e => hne (.inl e), by omega, ?_, by omega⟩
    rcases Bool.and_eq_false_iff.1 g3 with g | g
    · exact .inl (Classical.byContradiction (ff g))
    · exact .inr g
theorem next_of {T : Topo} {D : List Bool} {n d k : Nat} (h : Nearer T D n d k) (hc : 1 ≤ costN T k) : (k : Int) ∈ nextL T D n d := by
  have hs := h.sum
  have hr := h.reach
  unfold nextL
  rw [if_neg (by rintro (e | e); exact h.ne e; omega)]
  refine List.mem_filter.2 ⟨outL_iff.2 ⟨arcB_iff.2 ⟨by omega, by have := h.arc; omega⟩, h.tail⟩, ?_⟩
  unfold passB
  rw [Int.toNat_natCast]
  simp only [Bool.and_eq_true, Bool.not_eq_true', Bool.or_eq_false_iff, decide_eq_true_eq, decide_eq_false_iff_not]
  refine ⟨⟨⟨h.up, by omega⟩, ?_⟩, by omega⟩
  rcases h.pass with g | g
  · rw [decide_eq_false (by simpa using g)]; rfl
  · rw [g, Bool.and_false]
theorem next_ex {T : Topo} {D : List Bool} (hv : validB T = true) {n d : Nat} (hn : (n : Int) < T.nodes) (hd : (d : Int) < T.nodes) (hne : n ≠ d) (h0 : 0 ≤ (distL T D d false).getD n 0) : ∃ k, Nearer T D n d k := by
  have hS := sound_of hv
  have hI := distL_is hS D false hd
  have e1 := dist_at (D := D) hv hd hn
  rcases hI.supp n hn (by rw [← e1]; exact h0) with h | ⟨a, ha, hx, ⟨w1, w2, w3⟩, hs⟩
  · exact absurd h hne
  · have hh := hS.head a ha
    obtain ⟨y, hy⟩ := Int.eq_ofNat_of_zero_le hh.1
    have e2 := dist_at (D := D) hv hd (x := y) (by omega)
    simp only [arcX, arcY, Bool.false_eq_true, if_false] at hx w2 w3 hs
    rw [hy] at w2 w3 hs
    refine ⟨a, ha, hx, w1, hne, ?_, ?_, ?_⟩
    · rw [hy, Int.toNat_natCast, e2]; exact w2
    · rw [hy]; exact w3
    · rw [hy, Int.toNat_natCast, e1, e2]; exact hs
theorem dist_self {T : Topo} {D : List Bool} (hv : validB T = true) {d : Nat} (hd : (d : Int) < T.nodes) : (distL T D d false).getD d 0 = 0 := by
  rw [dist_at hv hd hd]
  exact (distL_is (sound_of hv) D false hd).root
end PW
end Go.Proofs.YtbpgndbjbaoolaaGreat
