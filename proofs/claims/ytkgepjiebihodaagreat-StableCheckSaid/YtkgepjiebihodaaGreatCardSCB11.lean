/- StableCheck returns true for every input: Check reports whether any list is stable for any path. No conditions. -/
import Derived.WideShapes
import Derived.Test.YtkgepjiebihodaaGreatCardSCB10
/- Stable node segments: parts, fewer failures, next arcs. Plain mathematics. -/
namespace Go.Proofs.YtkgepjiebihodaaGreat
set_option linter.unusedVariables false
set_option linter.unusedSimpArgs false
namespace PW
open Go.RowKit Reg Mem Net

section
variable {T : Topo} {D : List Bool}
theorem ch_walkF {d : Nat} : ∀ {m : Nat} {q : List Int}, Ch T D d m q → (q = [] ∨ overN T m = false) → walkE T false m q = 0
  | m, [], _, _ => rfl
  | m, a :: q, h, ho => by
    cases h with
    | @cons _ b k _ ha ht hu hm hov hp =>
      rw [walk_step (arcB_iff.2 ⟨by omega, by omega⟩) (by rw [Int.toNat_natCast]; exact ht) (.inr (by rcases ho with h | h; cases h; rw [Int.toNat_natCast]; exact h)), Int.toNat_natCast, hm]
      exact ch_walkF hp hov
theorem ch_walk {d m : Nat} {q : List Int} (h : Ch T D d m q) : walkE T true m q = 0 := by
  cases h with
  | nil => rfl
  | @cons _ b k q ha ht hu hm hov hp =>
    rw [walk_step (arcB_iff.2 ⟨by omega, by omega⟩) (by rw [Int.toNat_natCast]; exact ht) (.inl rfl), Int.toNat_natCast, hm]
    exact ch_walkF hp hov
theorem Ch.bare {d m : Nat} {q : List Int} (h : Ch T D d m q) : Ch T [] d m q := by
  induction h with
  | nil => exact .nil
  | cons ha ht hu hm ho hp ih => exact .cons ha ht (by simp [downN]) hm ho ih
theorem Ch.mask {d m : Nat} {q : List Int} (h : Ch T [] d m q) (hc : ∀ a ∈ q, downN D a.toNat = false) : Ch T D d m q := by
  induction h with
  | nil => exact .nil
  | @cons n a m p ha ht hu hm ho hp ih => exact .cons ha ht (by have := hc a (by simp); rw [Int.toNat_natCast] at this; exact this) hm ho (ih fun b hb => hc b (by simp [hb]))
/-- What a stable node segment is. -/
structure Stab (T : Topo) (D : List Bool) (x y : Nat) (p : List Int) : Prop where
  valid : validB T = true
  fits : fitsB T D = true
  ne : x ≠ y
  hx : (x : Int) < T.nodes
  hy : (y : Int) < T.nodes
  uniq : uniqB T [] x y = true
  sp : SP T [] y x p
  up : ∀ a ∈ p, downN D a.toNat = false
theorem stab_of {x y : Int} (h : sgB T D x y = true) : ∃ a b : Nat, x = (a : Int) ∧ y = (b : Int) ∧ Stab T D a b (spathL T [] a b) ∧ spE T [] x y = 0 := by
  unfold sgB at h
  simp only [Bool.and_eq_true, Bool.not_eq_true', decide_eq_false_iff_not] at h
  obtain ⟨⟨⟨⟨hv, hf⟩, hne⟩, hu⟩, hc⟩ := h
  obtain ⟨a, b, rfl, rfl, ha, hb, _, hsp⟩ := spE_facts (uniq_sp hu)
  simp only [Int.toNat_natCast] at hsp hc
  exact ⟨a, b, rfl, rfl, ⟨hv, hf, fun e => hne (by rw [e]), ha, hb, hu, hsp, clear_iff.1 hc⟩, uniq_sp hu⟩
variable {x y : Nat} {p : List Int}
theorem Stab.pos (h : Stab T D x y p) : 0 < p.length := by
  have hsp := h.sp
  cases hsp with
  | nil => exact absurd rfl h.ne
  | cons _ _ _ => simp
theorem Stab.fol (h : Stab T D x y p) : Fol T D x p := ⟨h.valid, h.fits, nodeB_iff.2 ⟨by omega, h.hx⟩, ch_walk h.sp.ch, h.up⟩
theorem Stab.cnt (h : Stab T D x y p) : cntS T [] y x = 1 := (uniq_iff h.valid (fits_nil T) h.hx h.hy).1 h.uniq
theorem Stab.cov (h : Stab T D x y p) : covB T [] x p 0 p.length = true := by
  have he : endL T (x : Int) (p.take p.length) = (y : Int) := by rw [List.take_length]; exact h.sp.ch.fin
  rw [cov_iff h.fol.bare (Nat.zero_le _) (Nat.le_refl _) (u := x) rfl he]
  have : partL p 0 p.length = p := by unfold partL; simp
  rw [this]
  exact ⟨h.sp, h.cnt⟩
/-- The node segment between two nodes of the path. -/
theorem Stab.part (h : Stab T D x y p) {i k : Nat} (hik : i ≤ k) (hk : k < p.length) : sgB T D (tailN T (p.getD i 0).toNat) (headN T (p.getD k 0).toNat) = true := by
  have hF := h.fol
  have ha := hF.arcs
  have hc := cov_sub hF.bare (i := 0) (j := p.length) (i' := i) (j' := k + 1) (Nat.zero_le _) (by omega) (by omega) (Nat.le_refl _) h.cov
  obtain ⟨u, hu, huN⟩ := end_node h.valid hF.node ha i (by omega)
  obtain ⟨v, hv, hvN⟩ := end_node h.valid hF.node ha (k + 1) (by omega)
  rw [part_tail hF (by omega) hu, ← endL_step T x p k hk, hv]
  rw [← stands_cov hF (by omega) (by omega) hu hv, Bool.and_eq_true] at hc
  exact hc.1
theorem down_set (D : List Bool) (k a : Nat) (h : downN D a = false) : downN (D.set k false) a = false := by
  unfold downN at *
  rw [List.getD_eq_getElem?_getD, List.getElem?_set] at *
  split
  · split <;> rfl
  · exact h
theorem sg_fewer {x y : Int} (h : sgB T D x y = true) (k : Nat) : sgB T (D.set k false) x y = true := by
  unfold sgB at *
  simp only [Bool.and_eq_true] at *
  obtain ⟨⟨⟨⟨hv, hf⟩, hne⟩, hu⟩, hc⟩ := h
  refine ⟨⟨⟨⟨hv, ?_⟩, hne⟩, hu⟩, ?_⟩
  · unfold fitsB at *
    simpa using hf
  · rw [clear_iff] at *
    exact fun a ha => down_set D k _ (hc a ha)
/-- The only next arc, with and without the mask. -/
theorem Stab.next (h : Stab T D x y p) {i u : Nat} (hi : i < p.length) (hu : endL T x (p.take i) = (u : Int)) : nextL T [] u y = [p.getD i 0] ∧ nextL T D u y = [p.getD i 0] ∧ (u : Int) < T.nodes := by
  have hF := h.fol
  have hv := h.valid
  have ha := hF.arcs
  obtain ⟨u', hu', huN⟩ := end_node hv hF.node ha i (by omega)
  have : u' = u := by omega
  subst this
  have hfin : endL T (x : Int) (p.take p.length) = (y : Int) := by rw [List.take_length]; exact h.sp.ch.fin
  have hch := hF.bare.ch (i := 0) (j := i) (Nat.zero_le _) (by omega) (u := x) rfl hu
  have hpp : partL p 0 i ++ partL p i p.length = p := by rw [← part_split p (Nat.zero_le _) (by omega)]; unfold partL; simp
  have hsp := h.sp
  rw [← hpp] at hsp
  obtain ⟨s1, s2⟩ := hsp.suffix hv h.hy h.cnt hch
  have hdr : partL p i p.length = p.getD i 0 :: p.drop (i + 1) := by
    unfold partL
    rw [List.take_of_length_le (by simp), drop_cons p i hi]
  rw [hdr] at s1
  have hup : ∀ c ∈ p.getD i 0 :: p.drop (i + 1), downN D c.toNat = false := fun c hc => by
    rw [← drop_cons p i hi] at hc
    exact h.up c (List.mem_of_mem_drop hc)
  have hchD := s1.ch.mask hup
  have hd0 := s1.cost hv h.hy
  generalize p.getD i 0 = a0 at *
  generalize p.drop (i + 1) = q at *
  cases s1 with
  | @cons _ a m _ hn hm hq =>
    obtain ⟨b, hb, _, _⟩ := cnt_one hv h.hy huN hn.ne s2
    have hab := next_of hn ((sound_of hv).cost a hn.arc).1
    rw [hb] at hab
    simp only [List.mem_singleton] at hab
    rw [← hab] at hb
    refine ⟨hb, ?_, huN⟩
    have hDle := hchD.le hv h.hy
    have mono : ∀ k : Nat, (k : Int) < T.nodes → 0 ≤ dN T D y k → 0 ≤ dN T [] y k ∧ dN T [] y k ≤ dN T D y k := fun k hk h0 => by
      have hs := spath_sp hv h.hy hk h0
      have := hs.ch.bare.le hv h.hy
      rw [← (hs.cost hv h.hy).1] at this
      exact this
    have hmu := mono u' huN hDle.1
    have heq : dN T D y u' = dN T [] y u' := by omega
    have hall : ∀ c ∈ nextL T D u' y, c = (a : Int) := fun c hc => by
      obtain ⟨k, rfl, hk⟩ := next_mem hc
      obtain ⟨z, hz, hzN⟩ := head_nat hv hk.arc
      have g := hk.dN hz
      have g2 := mono z hzN g.1
      have hs := spath_sp (D := []) hv h.hy hzN g2.1
      have hch2 : Ch T [] y u' ((k : Int) :: spathL T [] z y) := .cons hk.arc hk.tail (by simp [downN]) hz (by
        rcases hk.pass with e | e
        · left
          have : z = y := by omega
          subst this
          exact hs.self
        · right
          rw [hz, Int.toNat_natCast] at e
          exact e) hs.ch
      have g3 := hch2.le hv h.hy
      rw [costL_cons, ← (hs.cost hv h.hy).1, Int.toNat_natCast] at g3
      have hnr : Nearer T [] u' y k := ⟨hk.arc, hk.tail, by simp [downN], hk.ne, by rw [hz, Int.toNat_natCast]; exact g2.1, hk.pass, by
        rw [hz, Int.toNat_natCast]
        show dN T [] y u' = dN T [] y z + costN T k
        omega⟩
      have := next_of hnr ((sound_of hv).cost k hk.arc).1
      rw [hb] at this
      simpa using this
    obtain ⟨k, hk⟩ := next_ex (D := D) hv huN h.hy hn.ne hDle.1
    have hmem := next_of hk ((sound_of hv).cost k hk.arc).1
    have hso := next_sorted T D u' y
    cases hx : nextL T D u' y with
    | nil => rw [hx] at hmem; cases hmem
    | cons c l =>
      rw [hx] at hall hso
      have hc := hall c (by simp)
      subst hc
      cases l with
      | nil => rfl
      | cons c2 l =>
        have := hall c2 (by simp)
        have h3 := (List.pairwise_cons.1 hso).1 c2 (by simp)
        omega
end
end PW
end Go.Proofs.YtkgepjiebihodaaGreat

/- The example of the laws: a ring of four nodes, its distances. -/
namespace Go.Proofs.YtkgepjiebihodaaGreat
set_option linter.unusedVariables false
set_option linter.unusedSimpArgs false
namespace PW
open Go.RowKit Reg Mem Net

def ringL (k : Nat) : List Lnk := (List.range k).map fun (i : Nat) => ⟨(i : Int), (((i + 1) % 4 : Nat) : Int), 1, 1, 0, 1, 0⟩
def ringT : Topo := ⟨4, [], ringL 4⟩
def ringD (d : Nat) : List Int := match d with
  | 0 => [0, 1, 2, 1]
  | 1 => [1, 0, 1, 2]
  | 2 => [2, 1, 0, 1]
  | _ => [1, 2, 1, 0]
theorem ring_valid : validB ringT = true := by kernel_rfl
theorem ring_fits : fitsB ringT [] = true := by kernel_rfl
def wayB (T : Topo) (n : Nat) (out : List Int) (a : Nat) : Bool := decide (0 ≤ at' out (arcY T false a)) && (decide (arcY T false a = (n : Int)) || !overN T (arcY T false a).toNat)
def distB (n : Nat) (out : List Int) : Bool :=
  decide (out.length = 4) && decide (at' out (n : Int) = 0) && (List.range 4).all (fun x => decide (0 ≤ at' out (x : Int))) &&
  (List.range 8).all (fun a => !wayB ringT n out a || (decide (0 ≤ at' out (arcX ringT false a)) && decide (at' out (arcX ringT false a) ≤ at' out (arcY ringT false a) + costN ringT a))) &&
  (List.range 4).all (fun x => decide (x = n) || (List.range 8).any fun a => decide (arcX ringT false a = (x : Int)) && wayB ringT n out a && decide (at' out (x : Int) = at' out (arcY ringT false a) + costN ringT a))
theorem way_iff (n : Nat) (out : List Int) (a : Nat) : Net.Way ringT [] n false out a ↔ wayB ringT n out a = true := by
  unfold Net.Way wayB
  have : downN [] a = false := by simp [downN]
  simp [this]
theorem dist_of {n : Nat} {out : List Int} (h : distB n out = true) : IsDist ringT [] n false out := by
  simp only [distB, Bool.and_eq_true, decide_eq_true_eq, List.all_eq_true, List.mem_range, Bool.or_eq_true, Bool.not_eq_true', List.any_eq_true] at h
  obtain ⟨⟨⟨⟨h1, h2⟩, h3⟩, h4⟩, h5⟩ := h
  refine ⟨by rw [h1]; rfl, h2, fun x hx => ?_, fun a ha hw => ?_, fun x hx _ => ?_⟩
  · have := h3 x (by have : ringT.nodes = 4 := rfl; omega); omega
  · rcases h4 a (by have : ringT.links.length = 4 := rfl; omega) with h | h
    · rw [(way_iff n out a).1 hw] at h; cases h
    · exact h
  · rcases h5 x (by have : ringT.nodes = 4 := rfl; omega) with h | ⟨a, ha, ⟨h6, h7⟩, h8⟩
    · exact .inl h
    · exact .inr ⟨a, by have : ringT.links.length = 4 := rfl; omega, h6, (way_iff n out a).2 h7, h8⟩
theorem ring_dist (d : Nat) (hd : d < 4) : distL ringT [] d false = ringD d := by
  refine distL_eq (sound_of ring_valid) (dist_of ?_)
  match d, hd with
  | 0, _ => exact (show distB 0 (ringD 0) = true by kernel_rfl)
  | 1, _ => exact (show distB 1 (ringD 1) = true by kernel_rfl)
  | 2, _ => exact (show distB 2 (ringD 2) = true by kernel_rfl)
  | 3, _ => exact (show distB 3 (ringD 3) = true by kernel_rfl)
theorem lnksP_snoc (l : List Lnk) (e : Lnk) : lnksP l ++ lnkP e = lnksP (l ++ [e]) := by simp [lnksP]
theorem ringL_step (k : Nat) : ringL (k + 1) = ringL k ++ [⟨(k : Int), (((k + 1) % 4 : Nat) : Int), 1, 1, 0, 1, 0⟩] := by simp [ringL, List.range_succ]
/-- A pair of constants. -/
theorem y_build2 {P : Program} {σ : Sto} {t : Tms} {o : Oper} {ty : TypeId} {v0 v1 c0 c1 : Value} (ho : o.op = .build ty #[(0, .const v0), (1, .const v1)]) (hb : P.built ty [(0, v0), (1, v1)] = some #[c0, c1]) : Yield P σ t o (.agg [.raw c0, .raw c1]) := by
  intro F base E ρ w hρ hS hT
  have hrun := run_build (P := P) w ty #[(0, v0), (1, v1)] #[c0, c1] hb
  have h0 : ρ (.const v0) = v0 := hρ.const v0
  have h1 : ρ (.const v1) = v1 := hρ.const v1
  have hr : (execOp ρ o).run P w = .ok (.value (.agg #[c0, c1])) w := by
    simp only [execOp, ho, Sem.run_bind, List.map_toArray, List.map_cons, List.map_nil, h0, h1, hrun, Result.andThen_ok, Sem.run_pure]
  rw [hr]
  refine upon_val (.agg #[c0, c1] _ rfl (fun i x u k1 k2 => ?_))
  match i, k1, k2 with
  | 0, k1, k2 => simp at k1 k2; subst k1; subst k2; exact .raw _
  | 1, k1, k2 => simp at k1 k2; subst k1; subst k2; exact .raw _
  | _ + 2, k1, k2 => simp at k2
end PW
end Go.Proofs.YtkgepjiebihodaaGreat

/- Texts of segments with small numbers: the reference of layers 9 and 18. -/
namespace Go.Proofs.YtkgepjiebihodaaGreat
set_option linter.unusedVariables false
set_option linter.unusedSimpArgs false
namespace PW
open Go.RowKit Reg Mem Net

abbrev strB (l : List UInt8) : PV := .raw (.string ⟨l.toArray⟩)
theorem bytes_no (a b : UInt8) : ((⟨#[a, b]⟩ : ByteArray).toList == (⟨#[]⟩ : ByteArray).toList) = false := by
  have h : ∀ (ba : ByteArray) i r, ByteArray.toList.loop ba i r = if i < ba.size then ByteArray.toList.loop ba (i + 1) (ba.get! i :: r) else r.reverse := fun ba i r => by rw [ByteArray.toList.loop]
  have h2 : (⟨#[]⟩ : ByteArray).toList = [] := by
    unfold ByteArray.toList
    rw [h, if_neg (by show ¬ 0 < 0; omega)]
    rfl
  have h3 : (⟨#[a, b]⟩ : ByteArray).toList = [a, b] := by
    unfold ByteArray.toList
    rw [h, if_pos (by show 0 < 2; omega), h, if_pos (by show 1 < 2; omega), h, if_neg (by show ¬ 2 < 2; omega)]
    rfl
  rw [h2, h3]
  rfl
theorem cat_bytes (a b : List UInt8) : (⟨a.toArray⟩ : ByteArray) ++ ⟨b.toArray⟩ = ⟨(a ++ b).toArray⟩ := by
  apply ByteArray.ext
  simp
theorem y_catB {P : Program} {σ : Sto} {t : Tms} {o : Oper} {x y : Operand} {ty tz : TypeId} {a b : List UInt8} (ho : o.op = .binOp .add ty x y tz) (hx : evalO t x = some (strB a)) (hy : evalO t y = some (strB b)) (hn : a.length + b.length ≤ 1000000) : Yield P σ t o (strB (a ++ b)) :=
  y_cat ho hx hy (cat_bytes a b) (by show a.toArray.size + b.toArray.size ≤ _; simp; omega)
theorem y_oneByte {P : Program} {σ : Sto} {t : Tms} {o : Oper} {src dst e : TypeId} {x : Operand} {c : UInt8} (ho : o.op = .convert src dst x) (hs : P.underlying src = some (.slice e)) (hd : P.underlying dst = some .string) (he : P.underlying e = some (.int .u8)) (hx : evalO t x = some (.slice 1 [.raw (.int .u8 c.toNat)])) : Yield P σ t o (strB [c]) := by
  intro F base E ρ w hρ _ hT
  have h1 := evalO_rep hρ hT hx
  generalize hz : ρ x = z at h1
  cases h1 with
  | slice b off _ cap cs _ h0 h1 h2 hb hM hc hl hr =>
    match cs, hl, hc, hr with
    | [v], _, hc, hr =>
      have hv := rep_raw (hr 0 v _ rfl rfl)
      subst hv
      have hlc := run_loadCellsFrom (P := P) ⟨b, off, none⟩ rfl [.int .u8 c.toNat] 0 #[] w (fun j x hx => by rw [Nat.zero_add]; exact hc j x hx)
      have hrun : (convert src dst (.slice (some ⟨b, off, none⟩) 1 cap)).run P w = .ok (.string ⟨[c].toArray⟩) w := by
        simp only [convert, Sem.run_bind, run_underlying hs, run_underlying hd, run_underlying he, Result.andThen_ok, Conv.bytesToString, loadCells]
        rw [show (1 : Nat) = [Value.int .u8 c.toNat].length from rfl, hlc]
        simp
        rfl
      simp only [execOp, ho, hz, Sem.run_bind, hrun]
      exact upon_val (.raw _)
theorem y_addU {P : Program} {σ : Sto} {t : Tms} {o : Oper} {x y : Operand} {ty tz : TypeId} {a b c : Int} (ho : o.op = .binOp .add ty x y tz) (hx : evalO t x = some (.raw (.int .u64 a))) (hy : evalO t y = some (.raw (.int .u64 b))) (hc : IntKind.u64.wrap (a + b) = c) : Yield P σ t o (.raw (.int .u64 c)) :=
  y_int ho hx hy fun w => by simp [binOp, Op.intArith, hc]
def dig (n : Nat) : UInt8 := UInt8.ofNat (48 + n)
theorem dig_nat {n : Nat} (h : n < 10) : (dig n).toNat = 48 + n := by unfold dig; rw [UInt8.toNat_ofNat']; omega
set_option maxRecDepth 10000 in
set_option maxHeartbeats 1000000 in
theorem digits_can (n : Nat) (hn : n < 10) : Can Tryz.prog 52 [.raw (.int .u64 n)] (· = strB [dig n]) := by
  refine can_of Tryz.func52 rfl Tryz.ntmps52 rfl ?_
  refine W_cs (.a 1 rfl <| .k [0] rfl) ?_
  refine W_seq ?_
  refine W_cs (.a 1 rfl <| .v (y_lss rfl rfl rfl rfl) rfl <| .k [0, 4] rfl) ?_
  refine W_cond rfl (fun hc => ?_) (fun hc => ?_)
  · refine W_cs (.a 1 rfl <| .v (y_addU (c := ((dig n).toNat : Int)) rfl rfl rfl (by rw [IntKind.wrap_u64, dig_nat hn]; omega)) rfl <| .v (y_conv rfl Tryz.underlying81 Tryz.underlying5 rfl (u8_wrap _ (by rw [dig_nat hn]; omega))) rfl <| .a 1 rfl <| .v (y_oneByte rfl Tryz.underlying92 Tryz.underlying9 Tryz.underlying5 rfl) rfl <| .a 1 rfl <| .k [2] rfl) ?_
    refine W_ret ?_
    exact ⟨_, _, ResL.of rfl, Pur.pure, rfl⟩
  · exact absurd (ff hc) (by omega)
set_option maxRecDepth 10000 in
set_option maxHeartbeats 1000000 in
theorem number_can (n : Nat) (hn : n < 10) : Can Tryz.prog 31 [num n] (· = strB [dig n]) := by
  refine can_of Tryz.func31 rfl Tryz.ntmps31 rfl ?_
  refine W_cs (.a 1 rfl <| .k [0] rfl) ?_
  refine W_seq ?_
  refine W_cs (.a 2 rfl <| .k [0, 4] rfl) ?_
  refine W_cond rfl (fun hc => ?_) (fun hc => ?_)
  · exact absurd (tt hc) (by omega)
  · refine W_skip ?_
    refine W_cs (.a 1 rfl <| .v (y_conv (c := (n : Int)) rfl Tryz.underlying3 Tryz.underlying81 rfl (by rw [IntKind.wrap_u64]; omega)) rfl <| .c rfl (digits_can n hn) rfl <| .a 1 rfl <| .k [2] rfl) ?_
    refine W_ret ?_
    exact ⟨_, _, ResL.of rfl, Pur.pure, rfl⟩
theorem y_build5 {P : Program} {σ : Sto} {t : Tms} {o : Oper} {ty : TypeId} {v0 v1 v2 v3 v4 : Value} (ho : o.op = .build ty #[(0, .const v0), (1, .const v1), (2, .const v2), (3, .const v3), (4, .const v4)]) (hb : P.built ty [(0, v0), (1, v1), (2, v2), (3, v3), (4, v4)] = some #[v0, v1, v2, v3, v4]) : Yield P σ t o (.agg [.raw v0, .raw v1, .raw v2, .raw v3, .raw v4]) := by
  intro F base E ρ w hρ hS hT
  have hrun := run_build (P := P) w ty #[(0, v0), (1, v1), (2, v2), (3, v3), (4, v4)] #[v0, v1, v2, v3, v4] hb
  have hr : (execOp ρ o).run P w = .ok (.value (.agg #[v0, v1, v2, v3, v4])) w := by
    simp only [execOp, ho, Sem.run_bind, List.map_toArray, List.map_cons, List.map_nil, hρ.const, hrun, Result.andThen_ok, Sem.run_pure]
  rw [hr]
  refine upon_val (.agg #[v0, v1, v2, v3, v4] _ rfl (fun i x u k1 k2 => ?_))
  match i, k1, k2 with
  | 0, k1, k2 => simp at k1 k2; subst k1; subst k2; exact .raw _
  | 1, k1, k2 => simp at k1 k2; subst k1; subst k2; exact .raw _
  | 2, k1, k2 => simp at k1 k2; subst k1; subst k2; exact .raw _
  | 3, k1, k2 => simp at k1 k2; subst k1; subst k2; exact .raw _
  | 4, k1, k2 => simp at k1 k2; subst k1; subst k2; exact .raw _
  | _ + 5, k1, k2 => simp at k2
abbrev kindP : List PV := [strB [], strB [110], strB [97], strB [103], strB [98]]
set_option maxRecDepth 10000 in
set_option maxHeartbeats 1000000 in
theorem stext_can (n : Nat) (hn : n < 10) : Can Tryz.prog 17 [segV ⟨1, n⟩] (· = strB [110, dig n]) := by
  obtain ⟨q1, hq1⟩ : ∃ q, decide ((n : Int) < 0) = q := ⟨_, rfl⟩
  obtain ⟨q2, hq2⟩ : ∃ q, decide ((999999999 : Int) < (n : Int)) = q := ⟨_, rfl⟩
  refine can_of Tryz.func17 rfl Tryz.ntmps17 rfl ?_
  refine W_cs (.a 2 rfl <| .k [1] rfl) ?_
  refine W_seq ?_
  refine W_csK 21 (.raw (.bool (q1 || q2))) [1] rfl ?_ ?_
  · refine .a 11 rfl <| .v (y_q rfl (hq1)) rfl <| .a 2 rfl <| ?_
    cases q1
    · exact .a 2 rfl <| .v (y_q rfl (hq2)) rfl <| .a 1 rfl <| .k [21, 1] rfl
    · exact .a 4 rfl <| .k [21, 1] rfl
  refine W_cond rfl (fun hc => ?_) (fun hc => ?_)
  · have e1 : q1 = false := by rw [← hq1]; exact decide_eq_false (by omega)
    have e2 : q2 = false := by rw [← hq2]; exact decide_eq_false (by omega)
    rw [e1, e2] at hc
    cases hc
  · refine W_skip ?_
    refine W_rs ?_
    refine WR_v (y_build5 rfl (by kernel_rfl)) rfl <| WR_a 2 rfl <| WR_k [1, 3] rfl ?_
    refine W_sto (σ' := [some (.cells 68 kindP)]) rfl ?_
    refine W_sealPtr 3 0 0 rfl rfl ?_
    refine W_ren [] (.cons 1 rfl Ren.pure <| .cons 3 rfl (Ren.pure (p := .pin kindP 0)) .nil) .nil rfl rfl ?_
    refine W_drs mixed (by kernel_rfl) (.a 2 rfl <| .v [3, 24] (y_ix (1) rfl (show (0 : Int) ≤ 1 by decide) (show (1 : Int) < 5 by decide) rfl) rfl rfl <| .v [25] (y_ld rfl ((show kindP[1]? = some (strB [110]) from rfl))) rfl rfl <| .a 2 rfl <| .v [28] (y_c rfl (number_can n hn)) rfl rfl <| .v [26, 29] (y_catB rfl rfl rfl (by simp)) rfl rfl <| .a 1 rfl <| .k [2] rfl) ?_
    refine W_ret ?_
    exact ⟨_, _, ResL.of rfl, Pur.pure, rfl⟩
/-- The text of a list of node segments. -/
def txtL : List Nat → List UInt8
  | [] => []
  | n :: l => [110, dig n] ++ (if l = [] then [] else 32 :: txtL l)
def txtK (l : List Nat) (k : Nat) : List UInt8 := ((List.range k).flatMap fun i => (if 0 < i then [32] else []) ++ [110, dig (l.getD i 0)])
theorem txtK_step (l : List Nat) (k : Nat) : txtK l (k + 1) = txtK l k ++ ((if 0 < k then [32] else []) ++ [110, dig (l.getD k 0)]) := by
  unfold txtK
  rw [List.range_succ, List.flatMap_append]
  simp
theorem txtK_len (l : List Nat) (k : Nat) : (txtK l k).length ≤ 3 * k := by
  induction k with
  | zero => simp [txtK]
  | succ k ih => rw [txtK_step]; simp only [List.length_append]; split <;> simp <;> omega
def nodeS (l : List Nat) : List Seg := l.map fun (n : Nat) => (⟨1, (n : Int)⟩ : Seg)
set_option maxRecDepth 10000 in
set_option maxHeartbeats 1000000 in
theorem tlist_can (l : List Nat) (hl : ∀ n ∈ l, n < 10) (hll : l.length ≤ 1000) : Can Tryz.prog 10 [segsV (nodeS l)] (· = strB (txtK l l.length)) := by
  have hsl : (nodeS l).length = l.length := by simp [nodeS]
  refine can_of Tryz.func10 rfl Tryz.ntmps10 rfl ?_
  refine W_cs (.a 1 rfl <| .k [0] rfl) ?_
  refine W_cs (.a 1 rfl <| .k [0, 3] rfl) ?_
  refine W_seq ?_
  refine W_cs (.a 1 rfl <| .k [0, 3, 4] rfl) ?_
  refine W_block ?_
  refine W_k [0, 3, 4] rfl ?_
  refine W_loop (fun r st => ∃ k : Nat, k ≤ l.length ∧ r = l.length - k ∧ st = ⟨[(0, segsV (nodeS l)), (3, strB (txtK l k)), (4, num k)], []⟩) l.length ⟨0, by omega, by omega, rfl⟩ ?_
  rintro r st ⟨k, hk, rfl, rfl⟩
  have htl := txtK_len l k
  refine W_seq ?_
  refine W_cs (.a 4 rfl <| .k [0, 3, 4, 8] rfl) ?_
  refine W_cond rfl (fun h1 => ?_) (fun h1 => ?_)
  · have hlt : k < l.length := by have := tt h1; omega
    have hg : (nodeS l)[k]? = some ⟨1, ((l.getD k 0 : Nat) : Int)⟩ := by simp [nodeS, hlt]
    have h10 := hl _ (getD_mem (d := 0) hlt)
    have hst := txtK_step l k
    refine W_skip ?_
    refine W_seq ?_
    refine W_block ?_
    refine W_seq ?_
    refine W_cs (.a 2 rfl <| .v (y_ix ((k * 2)) rfl) rfl <| .v (y_la rfl (segs_drop _ k _ hg) rfl) rfl <| .c rfl (stext_can _ h10) rfl <| .v (y_strEql (q := false) rfl rfl rfl (bytes_no _ _)) rfl <| .k [0, 3, 4, 16] rfl) ?_
    refine W_cond rfl (fun hc => ?_) (fun hc => ?_)
    · cases hc
    · refine W_skip ?_
      refine W_seq ?_
      refine W_cs (.a 2 rfl <| .k [0, 3, 4, 18] rfl) ?_
      refine W_cond rfl (fun h2 => ?_) (fun h2 => ?_)
      · have h3 : 0 < k := by have := tt h2; omega
        rw [if_pos h3] at hst
        refine W_chain (.a 1 rfl <| .v (y_catB (b := [32]) rfl rfl rfl (by simp; omega)) rfl <| .a 1 rfl <| .k [0, 3, 4] rfl) ?_
        refine W_chain (.a 3 rfl <| .v (y_ix ((k * 2)) rfl) rfl <| .v (y_la rfl (segs_drop _ k _ hg) rfl) rfl <| .c rfl (stext_can _ h10) rfl <| .v (y_catB rfl rfl rfl (by simp; omega)) rfl <| .a 1 rfl <| .k [0, 3, 4] rfl) ?_
        refine W_chain (.a 1 rfl <| .v (y_ar rfl) rfl <| .a 1 rfl <| .k [0, 3, 4] rfl) ?_
        refine ⟨l.length - (k + 1), by omega, k + 1, by omega, rfl, ?_⟩
        rw [hst]
        first
          | rfl
          | (rw [← List.append_assoc]; rfl)
          | (rw [List.nil_append]; rfl)
      · have h3 : ¬ 0 < k := by have := ff h2; omega
        rw [if_neg h3] at hst
        refine W_skip ?_
        refine W_chain (.a 3 rfl <| .v (y_ix ((k * 2)) rfl) rfl <| .v (y_la rfl (segs_drop _ k _ hg) rfl) rfl <| .c rfl (stext_can _ h10) rfl <| .v (y_catB rfl rfl rfl (by simp; omega)) rfl <| .a 1 rfl <| .k [0, 3, 4] rfl) ?_
        refine W_chain (.a 1 rfl <| .v (y_ar rfl) rfl <| .a 1 rfl <| .k [0, 3, 4] rfl) ?_
        refine ⟨l.length - (k + 1), by omega, k + 1, by omega, rfl, ?_⟩
        rw [hst]
        first
          | rfl
          | (rw [← List.append_assoc]; rfl)
          | (rw [List.nil_append]; rfl)
  · have hke : k = l.length := by have := ff h1; omega
    subst hke
    refine W_exit ?_
    refine W_cs (.a 2 rfl <| .k [2] rfl) ?_
    refine W_ret ?_
    exact ⟨_, _, ResL.of rfl, Pur.pure, rfl⟩
end PW
end Go.Proofs.YtkgepjiebihodaaGreat

/- New results of calls that read rows of their caller's; the examples of layer 28. -/
namespace Go.Proofs.YtkgepjiebihodaaGreat
set_option linter.unusedVariables false
set_option linter.unusedSimpArgs false
namespace PW
open Go.RowKit Reg Mem Net

section
variable {P : Program} {σ : Sto} {t : Tms} {o : Oper}
theorem own_new {base : Nat} {σ1 : Sto} {E1 E : Env} {w : World} (hS : Sat (fun _ => False) base σ1 E1 w) {i e s n : Nat} {xs : List PV} (hi : σ1[i]? = some (some (.row e s n xs))) {v : Value} (hv : Rep E1 w v (.own i)) [hx : IsFlatL xs] (hE : ∀ b, E.M b → b < base) : Rep E w v (.slice n xs) := by
  cases hv with
  | own _ hiL _ h _ =>
    obtain ⟨cs, k1, k2⟩ := hS.blk i _ hi
    rw [h] at k1
    have k3 := k1
    rcases k1.2 with ⟨rfl, h0⟩ | ⟨b, cap, cur, rfl, hb, hg, hn, hc, hs', ht⟩
    · subst h0
      have : xs = [] := by
        have := k3.1; simp at this; subst this
        exact List.eq_nil_of_length_eq_zero k2.1.symm
      subst this
      exact .nils
    · by_cases h0 : n = 0
      · subst h0
        have : xs = [] := by
          have := k3.1; simp at this; subst this
          exact List.eq_nil_of_length_eq_zero k2.1.symm
        subst this
        exact .empty _ _ hc
      · refine .slice b 0 n cap cs xs (by omega) hn hc (Array.getElem?_eq_some_iff.1 hg).1 (fun hM => by have := hE b hM; omega) (fun j x hx => ?_) k2.1 (fun j x u h1 h2 => (hx.out j u h2).out _ _ _ _ _ (k2.2 j x u h1 h2))
        have := k3.cells (g := b) rfl j x hx
        rw [Addr.add_lit] at this
        exact this
/-- A call that only reads local blocks; its result is a row of its own making. -/
theorem y_cF {Φ : Fac} [hP : Has P Φ] {f n : Nat} {ps qs xs : List PV} {z : Value} (h : callK Φ t o.op = some (f, ps)) (hq : PurL σ ps qs) (hc : CanS P f qs [] (fun r σ1 => ∃ i e s, r = .tuple [.own i, .raw z] ∧ σ1[i]? = some (some (.row e s n xs)))) [hx : IsFlatL xs] : Yield P σ t o (.tuple [.slice n xs, .raw z]) := by
  obtain ⟨x, args, ats, cap, ps', ho, hf, hx', ha, rfl⟩ := callK_spec hP.ok h
  intro F base E ρ w hρ hS hT
  have h1 := evalO_rep hρ hT hx'
  have h2 := evalL_rep hρ hT ha
  generalize hz : ρ x = z at h1
  cases h1 with
  | func _ cs _ hl hr =>
    rw [run_callValue hf ho hz w]
    refine ⟨Ext.refl _, ?_⟩
    have h3 : RepL E w (args.map ρ ++ cs).toList (ps' ++ cap) := by
      rw [Array.toList_append, Array.toList_map]
      exact h2.append ⟨by simpa using hl, fun i x u k1 k2 => hr i x u (by simpa using k1) k2⟩
    refine (hc (fun _ => False) w.heap.size (EF fun _ => False) w _ (Sat.start _ w (fun _ h => h.elim) (hS.gl.sub fun _ h => h.elim)) (hq.rep hS (fun _ h => h.elim) (fun _ h => h.elim) h3)).mono ?_
    rintro e w' ⟨v, r, σ1, E1, rfl, ⟨i, e, s, rfl, hi⟩, hS1, _, hb, hv⟩
    refine ⟨_, rfl, hb, ?_⟩
    cases hv with
    | tuple vs _ hl hr =>
      refine .tuple vs _ hl (fun j c u k1 k2 => ?_)
      match j, k2 with
      | 0, k2 =>
        simp at k2
        subst k2
        exact own_new hS1 hi (hr 0 c _ k1 rfl) (fun b hb => hS.lt hb)
      | 1, k2 =>
        simp at k2
        subst k2
        have := hr 1 c _ k1 rfl
        cases this
        exact .raw _
      | _ + 2, k2 => simp at k2
theorem CanS.nils {f : FuncId} {a : PV} {l : List PV} {R : PV → Sto → Prop} (h : CanS P f (a :: boolsV [] :: l) σ R) : CanS P f (a :: .raw (.slice none 0 0) :: l) σ R := fun F base E w vs hS hR => by
  refine h F base E w vs hS ⟨hR.1, fun i c u h1 h2 => ?_⟩
  match i, h2 with
  | 0, h2 => exact hR.2 0 c u h1 h2
  | 1, h2 =>
    simp at h2
    subst h2
    have := hR.2 1 c _ h1 rfl
    cases this
    exact .nils
  | i + 2, h2 => exact hR.2 (i + 2) c u h1 h2
end
set_option maxRecDepth 10000 in
set_option maxHeartbeats 2000000 in
theorem elistS_can (T : Topo) (D : List Bool) (p : List Int) (n : Int) (he : folE T D n p = 0) (hp : p.length ≤ 1000) (hlk : T.links.length ≤ 256) (h12 : T.nodes ≤ 12) : CanS Tryz.prog 16 [topoV T, boolsV D, intsV p, num n] [] (fun r σ1 => r = .tuple [.own 5, num 0] ∧ σ1[5]? = some (srow (lstL T D n p))) := by
  refine canS_of Tryz.func16 rfl Tryz.ntmps16 rfl ?_
  refine W_cs (.a 3 rfl <| .k [1, 2, 3, 4] rfl) ?_
  refine W_scope ?_
  refine W_rs ?_
  refine WR_a 4 rfl <| WR_cS rfl rfl (CanS.mono (follow_one T D p n hp hlk) (fun r σ' h => ?_))
  obtain ⟨x, rfl, hx⟩ := h
  refine WR_a 5 rfl <| WR_k [2, 4, 10, 11] rfl ?_
  refine W_seq ?_
  refine W_cs (.a 2 rfl <| .k [2, 4, 10, 11, 24] rfl) ?_
  refine W_cond rfl (fun hc => ?_) (fun hc => ?_)
  · exact absurd he (tt hc)
  · obtain ⟨rfl, rfl⟩ := hx he
    have hF := fol_of he
    have hv := hF.valid
    have hS := sound_of hv
    have hN := hS.nodes
    have ha := hF.arcs
    obtain ⟨N, hNN⟩ : ∃ N : Nat, T.nodes = (N : Int) := ⟨T.nodes.toNat, by omega⟩
    rw [he]
    clear hc
    refine W_skip ?_
    refine W_cs (.a 1 rfl <| .k [2, 4, 10, 12] rfl) ?_
    refine W_adopt 12 47 2 rfl ?_
    refine W_cs (.a 1 rfl <| .k [2, 4, 10, 12, 13] rfl) ?_
    refine W_seq ?_
    refine W_label ?_
    refine W_seq ?_
    refine W_block ?_
    refine W_k [2, 4, 10, 12, 13] rfl ?_
    refine W_loop (fun r st => ∃ (l : List Seg) (i f : Nat) (dm : List (Int × PV)) (um : List ((Int × Int) × PV)), i ≤ p.length ∧ p.length - i ≤ f ∧ l.length ≤ i ∧ r = p.length - i ∧ lstL T D n p = l ++ lstF T D n p f i ∧ MemD T D dm ∧ MemU T D um ∧ st = ⟨[(2, intsV p), (4, .pin (topoP T) 0), (10, .ptr 4 0), (12, .own 5), (13, num i)], trk T D p (ndL T n p) (csL T p) dm um ++ [srow l]⟩) p.length ⟨[], 0, p.length, [], [], by omega, by omega, by simp, by omega, rfl, (fun _ _ h => by cases h), (fun _ _ h => by cases h), rfl⟩ ?_
    rintro r st ⟨l, i, f, dm, um, hi, hif, hli, rfl, hl, hdm, hum, rfl⟩
    refine W_seq ?_
    refine W_cs (.a 4 rfl <| .k [2, 4, 10, 12, 13, 29] rfl) ?_
    refine W_cond rfl (fun h1 => ?_) (fun h1 => ?_)
    · have hlt : i < p.length := by have := tt h1; omega
      refine W_skip ?_
      refine W_block ?_
      refine W_seq ?_
      obtain ⟨m, hm⟩ : ∃ m : Nat, min (p.length : Int) ((i : Int) + (N : Int) - 1) = (m : Int) := ⟨(min (p.length : Int) ((i : Int) + (N : Int) - 1)).toNat, by omega⟩
      have hfar : ∀ k, m < k → k ≤ p.length → covB T D n p i k = false := fun k h2 h3 => by
        cases hcv : covB T D n p i k with
        | false => rfl
        | true =>
          have := cov_far hF (i := i) (j := k) (by omega) h3 hcv
          omega
      refine W_cs (.a 4 rfl <| .v (y_ld rfl ((show some (num T.nodes) = some (num (N : Int)) by rw [hNN]))) rfl <| .v (y_ar rfl) rfl <| .v (y_ar rfl) rfl <| .v (y_min rfl rfl rfl (hm)) rfl <| .a 1 rfl <| .k [2, 4, 10, 12, 13, 14] rfl) ?_
      refine W_block ?_
      refine W_k [2, 4, 10, 12, 13, 14] rfl ?_
      refine W_loop (fun r st => ∃ (j : Nat) (dm : List (Int × PV)) (um : List ((Int × Int) × PV)), i ≤ j ∧ j ≤ p.length ∧ r = j ∧ (∀ k, j < k → k ≤ p.length → covB T D n p i k = false) ∧ MemD T D dm ∧ MemU T D um ∧ st = ⟨[(2, intsV p), (4, .pin (topoP T) 0), (10, .ptr 4 0), (12, .own 5), (13, num i), (14, num j)], trk T D p (ndL T n p) (csL T p) dm um ++ [srow l]⟩) m ⟨m, dm, um, by omega, by omega, rfl, hfar, hdm, hum, rfl⟩ ?_
      clear hdm hum
      rintro r st ⟨j, dm, um, hij, hj, rfl, hno, hdm, hum, rfl⟩
      refine W_seq ?_
      refine W_cs (.a 3 rfl <| .k [2, 4, 10, 12, 13, 14, 40] rfl) ?_
      refine W_cond rfl (fun h2 => ?_) (fun h2 => ?_)
      · have hlt2 : i < r := by have := tt h2; omega
        refine W_skip ?_
        refine W_seq ?_
        refine W_block ?_
        refine W_rs ?_
        refine WR_a 3 rfl <| WR_cS rfl rfl (CanS.mono (covered_can T D p n dm um (srow l) (srow_pure l) hv hF.fits h12 hF.node ha hp i r (by omega) hj hdm hum) (fun _ σ' h => ?_))
        obtain ⟨rfl, dm1, um1, hdm1, hum1, rfl⟩ := h
        refine WR_k [2, 4, 10, 12, 13, 14, 46] rfl ?_
        refine W_cond rfl (fun h3 => ?_) (fun h3 => ?_)
        · have hgj := ndL_get T n p r hj
          have hl1 := ndL_len T n p
          refine W_rs ?_
          refine WR_a 6 rfl <| WR_v (y_ix (r) rfl) rfl <| WR_v (y_ld rfl ((ints_get _ r (by omega)).trans (by rw [hgj]))) rfl <| WR_a 2 rfl <| WR_l (l_append rfl (fok.rk.get rfl) rfl rfl rfl rfl (by unfold maxLen; omega)) rfl <| WR_a 1 rfl ?_
          refine WR_ren [0, 1, 2, 3, 4, 6] (.c 2 <| .c 4 <| .c 10 <| .c 12 <| .c 14 <| .nil) (.kept rfl (.row RenL.pure) <| .kept rfl (.row RenL.pure) <| .same (MemD.pure hdm1) rfl <| .same (MemU.pure hum1) rfl <| .kept rfl (.cells (RenL.c <| RenL.c <| RenL.c <| RenL.c <| RenL.c <| RenL.c <| RenL.c <| RenL.c <| RenL.c <| RenL.nil)) <| .kept rfl (.rowP rfl (segsP_snoc _ ⟨1, endL T n (p.take r)⟩)) <| .nil) rfl rfl (WR_nil ?_)
          refine W_cs (.a 2 rfl <| .k [2, 4, 10, 12, 13] rfl) ?_
          refine W_exit ?_
          cases f with
          | zero => omega
          | succ f =>
            first
              | (refine ⟨p.length - r, by omega, l ++ [⟨1, endL T n (p.take r)⟩], r, f, dm1, um1, by omega, by omega, by simp; omega, rfl, ?_, hdm1, hum1, ?_⟩
                 · rw [hl, lst_some hlt hlt2 hj h3 hno, List.append_assoc]; rfl
                 · unfold srow; simp only [List.length_append, List.length_singleton]; rfl)
              | (refine ⟨p.length - (i + 1), by omega, l ++ [⟨2, p.getD i 0⟩], i + 1, f, dm, um, by omega, by omega, by simp; omega, rfl, ?_, hdm, hum, ?_⟩
                 · rw [hl, lst_none hlt hno2, List.append_assoc]; rfl
                 · unfold srow; simp only [List.length_append, List.length_singleton]; rfl)
        · skip
          refine W_skip ?_
          refine W_chain (.a 1 rfl <| .v (y_ar rfl) rfl <| .a 1 rfl <| .k [2, 4, 10, 12, 13, 14] rfl) ?_
          refine ⟨r - 1, by omega, r - 1, dm1, um1, by omega, by omega, rfl, fun k h4 h5 => ?_, hdm1, hum1, ?_⟩
          · by_cases e : k = r
            · rw [e]; exact h3
            · exact hno k (by omega) h5
          · rw [show ((r - 1 : Nat) : Int) = (r : Int) - 1 by omega]
      · have hno2 : ∀ k, i < k → k ≤ p.length → covB T D n p i k = false := fun k h3 h4 => hno k (by have := ff h2; omega) h4
        refine W_exit ?_
        refine W_rs ?_
        refine WR_a 3 rfl <| WR_v (y_ix (i) rfl) rfl <| WR_v (y_ld rfl (ints_get _ i hlt)) rfl <| WR_a 2 rfl <| WR_l (l_append rfl (fok.rk.get rfl) rfl rfl rfl rfl (by unfold maxLen; omega)) rfl <| WR_a 1 rfl ?_
        refine WR_ren [0, 1, 2, 3, 4, 6] (.c 2 <| .c 4 <| .c 10 <| .c 12 <| .c 13 <| .nil) (.kept rfl (.row RenL.pure) <| .kept rfl (.row RenL.pure) <| .same (MemD.pure hdm) rfl <| .same (MemU.pure hum) rfl <| .kept rfl (.cells (RenL.c <| RenL.c <| RenL.c <| RenL.c <| RenL.c <| RenL.c <| RenL.c <| RenL.c <| RenL.c <| RenL.nil)) <| .kept rfl (.rowP rfl (segsP_snoc _ ⟨2, p.getD i 0⟩)) <| .nil) rfl rfl (WR_nil ?_)
        refine W_chain (.a 1 rfl <| .v (y_ar rfl) rfl <| .a 1 rfl <| .k [2, 4, 10, 12, 13] rfl) ?_
        cases f with
        | zero => omega
        | succ f =>
          first
            | (refine ⟨p.length - r, by omega, l ++ [⟨1, endL T n (p.take r)⟩], r, f, dm1, um1, by omega, by omega, by simp; omega, rfl, ?_, hdm1, hum1, ?_⟩
               · rw [hl, lst_some hlt hlt2 hj h3 hno, List.append_assoc]; rfl
               · unfold srow; simp only [List.length_append, List.length_singleton]; rfl)
            | (refine ⟨p.length - (i + 1), by omega, l ++ [⟨2, p.getD i 0⟩], i + 1, f, dm, um, by omega, by omega, by simp; omega, rfl, ?_, hdm, hum, ?_⟩
               · rw [hl, lst_none hlt hno2, List.append_assoc]; rfl
               · unfold srow; simp only [List.length_append, List.length_singleton]; rfl)
    · have hie : i = p.length := by have := ff h1; omega
      rw [lst_end f i (by omega), List.append_nil] at hl
      refine W_exit ?_
      refine W_cs (.a 3 rfl <| .k [8, 9] rfl) ?_
      refine W_ret ?_
      exact ⟨_, ResL.of rfl, rfl, by rw [hl]; rfl⟩
set_option maxRecDepth 10000 in
set_option maxHeartbeats 1000000 in
theorem slistS_can (T : Topo) (D : List Bool) (p : List Int) (n : Int) (he : folE T D n p = 0) (hp : p.length ≤ 1000) (hlk : T.links.length ≤ 256) (h12 : T.nodes ≤ 12) : CanS Tryz.prog 9 [topoV T, boolsV D, intsV p, num n] [] (fun r σ1 => ∃ i e s, r = .tuple [.own i, num 0] ∧ σ1[i]? = some (some (.row e s (lstL T [] n p).length (segsP (lstL T [] n p))))) := by
  have hl := CanS.nils (elistS_can T [] p n (folB he) hp hlk h12)
  refine canS_of Tryz.func9 rfl Tryz.ntmps9 rfl ?_
  refine W_cs (.a 3 rfl <| .k [1, 2, 3, 4] rfl) ?_
  refine W_seq ?_
  refine W_cs (.a 4 rfl <| .c rfl (scheck_can T D p n hp hlk) rfl <| .a 1 rfl <| .k [2, 3, 4, 10] rfl) ?_
  refine W_cs (.a 2 rfl <| .k [2, 3, 4, 10, 17] rfl) ?_
  refine W_cond rfl (fun hc => ?_) (fun hc => ?_)
  · exact absurd he (tt hc)
  · skip
    refine W_skip ?_
    refine W_rs ?_
    refine WR_a 3 rfl <| WR_cS rfl rfl (CanS.mono hl (fun r σ' h => ?_))
    obtain ⟨rfl, hx⟩ := h
    refine WR_a 4 rfl <| WR_k [8, 9] rfl ?_
    refine W_ret ?_
    exact ⟨_, ResL.of rfl, 5, _, _, rfl, hx⟩
end PW
end Go.Proofs.YtkgepjiebihodaaGreat

/- The laws on lists of segments: awake, large. -/
namespace Go.Proofs.YtkgepjiebihodaaGreat
set_option linter.unusedVariables false
set_option linter.unusedSimpArgs false
namespace PW
open Go.RowKit Reg Mem Net

def nextC (T : Topo) (D : List Bool) (L : List Int) (m d : Nat) : List Int := if m = d ∨ L.getD m 0 < 0 then [] else passL T D L (L.getD m 0) d (outL T m)
def cntC (T : Topo) (D : List Bool) (L : List Int) (d : Nat) : Nat → Nat → Int
  | 0, m => if m = d then 1 else 0
  | f + 1, m => if m = d then 1 else (nextC T D L m d).foldl (fun c a => min 2 (c + cntC T D L d f (headN T a.toNat).toNat)) 0
theorem cntF_C (T : Topo) (D : List Bool) (d : Nat) : ∀ f m, cntF T D d f m = cntC T D (distL T D d false) d f m
  | 0, m => rfl
  | f + 1, m => by
    simp only [cntF, cntC]
    split
    · rfl
    · exact foldl_congr fun c a _ => by rw [cntF_C T D d f]
def covC (y u : Nat) (c : Int) : Bool := decide ((ringD y).getD u 0 = c) && (decide (nodeE ringT [] (u : Int) (y : Int) = 0) && decide (cntC ringT [] (ringD y) y ((ringD y).getD u 0).toNat u = 1))
theorem cov_ring {p : List Int} {i j u y : Nat} {c : Int} (hu : endL ringT 0 (p.take i) = (u : Int)) (hy : endL ringT 0 (p.take j) = (y : Int)) (h4 : y < 4) (hc : costL ringT (p.take j) - costL ringT (p.take i) = c) : covB ringT [] 0 p i j = covC y u c := by
  unfold covB uniqB cntS dN covC
  rw [hu, hy, hc]
  simp only [Int.toNat_natCast, cntF_C, ring_dist y h4]
theorem c02 : covC 2 0 2 = false := by kernel_rfl
theorem c01 : covC 1 0 1 = true := by kernel_rfl
theorem c12 : covC 2 1 1 = true := by kernel_rfl
theorem c03 : covC 3 0 3 = false := by kernel_rfl
theorem c13 : covC 3 1 2 = false := by kernel_rfl
theorem c23 : covC 3 2 1 = true := by kernel_rfl
theorem ring_lst2 : lstL ringT [] 0 [0, 2] = nodeS [1, 2] := by
  have e01 : covB ringT [] 0 [0, 2] 0 1 = true := (cov_ring (u := 0) (y := 1) (c := 1) (by kernel_rfl) (by kernel_rfl) (by omega) (by kernel_rfl)).trans c01
  have e02 : covB ringT [] 0 [0, 2] 0 2 = false := (cov_ring (u := 0) (y := 2) (c := 2) (by kernel_rfl) (by kernel_rfl) (by omega) (by kernel_rfl)).trans c02
  have e12 : covB ringT [] 0 [0, 2] 1 2 = true := (cov_ring (u := 1) (y := 2) (c := 1) (by kernel_rfl) (by kernel_rfl) (by omega) (by kernel_rfl)).trans c12
  have h1 : lstF ringT [] 0 [0, 2] 2 0 = _ := lst_some (f := 1) (i := 0) (j := 1) (by decide) (by omega) (by decide) e01 (fun k h1 h2 => by
    have : k = 2 := by simp at h2; omega
    subst this; exact e02)
  have h2 : lstF ringT [] 0 [0, 2] 1 1 = _ := lst_some (f := 0) (i := 1) (j := 2) (by decide) (by omega) (by decide) e12 (fun k h1 h2 => by simp at h2; omega)
  show lstF ringT [] 0 [0, 2] 2 0 = _
  rw [h1, h2]
  kernel_rfl
theorem ring_lst3 : lstL ringT [] 0 [0, 2, 4] = nodeS [1, 2, 3] := by
  have e01 : covB ringT [] 0 [0, 2, 4] 0 1 = true := (cov_ring (u := 0) (y := 1) (c := 1) (by kernel_rfl) (by kernel_rfl) (by omega) (by kernel_rfl)).trans c01
  have e02 : covB ringT [] 0 [0, 2, 4] 0 2 = false := (cov_ring (u := 0) (y := 2) (c := 2) (by kernel_rfl) (by kernel_rfl) (by omega) (by kernel_rfl)).trans c02
  have e03 : covB ringT [] 0 [0, 2, 4] 0 3 = false := (cov_ring (u := 0) (y := 3) (c := 3) (by kernel_rfl) (by kernel_rfl) (by omega) (by kernel_rfl)).trans c03
  have e12 : covB ringT [] 0 [0, 2, 4] 1 2 = true := (cov_ring (u := 1) (y := 2) (c := 1) (by kernel_rfl) (by kernel_rfl) (by omega) (by kernel_rfl)).trans c12
  have e13 : covB ringT [] 0 [0, 2, 4] 1 3 = false := (cov_ring (u := 1) (y := 3) (c := 2) (by kernel_rfl) (by kernel_rfl) (by omega) (by kernel_rfl)).trans c13
  have e23 : covB ringT [] 0 [0, 2, 4] 2 3 = true := (cov_ring (u := 2) (y := 3) (c := 1) (by kernel_rfl) (by kernel_rfl) (by omega) (by kernel_rfl)).trans c23
  have h1 : lstF ringT [] 0 [0, 2, 4] 3 0 = _ := lst_some (f := 2) (i := 0) (j := 1) (by decide) (by omega) (by decide) e01 (fun k h1 h2 => by
    have : k = 2 ∨ k = 3 := by simp at h2; omega
    rcases this with rfl | rfl
    · exact e02
    · exact e03)
  have h2 : lstF ringT [] 0 [0, 2, 4] 2 1 = _ := lst_some (f := 1) (i := 1) (j := 2) (by decide) (by omega) (by decide) e12 (fun k h1 h2 => by
    have : k = 3 := by simp at h2; omega
    subst this; exact e13)
  have h3 : lstF ringT [] 0 [0, 2, 4] 1 2 = _ := lst_some (f := 0) (i := 2) (j := 3) (by decide) (by omega) (by decide) e23 (fun k h1 h2 => by simp at h2; omega)
  show lstF ringT [] 0 [0, 2, 4] 3 0 = _
  rw [h1, h2, h3]
  kernel_rfl
end PW
end Go.Proofs.YtkgepjiebihodaaGreat

/- The examples of layer 28, walked. -/
namespace Go.Proofs.YtkgepjiebihodaaGreat
set_option linter.unusedVariables false
set_option linter.unusedSimpArgs false
namespace PW
open Go.RowKit Reg Mem Net

def maskL : List Bool := [true, true, false, false, false, false, false, false]
def ring5L : List Lnk := ⟨0, 1, 5, 5, 0, 1, 0⟩ :: (ringL 4).drop 1
def ring5T : Topo := ⟨4, [], ring5L⟩
theorem ring5_valid : validB ring5T = true := by kernel_rfl
def dist5B (n : Nat) (out : List Int) : Bool :=
  decide (out.length = 4) && decide (at' out (n : Int) = 0) && (List.range 4).all (fun x => decide (0 ≤ at' out (x : Int))) &&
  (List.range 8).all (fun a => !wayB ring5T n out a || (decide (0 ≤ at' out (arcX ring5T false a)) && decide (at' out (arcX ring5T false a) ≤ at' out (arcY ring5T false a) + costN ring5T a))) &&
  (List.range 4).all (fun x => decide (x = n) || (List.range 8).any fun a => decide (arcX ring5T false a = (x : Int)) && wayB ring5T n out a && decide (at' out (x : Int) = at' out (arcY ring5T false a) + costN ring5T a))
theorem way5_iff (n : Nat) (out : List Int) (a : Nat) : Net.Way ring5T [] n false out a ↔ wayB ring5T n out a = true := by
  unfold Net.Way wayB
  have : downN [] a = false := by simp [downN]
  simp [this]
theorem dist5_of {n : Nat} {out : List Int} (h : dist5B n out = true) : IsDist ring5T [] n false out := by
  simp only [dist5B, Bool.and_eq_true, decide_eq_true_eq, List.all_eq_true, List.mem_range, Bool.or_eq_true, Bool.not_eq_true', List.any_eq_true] at h
  obtain ⟨⟨⟨⟨h1, h2⟩, h3⟩, h4⟩, h5⟩ := h
  refine ⟨by rw [h1]; rfl, h2, fun x hx => ?_, fun a ha hw => ?_, fun x hx _ => ?_⟩
  · have := h3 x (by have : ring5T.nodes = 4 := rfl; omega); omega
  · rcases h4 a (by have : ring5T.links.length = 4 := rfl; omega) with h | h
    · rw [(way5_iff n out a).1 hw] at h; cases h
    · exact h
  · rcases h5 x (by have : ring5T.nodes = 4 := rfl; omega) with h | ⟨a, ha, ⟨h6, h7⟩, h8⟩
    · exact .inl h
    · exact .inr ⟨a, by have : ring5T.links.length = 4 := rfl; omega, h6, (way5_iff n out a).2 h7, h8⟩
theorem ring5_dist : distL ring5T [] 1 false = [3, 0, 1, 2] := distL_eq (sound_of ring5_valid) (dist5_of (show dist5B 1 [3, 0, 1, 2] = true by kernel_rfl))
def cov5 (L : List Int) (y u : Nat) (c : Int) : Bool := decide (L.getD u 0 = c) && (decide (nodeE ring5T [] (u : Int) (y : Int) = 0) && decide (cntC ring5T [] L y (L.getD u 0).toNat u = 1))
theorem cov_ring5 : covB ring5T [] 0 [7, 5, 3] 0 3 = true := by
  have hu : endL ring5T 0 ([7, 5, 3].take 0) = ((0 : Nat) : Int) := by kernel_rfl
  have hy : endL ring5T 0 ([7, 5, 3].take 3) = ((1 : Nat) : Int) := by kernel_rfl
  have hc : costL ring5T ([7, 5, 3].take 3) - costL ring5T ([7, 5, 3].take 0) = 3 := by kernel_rfl
  unfold covB uniqB cntS dN
  rw [hu, hy, hc]
  simp only [Int.toNat_natCast, cntF_C, ring5_dist]
  exact (show cov5 [3, 0, 1, 2] 1 0 3 = true by kernel_rfl)
theorem ring_lstA : lstL ringT [] 0 [7, 5, 3] = nodeS [3, 2, 1] := by
  have e01 : covB ringT [] 0 [7, 5, 3] 0 1 = true := (cov_ring (u := 0) (y := 3) (c := 1) (by kernel_rfl) (by kernel_rfl) (by omega) (by kernel_rfl)).trans (show covC 3 0 1 = true by kernel_rfl)
  have e02 : covB ringT [] 0 [7, 5, 3] 0 2 = false := (cov_ring (u := 0) (y := 2) (c := 2) (by kernel_rfl) (by kernel_rfl) (by omega) (by kernel_rfl)).trans (show covC 2 0 2 = false by kernel_rfl)
  have e03 : covB ringT [] 0 [7, 5, 3] 0 3 = false := (cov_ring (u := 0) (y := 1) (c := 3) (by kernel_rfl) (by kernel_rfl) (by omega) (by kernel_rfl)).trans (show covC 1 0 3 = false by kernel_rfl)
  have e12 : covB ringT [] 0 [7, 5, 3] 1 2 = true := (cov_ring (u := 3) (y := 2) (c := 1) (by kernel_rfl) (by kernel_rfl) (by omega) (by kernel_rfl)).trans (show covC 2 3 1 = true by kernel_rfl)
  have e13 : covB ringT [] 0 [7, 5, 3] 1 3 = false := (cov_ring (u := 3) (y := 1) (c := 2) (by kernel_rfl) (by kernel_rfl) (by omega) (by kernel_rfl)).trans (show covC 1 3 2 = false by kernel_rfl)
  have e23 : covB ringT [] 0 [7, 5, 3] 2 3 = true := (cov_ring (u := 2) (y := 1) (c := 1) (by kernel_rfl) (by kernel_rfl) (by omega) (by kernel_rfl)).trans (show covC 1 2 1 = true by kernel_rfl)
  have h1 : lstF ringT [] 0 [7, 5, 3] 3 0 = _ := lst_some (f := 2) (i := 0) (j := 1) (by decide) (by omega) (by decide) e01 (fun k h1 h2 => by
    have : k = 2 ∨ k = 3 := by simp at h2; omega
    rcases this with rfl | rfl
    · exact e02
    · exact e03)
  have h2 : lstF ringT [] 0 [7, 5, 3] 2 1 = _ := lst_some (f := 1) (i := 1) (j := 2) (by decide) (by omega) (by decide) e12 (fun k h1 h2 => by
    have : k = 3 := by simp at h2; omega
    subst this; exact e13)
  have h3 : lstF ringT [] 0 [7, 5, 3] 1 2 = _ := lst_some (f := 0) (i := 2) (j := 3) (by decide) (by omega) (by decide) e23 (fun k h1 h2 => by simp at h2; omega)
  show lstF ringT [] 0 [7, 5, 3] 3 0 = _
  rw [h1, h2, h3]
  kernel_rfl
theorem ring_lstB : lstL ring5T [] 0 [7, 5, 3] = nodeS [1] := by
  have h1 : lstF ring5T [] 0 [7, 5, 3] 3 0 = _ := lst_some (f := 2) (i := 0) (j := 3) (by decide) (by omega) (by decide) cov_ring5 (fun k h1 h2 => by simp at h2; omega)
  show lstF ring5T [] 0 [7, 5, 3] 3 0 = _
  rw [h1, lst_end _ _ (by decide)]
  kernel_rfl
set_option maxRecDepth 10000 in
set_option maxHeartbeats 1000000 in
theorem square_can : CanS Tryz.prog 8 [] [] (fun r σ1 => r = .tuple [.agg [num 4, .raw (.slice none 0 0), .own 2], boolsV maskL] ∧ ∃ a b, σ1 = [a, b, some (.row 41 7 4 (lnksP (ringL 4)))]) := by
  refine canS_of Tryz.func8 rfl Tryz.ntmps8 rfl ?_
  refine W_rs ?_
  refine WR_a 2 rfl <| WR_k [0] rfl ?_
  refine W_rs ?_
  refine WR_a 3 rfl <| WR_k [0, 2] rfl ?_
  refine W_adoptCell 1 2 41 7 rfl rfl ?_
  refine W_seq ?_
  refine W_cs (.a 1 rfl <| .k [0, 2, 5] rfl) ?_
  refine W_block ?_
  refine W_k [0, 2, 5] rfl ?_
  refine W_loop (fun r s => ∃ k, k ≤ 4 ∧ r = 4 - k ∧ s = ⟨[(0, .ptr 0 0), (2, .ptr 1 0), (5, num k)], [some (.cells 25 [num 0, .raw (.slice none 0 0), .raw (.slice none 0 0)]), some (.cells 25 [num 4, .raw (.slice none 0 0), .own 2]), some (.row 41 7 k (lnksP (ringL k)))]⟩) 4 ⟨0, by omega, by omega, rfl⟩ ?_
  rintro r s ⟨k, hk, rfl, rfl⟩
  refine W_cs (.a 1 rfl <| .k [0, 2, 5, 6] rfl) ?_
  refine W_seq ?_
  refine W_cond rfl (fun hc => ?_) (fun hc => ?_)
  · have hlt : k < 4 := by have := of_decide_eq_true hc; omega
    refine W_skip ?_
    refine W_seq ?_
    refine W_block ?_
    refine W_cs (.a 2 rfl <| .k [0, 2, 3, 5] rfl) ?_
    refine W_region ?_
    refine WR_a 4 rfl <| WR_v (y_ar rfl) rfl <| WR_v (y_rem rfl rfl rfl (by decide) ((show ((k : Int) + 1).tmod 4 = (((k + 1) % 4 : Nat) : Int) by rw [Int.tmod_eq_emod_of_nonneg (by omega)]; omega))) rfl <| WR_v (y_build2 rfl (show Tryz.prog.built 39 [(0, .int .i64 1), (1, .int .i64 1)] = some #[.int .i64 1, .int .i64 1] by kernel_rfl)) rfl <| WR_a 2 rfl <| WR_l (l_append rfl (fok.rk.get rfl) rfl rfl rfl rfl (by unfold maxLen; omega)) rfl <| WR_a 2 rfl ?_
    refine WR_ren [0, 1, 3] (.c 0 <| .c 2 <| .c 5 <| .nil) (.kept rfl (.cells (RenL.c <| RenL.c <| RenL.c <| RenL.nil)) <| .kept rfl (.cells (RenL.c <| RenL.c <| RenL.c <| RenL.nil)) <| .kept rfl (.rowP rfl (show _ = lnksP (ringL (k + 1)) by rw [ringL_step]; exact lnksP_snoc _ ⟨(k : Int), (((k + 1) % 4 : Nat) : Int), 1, 1, 0, 1, 0⟩)) <| .nil) rfl rfl (WR_nil ?_)
    refine W_chain (.v (y_ar rfl) rfl <| .a 1 rfl <| .k [0, 2, 5] rfl) ?_
    exact ⟨4 - (k + 1), by omega, k + 1, by omega, rfl, rfl⟩
  · have hke : k = 4 := by have := of_decide_eq_false hc; omega
    subst hke
    refine W_exit ?_
    refine W_rs ?_
    refine WR_a 4 rfl <| WR_k [0, 1] rfl ?_
    refine W_ret ?_
    exact ⟨_, ResL.of rfl, rfl, _, _, rfl⟩
instance (l : List Seg) : IsFlatL (segsP l) := ⟨fun i u h => by
  obtain ⟨s, _, hs⟩ := List.mem_flatMap.1 (List.mem_of_getElem? h)
  simp only [segP, List.mem_cons, List.not_mem_nil, or_false] at hs
  rcases hs with rfl | rfl
  · infer_instance
  · infer_instance⟩
set_option maxRecDepth 10000 in
set_option maxHeartbeats 1000000 in
theorem awake28_can : Can Tryz.prog 4 [] (· = flag true) := by
  have hlA := slistS_can ringT maskL [7, 5, 3] 0 (by kernel_rfl) (by decide) (by decide) (by decide)
  rw [ring_lstA] at hlA
  have hlB := slistS_can ring5T maskL [7, 5, 3] 0 (by kernel_rfl) (by decide) (by decide) (by decide)
  rw [ring_lstB] at hlB
  have htA := tlist_can [3, 2, 1] (by decide) (by decide)
  have htB := tlist_can [1] (by decide) (by decide)
  refine can_of Tryz.func4 rfl Tryz.ntmps4 rfl ?_
  refine W_cs (.a 1 rfl <| .k [] rfl) ?_
  refine W_rs ?_
  refine WR_cS rfl rfl (CanS.mono square_can (fun r σ' h => ?_))
  obtain ⟨rfl, a, b, rfl⟩ := h
  refine WR_a 6 rfl <| WR_k [1, 2] rfl ?_
  refine W_ren [2, 3] (.c 1 <| .c 2 <| .nil) (.kept rfl (.row RenL.pure) <| .kept rfl (.cells (RenL.c <| RenL.c <| RenL.c <| RenL.nil)) <| .nil) rfl rfl ?_
  refine W_cs (.a 3 rfl <| .v (y_cF rfl (PurL.cons (Pur.aggL (PurL.cons Pur.pure <| PurL.cons Pur.nils <| PurL.cons (Pur.ownL rfl PurL.pure) PurL.nil)) <| PurL.cons Pur.pure <| PurL.cons (Pur.pure (p := intsV [7, 5, 3])) <| PurL.cons Pur.pure PurL.nil) hlA) rfl <| .a 5 rfl <| .k [1, 2, 3, 4] rfl) ?_
  refine W_rs ?_
  refine WR_a 2 rfl <| WR_v (y_build2 rfl (show Tryz.prog.built 39 [(0, .int .i64 5), (1, .int .i64 5)] = some #[.int .i64 5, .int .i64 5] by kernel_rfl)) rfl <| WR_v (y_ix (0) rfl) rfl <| WR_a 2 rfl <| WR_k [1, 2, 3, 4] rfl ?_
  refine W_sto (σ' := [some (.row 41 7 4 (lnksP ring5L)), some (.cells 25 [num 4, .raw (.slice none 0 0), .own 0])]) rfl ?_
  refine W_cs (.a 3 rfl <| .v (y_cF rfl (PurL.cons (Pur.aggL (PurL.cons Pur.pure <| PurL.cons Pur.nils <| PurL.cons (Pur.ownL rfl PurL.pure) PurL.nil)) <| PurL.cons Pur.pure <| PurL.cons (Pur.pure (p := intsV [7, 5, 3])) <| PurL.cons Pur.pure PurL.nil) hlB) rfl <| .a 5 rfl <| .k [3, 4, 5, 6] rfl) ?_
  refine W_csK 0 (.raw (.bool (true))) [] rfl ?_ ?_
  · exact .a 8 rfl <| .c rfl (htA) rfl <| .v (y_strEql rfl rfl rfl (beq_self_eq_true (ByteArray.toList ⟨[110, 51, 32, 110, 50, 32, 110, 49].toArray⟩))) rfl <| .a 3 rfl <| .c rfl (htB) rfl <| .v (y_strEql rfl rfl rfl (beq_self_eq_true (ByteArray.toList ⟨[110, 49].toArray⟩))) rfl <| .a 2 rfl <| .k [0] rfl
  refine W_ret ?_
  exact ⟨_, _, ResL.of rfl, Pur.pure, rfl⟩
end PW
end Go.Proofs.YtkgepjiebihodaaGreat

/- The arguments of the laws: segments, entries, tables. -/
namespace Go.Proofs.YtkgepjiebihodaaGreat
set_option linter.unusedVariables false
set_option linter.unusedSimpArgs false
namespace PW
open Go.RowKit Reg Mem Net
section
variable {H : Type} {enc : TypeId × Value → H} {W : World}
set_option maxRecDepth 10000 in
theorem rd_seg {n : Nat} {cs : List Value} {y : DataW H × List MemPlace} (h : DataW.trod enc Tryz.prog W 0 (fun _ => true) true n 47 cs = some y) (hl : cs.length = 2) : ∃ s : Seg, RepL EN W cs (segP s) := by
  have c3 : Tryz.prog.cellsOf 3 = 1 := by kernel_rfl
  obtain ⟨xs, m, _, _, _, hlen, hf⟩ := DataW.trod_struct Tryz.underlying47 h
  match cs, hl with
  | [c0, c1], _ =>
    match xs, hlen with
    | [y0, y1], _ =>
      have f0 : DataW.trod enc Tryz.prog W 0 (fun _ => true) true m 3 (([c0, c1].drop 0).take (Tryz.prog.cellsOf 3)) = some y0 := hf 0 _ rfl
      rw [c3] at f0
      have f1 : DataW.trod enc Tryz.prog W 0 (fun _ => true) true m 3 (([c0, c1].drop 1).take (Tryz.prog.cellsOf 3)) = some y1 := hf 1 _ rfl
      rw [c3] at f1
      obtain ⟨a0, h0⟩ := rd_int f0
      obtain ⟨a1, h1⟩ := rd_int f1
      simp at h0 h1
      subst h0 h1
      exact ⟨⟨a0, a1⟩, RepL.cons (.raw _) <| RepL.cons (.raw _) (RepL.nil _ _)⟩
theorem rd_segs {n : Nat} {v : Value} {y : DataW H × List MemPlace} (h : DataW.trod enc Tryz.prog W 0 (fun _ => true) true n 29 [v] = some y) : ∃ L, Rep EN W v (segsV L) :=
  rd_slice (f := segP) (s := 2) Tryz.underlying29 (by kernel_rfl) (by omega) (fun n cs y hy hl => rd_seg hy hl) h
end
end PW
end Go.Proofs.YtkgepjiebihodaaGreat

/- The argument of the laws of layer 20: a case. -/
namespace Go.Proofs.YtkgepjiebihodaaGreat
set_option linter.unusedVariables false
set_option linter.unusedSimpArgs false
namespace PW
open Go.RowKit Reg Mem Net Go.WideShapes
/-- A case: a topology with a mask, a path from a node, a list of segments. -/
structure Cas where
  T : Topo
  D : List Bool
  n : Int
  p : List Int
  l : List Seg
def casP (c : Cas) : List PV := topoP c.T ++ [boolsV c.D, num c.n, intsV c.p, segsV c.l]
def casV (c : Cas) : PV := .agg (casP c)
instance (c : Cas) : IsPureL (casP c) := by unfold casP; unfold topoP; simp only [List.cons_append, List.nil_append]; infer_instance
instance (c : Cas) : IsPure (casV c) := by unfold casV; infer_instance
section
variable {H : Type} {enc : TypeId × Value → H} {W : World}
set_option maxRecDepth 10000 in
theorem rd_topo3 {n : Nat} {cs : List Value} {y : DataW H × List MemPlace} (h : DataW.trod enc Tryz.prog W 0 (fun _ => true) true n 25 cs = some y) (hl : cs.length = 3) : ∃ T : Topo, RepL EN W cs (topoP T) := by
  have c0' : Tryz.prog.cellsOf 3 = 1 := by kernel_rfl
  have c1' : Tryz.prog.cellsOf 22 = 1 := by kernel_rfl
  have c2' : Tryz.prog.cellsOf 23 = 1 := by kernel_rfl
  obtain ⟨xs, m, _, _, _, hlen, hf⟩ := DataW.trod_struct Tryz.underlying25 h
  match cs, hl with
  | [c0, c1, c2], _ =>
    match xs, hlen with
    | [y0, y1, y2], _ =>
      have f0 : DataW.trod enc Tryz.prog W 0 (fun _ => true) true m 3 (([c0, c1, c2].drop 0).take (Tryz.prog.cellsOf 3)) = some y0 := hf 0 _ rfl
      rw [c0'] at f0
      have f1 : DataW.trod enc Tryz.prog W 0 (fun _ => true) true m 22 (([c0, c1, c2].drop 1).take (Tryz.prog.cellsOf 22)) = some y1 := hf 1 _ rfl
      rw [c1'] at f1
      have f2 : DataW.trod enc Tryz.prog W 0 (fun _ => true) true m 23 (([c0, c1, c2].drop 2).take (Tryz.prog.cellsOf 23)) = some y2 := hf 2 _ rfl
      rw [c2'] at f2
      obtain ⟨a, ha⟩ := rd_int f0
      obtain ⟨B, hB⟩ := rd_bools f1
      obtain ⟨L, hL⟩ := rd_slice (f := lnkP) (s := 7) Tryz.underlying23 (by kernel_rfl) (by omega) (fun n cs y hy hl => rd_link hy hl) f2
      simp at ha
      subst ha
      exact ⟨⟨a, B, L⟩, RepL.cons (.raw _) <| RepL.cons hB <| RepL.cons hL (RepL.nil _ _)⟩
end
end PW
end Go.Proofs.YtkgepjiebihodaaGreat

/- The arguments of the laws of layer 28: a query, a way. -/
namespace Go.Proofs.YtkgepjiebihodaaGreat
set_option linter.unusedVariables false
set_option linter.unusedSimpArgs false
namespace PW
open Go.RowKit Reg Mem Net Go.WideShapes
/-- A topology with a mask and two nodes. -/
structure Qry where
  T : Topo
  D : List Bool
  x : Int
  y : Int
def qryP (c : Qry) : List PV := topoP c.T ++ [boolsV c.D, num c.x, num c.y]
def qryV (c : Qry) : PV := .agg (qryP c)
instance (c : Qry) : IsPureL (qryP c) := by unfold qryP; unfold topoP; simp only [List.cons_append, List.nil_append]; infer_instance
instance (c : Qry) : IsPure (qryV c) := by unfold qryV; infer_instance
/-- A path in a topology with a mask. -/
structure Wy where
  T : Topo
  D : List Bool
  p : List Int
  n : Int
def wyP (c : Wy) : List PV := topoP c.T ++ [boolsV c.D, intsV c.p, num c.n]
def wyV (c : Wy) : PV := .agg (wyP c)
instance (c : Wy) : IsPureL (wyP c) := by unfold wyP; unfold topoP; simp only [List.cons_append, List.nil_append]; infer_instance
instance (c : Wy) : IsPure (wyV c) := by unfold wyV; infer_instance
section
variable {H : Type} {enc : TypeId × Value → H} {W : World}
set_option maxRecDepth 10000 in
theorem rd_way {base : Nat} {v : Value} {d : DataW H} {p : List MemPlace} (hv : Value.okWide Tryz.prog W .any base 28 v) (h : DataW.Trod enc Tryz.prog W 0 (fun _ => true) true 28 v d p) : ∃ c : Wy, Rep EN W v (wyV c) := by
  have hC : Tryz.prog.cellsOf 28 = 6 := by kernel_rfl
  have k0 : Tryz.prog.cellsOf 25 = 3 := by kernel_rfl
  have k1 : Tryz.prog.cellsOf 22 = 1 := by kernel_rfl
  have k2 : Tryz.prog.cellsOf 3 = 1 := by kernel_rfl
  have k3 : Tryz.prog.cellsOf 26 = 1 := by kernel_rfl
  obtain ⟨cs, rfl, hsz⟩ := okWide_struct Tryz.underlying28 hv
  rw [hC] at hsz
  obtain ⟨fuel, hf⟩ := h
  obtain ⟨cl⟩ := cs
  match cl, hsz with
  | [c0, c1, c2, c3, c4, c5], _ =>
    obtain ⟨xs, m, _, _, _, hlen, hg⟩ := DataW.trod_struct Tryz.underlying28 hf
    match xs, hlen with
    | [y0, y1, y2, y3], _ =>
      have f0 : DataW.trod enc Tryz.prog W 0 (fun _ => true) true m 25 (([c0, c1, c2, c3, c4, c5].drop 0).take (Tryz.prog.cellsOf 25)) = some y0 := hg 0 _ rfl
      rw [k0] at f0
      have f1 : DataW.trod enc Tryz.prog W 0 (fun _ => true) true m 22 (([c0, c1, c2, c3, c4, c5].drop 3).take (Tryz.prog.cellsOf 22)) = some y1 := hg 1 _ rfl
      rw [k1] at f1
      have f2 : DataW.trod enc Tryz.prog W 0 (fun _ => true) true m 26 (([c0, c1, c2, c3, c4, c5].drop 4).take (Tryz.prog.cellsOf 26)) = some y2 := hg 2 _ rfl
      rw [k3] at f2
      have f3 : DataW.trod enc Tryz.prog W 0 (fun _ => true) true m 3 (([c0, c1, c2, c3, c4, c5].drop 5).take (Tryz.prog.cellsOf 3)) = some y3 := hg 3 _ rfl
      rw [k2] at f3
      obtain ⟨T, hT⟩ := rd_topo3 f0 rfl
      obtain ⟨D, hD⟩ := rd_bools f1
      obtain ⟨P, hP⟩ := rd_ints f2
      obtain ⟨b, hb⟩ := rd_int f3
      simp at hb
      subst hb
      have hall : RepL EN W [c0, c1, c2, c3, c4, .int .i64 b] (wyP ⟨T, D, P, b⟩) := hT.append (RepL.cons hD <| RepL.cons hP <| RepL.cons (.raw _) (RepL.nil _ _))
      exact ⟨⟨T, D, P, b⟩, .agg _ _ (by simpa using hall.1) (fun i x u h1 h2 => hall.2 i x u (by simpa using h1) h2)⟩
end
end PW
end Go.Proofs.YtkgepjiebihodaaGreat

/- The laws of layer 28, walked: List, Least, Encode, Segment. -/
namespace Go.Proofs.YtkgepjiebihodaaGreat
set_option linter.unusedVariables false
set_option linter.unusedSimpArgs false
namespace PW
open Go.RowKit Reg Mem Net

def smallQ (c : Qry) : Prop := c.T.nodes ≤ 12 ∧ c.T.links.length ≤ 20 ∧ c.D.length ≤ 60
def largeQ (c : Qry) : Bool := (decide ((12 : Int) < c.T.nodes) || decide ((20 : Int) < c.T.links.length)) || decide ((60 : Int) < c.D.length)
theorem largeQ_small {c : Qry} (h : largeQ c = false) : smallQ c := by
  unfold largeQ at h
  simp only [Bool.or_eq_false_iff, decide_eq_false_iff_not] at h
  unfold smallQ
  omega
def smallW (c : Wy) : Prop := c.T.nodes ≤ 12 ∧ c.T.links.length ≤ 20 ∧ c.D.length ≤ 60 ∧ c.p.length ≤ 20
def longW (c : Wy) : Bool := ((decide ((12 : Int) < c.T.nodes) || decide ((20 : Int) < c.T.links.length)) || decide ((60 : Int) < c.D.length)) || decide ((20 : Int) < c.p.length)
theorem longW_small {c : Wy} (h : longW c = false) : smallW c := by
  unfold longW at h
  simp only [Bool.or_eq_false_iff, decide_eq_false_iff_not] at h
  unfold smallW
  omega
set_option maxRecDepth 10000 in
set_option maxHeartbeats 1000000 in
theorem long28_can (c : Wy) : Can Tryz.prog 5 [wyV c] (· = flag (longW c)) := by
  obtain ⟨q1, h1⟩ : ∃ q, decide ((12 : Int) < c.T.nodes) = q := ⟨_, rfl⟩
  obtain ⟨q2, h2⟩ : ∃ q, decide ((20 : Int) < c.T.links.length) = q := ⟨_, rfl⟩
  obtain ⟨q3, h3⟩ : ∃ q, decide ((60 : Int) < c.D.length) = q := ⟨_, rfl⟩
  obtain ⟨q4, h4⟩ : ∃ q, decide ((20 : Int) < c.p.length) = q := ⟨_, rfl⟩
  have he : longW c = (((q1 || q2) || q3) || q4) := by unfold longW; rw [h1, h2, h3, h4]
  rw [he]
  refine can_of Tryz.func5 rfl Tryz.ntmps5 rfl ?_
  refine W_cs (.a 2 rfl <| .k [1] rfl) ?_
  refine W_csK 2 (.raw (.bool (((q1 || q2) || q3) || q4))) [] rfl ?_ ?_
  · refine .a 3 rfl <| .v (y_q rfl (h1)) rfl <| .a 1 rfl <| ?_
    cases q1
    · refine .a 4 rfl <| .v (y_q rfl (h2)) rfl <| .a 2 rfl <| ?_
      cases q2
      · refine .a 3 rfl <| .v (y_q rfl (h3)) rfl <| .a 2 rfl <| ?_
        cases q3
        · exact .a 3 rfl <| .v (y_q rfl (h4)) rfl <| .a 2 rfl <| .k [2] rfl
        · exact .a 6 rfl <| .k [2] rfl
      · exact .a 12 rfl <| .k [2] rfl
    · exact .a 19 rfl <| .k [2] rfl
  refine W_ret ?_
  exact ⟨_, _, ResL.of rfl, Pur.pure, rfl⟩
end PW
end Go.Proofs.YtkgepjiebihodaaGreat

/- Package stable's Check; the laws of layer 28 on parts, routes and detours, walked. -/
namespace Go.Proofs.YtkgepjiebihodaaGreat
set_option linter.unusedVariables false
set_option linter.unusedSimpArgs false
namespace PW
open Go.RowKit Reg Mem Net

theorem Ch.ups {T : Topo} {D : List Bool} {d m : Nat} {q : List Int} (h : Ch T D d m q) : ∀ a ∈ q, downN D a.toNat = false := by
  induction h with
  | nil => intro z hz; cases hz
  | @cons n a m p ha ht hu hm ho hp ih =>
    intro z hz
    rcases List.mem_cons.1 hz with rfl | hz
    · rw [Int.toNat_natCast]; exact hu
    · exact ih z hz
set_option maxRecDepth 10000 in
set_option maxHeartbeats 2000000 in
theorem sck_can (T : Topo) (D : List Bool) (l : List Seg) (n : Int) (p : List Int) (hp : p.length ≤ 1000) (hl : l.length ≤ 1000) (hlk : T.links.length ≤ 256) (h12 : T.nodes ≤ 12) : Can Tryz.prog 6 [topoV T, boolsV D, segsV l, num n, intsV p] (· = flag (ckE T D l n p)) := by
  obtain ⟨q1, hq1⟩ : ∃ q, decide (folE T D n p ≠ 0) = q := ⟨_, rfl⟩
  obtain ⟨q2, hq2⟩ : ∃ q, exactB T [] l n p = q := ⟨_, rfl⟩
  refine can_of Tryz.func6 rfl Tryz.ntmps6 rfl ?_
  refine W_cs (.a 2 rfl <| .k [1, 2, 3, 4, 5] rfl) ?_
  refine W_seq ?_
  refine W_csK 29 (.raw (.bool (q1 || !q2))) [2, 3, 5] rfl ?_ ?_
  · refine .a 4 rfl <| .c rfl (scheck_can T D p n hp hlk) rfl <| .v (y_q rfl (hq1)) rfl <| .a 1 rfl <| ?_
    cases q1
    · exact .a 4 rfl <| .v (y_cP rfl (PurL.cons Pur.pure <| PurL.cons Pur.nils <| PurL.cons Pur.pure <| PurL.cons Pur.pure <| PurL.cons Pur.pure PurL.nil) (hq2 ▸ exact_can T [] l n p hp hl hlk h12)) rfl <| .a 2 rfl <| .k [29, 2, 3, 5] rfl
    · exact .a 7 rfl <| .k [29, 2, 3, 5] rfl
  refine W_cond rfl (fun hc => ?_) (fun hc => ?_)
  · have he : ckE T D l n p = false := by
      unfold ckE
      by_cases h0 : folE T D n p = 0
      · rw [if_pos h0, ck_iff (fol_of h0).bare l 0 (Nat.zero_le _)]
        rw [decide_eq_false (by simpa using h0)] at hq1
        subst hq1
        rw [Bool.false_or] at hc
        have h2 : q2 = false := by simpa using hc
        unfold exactB at hq2
        rw [if_pos (folB h0), h2] at hq2
        rw [hq2]
        rfl
      · rw [if_neg h0]
    refine W_cs (.a 1 rfl <| .k [10] rfl) ?_
    refine W_ret ?_
    exact ⟨_, _, ResL.of rfl, Pur.pure, by rw [he]; rfl⟩
  · obtain ⟨rfl, h2⟩ := Bool.or_eq_false_iff.1 hc
    have h2' : q2 = true := by simpa using h2
    subst h2'
    have he : folE T D n p = 0 := Classical.byContradiction (ff hq1)
    have hF := fol_of he
    have hex : exB T [] n p 0 l = true := by unfold exactB at hq2; rw [if_pos (folB he)] at hq2; exact hq2
    have hX : ckE T D l n p = noDeg T n l := by
      unfold ckE
      rw [if_pos he, ck_iff hF.bare l 0 (Nat.zero_le _), hex, Bool.true_and]
      rfl
    rw [hX]
    have hen : (endsL T n l).2 = 0 := ((ex_iff hF.bare l 0 (Nat.zero_le _)).1 hex).1
    have heE : endsE T l n = 0 := by unfold endsE; rw [if_neg (by rw [hF.valid]; simp), if_neg (by rw [hF.node]; simp)]; exact hen
    have hse := sends_can T l n hl
    rw [heE] at hse
    have hel := ends_len l n hen
    clear hc hq1 hq2
    refine W_skip ?_
    refine W_cs (.a 3 rfl <| .c rfl (hse) rfl <| .a 5 rfl <| .k [2, 3, 11] rfl) ?_
    refine W_seq ?_
    refine W_cs (.a 3 rfl <| .k [3, 11, 37, 38, 39] rfl) ?_
    refine W_block ?_
    refine W_k [3, 11, 37, 38, 39] rfl ?_
    refine W_loop (fun r st => ∃ (k : Nat) (x : Int), k ≤ l.length ∧ r = l.length - k ∧ (endsL T x (l.drop k)).2 = 0 ∧ (endsL T n l).1.drop k = (endsL T x (l.drop k)).1 ∧ noDeg T n l = noDeg T x (l.drop k) ∧ (k = 0 → n = x) ∧ (0 < k → (endsL T n l).1.getD (k - 1) 0 = x) ∧ st = ⟨[(3, num n), (11, intsV (endsL T n l).1), (37, segsV l), (38, num l.length), (39, num k)], []⟩) l.length ⟨0, n, by omega, by omega, hen, rfl, rfl, fun _ => rfl, fun h => by omega, rfl⟩ ?_
    rintro r st ⟨k, x, hk, rfl, he1, he2, he3, hx0, hx1, rfl⟩
    refine W_cs (.a 1 rfl <| .k [3, 11, 37, 38, 39, 40] rfl) ?_
    refine W_seq ?_
    refine W_cond rfl (fun h1 => ?_) (fun h1 => ?_)
    · have hlt : k < l.length := by have := tt h1; omega
      obtain ⟨s, hs, hdr⟩ := segs_cons l k hlt
      rw [hdr] at he1 he2 he3
      obtain ⟨g1, g2, g3⟩ := ends_cons he1
      rw [g3, drop_cons _ k (by omega)] at he2
      have e2 := (List.cons.inj he2).1
      have e3 := (List.cons.inj he2).2
      simp only [noDeg] at he3
      obtain ⟨c1, hc1⟩ : ∃ q, decide (s.kind = 1) = q := ⟨_, rfl⟩
      refine W_skip ?_
      refine W_seq ?_
      refine W_block ?_
      refine W_rs ?_
      refine WR_a 1 rfl <| WR_v (y_ix ((k * 2)) rfl) rfl <| WR_v (y_la rfl (segs_drop l k s hs) rfl) rfl <| WR_a 3 rfl <| WR_k [3, 11, 13, 14, 37, 38, 39] rfl ?_
      refine W_cs (.a 2 rfl <| .k [3, 11, 13, 14, 15, 37, 38, 39] rfl) ?_
      refine W_seq ?_
      refine W_cs (.a 2 rfl <| .k [3, 11, 13, 14, 15, 37, 38, 39, 46] rfl) ?_
      refine W_cond rfl (fun h2 => ?_) (fun h2 => ?_)
      · have hk0 : 0 < k := by have := tt h2; omega
        have hxx := hx1 hk0
        have hbx : x = x := rfl
        obtain ⟨c2, hc2⟩ : ∃ q, decide (s.num = x) = q := ⟨_, rfl⟩
        refine W_chain (.a 2 rfl <| .v (y_ar rfl (hc := (show (k : Int) - 1 = ((k - 1 : Nat) : Int) by omega))) rfl <| .v (y_ix ((k - 1)) rfl) rfl <| .v (y_ld rfl ((ints_get _ (k - 1) (by omega)).trans (by rw [hxx]))) rfl <| .a 1 rfl <| .k [3, 11, 14, 15, 37, 38, 39] rfl) ?_
        refine W_csK 60 (.raw (.bool (c1 && c2))) [3, 11, 37, 38, 39] rfl ?_ ?_
        · refine .a 2 rfl <| .v (y_q rfl (hc1)) rfl <| .a 1 rfl <| ?_
          cases c1
          · exact .a 5 rfl <| .k [60, 3, 11, 37, 38, 39] rfl
          · exact .a 3 rfl <| .v (y_q rfl (hc2)) rfl <| .a 1 rfl <| .k [60, 3, 11, 37, 38, 39] rfl
        refine W_cond rfl (fun h3 => ?_) (fun h3 => ?_)
        · have hbad : s.kind = 1 ∧ s.num = x := by
            simp only [Bool.and_eq_true] at h3
            obtain ⟨rfl, rfl⟩ := h3
            exact ⟨tt hc1, (tt hc2).trans hbx⟩
          rw [if_pos hbad] at he3
          refine W_cs (.a 1 rfl <| .k [10] rfl) ?_
          refine W_ret ?_
          exact ⟨_, _, ResL.of rfl, Pur.pure, by rw [he3]; rfl⟩
        · have hok : ¬ (s.kind = 1 ∧ s.num = x) := by
            rintro ⟨e1, e2⟩
            rw [decide_eq_true e1] at hc1
            rw [decide_eq_true (e2.trans hbx.symm)] at hc2
            subst hc1
            subst hc2
            cases h3
          rw [if_neg hok] at he3
          refine W_skip ?_
          refine W_ren [] (.c 3 <| .c 11 <| .c 37 <| .c 38 <| .c 39 <| .nil) .nil rfl rfl ?_
          refine W_chain (.v (y_ar rfl) rfl <| .a 1 rfl <| .k [3, 11, 37, 38, 39] rfl) ?_
          exact ⟨l.length - (k + 1), by omega, k + 1, (endS T s x).1, by omega, rfl, g2, e3, he3, fun h => by omega, fun _ => e2, rfl⟩
      · have hbx : n = x := hx0 (by have := ff h2; omega)
        obtain ⟨c2, hc2⟩ : ∃ q, decide (s.num = n) = q := ⟨_, rfl⟩
        refine W_skip ?_
        refine W_csK 60 (.raw (.bool (c1 && c2))) [3, 11, 37, 38, 39] rfl ?_ ?_
        · refine .a 2 rfl <| .v (y_q rfl (hc1)) rfl <| .a 1 rfl <| ?_
          cases c1
          · exact .a 5 rfl <| .k [60, 3, 11, 37, 38, 39] rfl
          · exact .a 3 rfl <| .v (y_q rfl (hc2)) rfl <| .a 1 rfl <| .k [60, 3, 11, 37, 38, 39] rfl
        refine W_cond rfl (fun h3 => ?_) (fun h3 => ?_)
        · have hbad : s.kind = 1 ∧ s.num = x := by
            simp only [Bool.and_eq_true] at h3
            obtain ⟨rfl, rfl⟩ := h3
            exact ⟨tt hc1, (tt hc2).trans hbx⟩
          rw [if_pos hbad] at he3
          refine W_cs (.a 1 rfl <| .k [10] rfl) ?_
          refine W_ret ?_
          exact ⟨_, _, ResL.of rfl, Pur.pure, by rw [he3]; rfl⟩
        · have hok : ¬ (s.kind = 1 ∧ s.num = x) := by
            rintro ⟨e1, e2⟩
            rw [decide_eq_true e1] at hc1
            rw [decide_eq_true (e2.trans hbx.symm)] at hc2
            subst hc1
            subst hc2
            cases h3
          rw [if_neg hok] at he3
          refine W_skip ?_
          refine W_ren [] (.c 3 <| .c 11 <| .c 37 <| .c 38 <| .c 39 <| .nil) .nil rfl rfl ?_
          refine W_chain (.v (y_ar rfl) rfl <| .a 1 rfl <| .k [3, 11, 37, 38, 39] rfl) ?_
          exact ⟨l.length - (k + 1), by omega, k + 1, (endS T s x).1, by omega, rfl, g2, e3, he3, fun h => by omega, fun _ => e2, rfl⟩
    · have hke : k = l.length := by have := ff h1; omega
      subst hke
      rw [List.drop_length] at he3
      simp only [noDeg] at he3
      refine W_exit ?_
      refine W_cs (.a 1 rfl <| .k [10] rfl) ?_
      refine W_ret ?_
      exact ⟨_, _, ResL.of rfl, Pur.pure, by rw [he3]; rfl⟩
theorem lst_pos {T : Topo} {D : List Bool} {n : Int} {p : List Int} (hp : 0 < p.length) : 0 < (lstL T D n p).length := by
  unfold lstL
  obtain ⟨f, hf⟩ : ∃ f, p.length = f + 1 := ⟨p.length - 1, by omega⟩
  rw [hf]
  simp only [lstF]
  rw [if_pos (by omega)]
  cases topD (covB T D n p 0) 0 p.length <;> simp
end PW
end Go.Proofs.YtkgepjiebihodaaGreat

/- The law of layer 28 on Check, walked. -/
namespace Go.Proofs.YtkgepjiebihodaaGreat
set_option linter.unusedVariables false
set_option linter.unusedSimpArgs false
namespace PW
open Go.RowKit Reg Mem Net

set_option maxRecDepth 10000 in
set_option maxHeartbeats 1000000 in
theorem lawSCheck_can (c : Wy) (l : List Seg) : Can Tryz.prog 3 [wyV c, segsV l] (· = flag true) := by
  obtain ⟨w1, hw1⟩ : ∃ q, q = true := ⟨_, rfl⟩
  have haw : Can Tryz.prog 4 [] (· = flag w1) := hw1 ▸ awake28_can
  obtain ⟨w2, hw2⟩ : ∃ q, longW c = q := ⟨_, rfl⟩
  obtain ⟨w3, hw3⟩ : ∃ q, decide ((30 : Int) < l.length) = q := ⟨_, rfl⟩
  refine can_of Tryz.func3 rfl Tryz.ntmps3 rfl ?_
  refine W_cs (.a 2 rfl <| .k [1, 2] rfl) ?_
  refine W_seq ?_
  refine W_csK 15 (.raw (.bool (((!w1) || w2) || w3))) [1, 2] rfl ?_ ?_
  · refine .c rfl (haw) rfl <| .a 2 rfl <| ?_
    cases w1
    · exact .a 8 rfl <| .k [15, 1, 2] rfl
    · refine .a 1 rfl <| .c rfl (hw2 ▸ long28_can c) rfl <| .a 2 rfl <| ?_
      cases w2
      · exact .a 2 rfl <| .v (y_q rfl (hw3)) rfl <| .a 1 rfl <| .k [15, 1, 2] rfl
      · exact .a 4 rfl <| .k [15, 1, 2] rfl
  refine W_cond rfl (fun hc => ?_) (fun hc => ?_)
  · skip
    refine W_cs (.c rfl (awake28_can) rfl <| .a 1 rfl <| .k [4] rfl) ?_
    refine W_ret ?_
    exact ⟨_, _, ResL.of rfl, Pur.pure, rfl⟩
  · obtain ⟨hc1, rfl⟩ := Bool.or_eq_false_iff.1 hc
    have hy : longW c = false := by rw [hw2]; exact (Bool.or_eq_false_iff.1 hc1).2
    obtain ⟨s1, s2, s3, s4⟩ := longW_small hy
    have hl : l.length ≤ 30 := by have := ff hw3; omega
    obtain ⟨q, hq⟩ : ∃ q, ckE c.T c.D l c.n c.p = q := ⟨_, rfl⟩
    refine W_skip ?_
    refine W_drs mixed (by kernel_rfl) (.a 9 rfl <| .v [18, 20, 21, 23, 25] (y_c rfl (hq ▸ sck_can c.T c.D l c.n c.p (by omega) (by omega) (by omega) s1)) rfl rfl <| .a 9 rfl <| .v [28, 30, 31, 33, 35] (y_c rfl (hq ▸ rck_can c.T c.D l c.n c.p (by omega) s1 (by omega))) rfl rfl <| .a 2 rfl <| .k [4] rfl) ?_
    refine W_ret ?_
    exact ⟨_, _, ResL.of rfl, Pur.pure, by cases q <;> rfl⟩
end PW
end Go.Proofs.YtkgepjiebihodaaGreat

namespace Go.Proofs.YtkgepjiebihodaaGreat.stableCheck
set_option linter.unusedVariables false
set_option linter.unusedSimpArgs false
open Go.ChangeShapes Go.WideShapes Go.ChangeAt Go.RowKit
open Reg Mem PW

set_option maxRecDepth 10000 in
theorem rd_list {H : Type} {enc : TypeId × Value → H} {W : World} {base : Nat} {v : Value} {d : DataW H} {p : List MemPlace} (hv : Value.okWide Tryz.prog W .any base 29 v) (h : DataW.Trod enc Tryz.prog W 0 (fun _ => true) true 29 v d p) : ∃ l, Rep EN W v (segsV l) := by
  obtain ⟨a, len, cap, rfl⟩ := okWide_slice Tryz.underlying29 hv
  obtain ⟨fuel, hf⟩ := h
  exact rd_segs hf
set_option maxRecDepth 100000 in
theorem lifted (os : Os) (started : os.Started) (H : Type) (enc : TypeId × Value → H) :
    ReturnsInHanded {} Tryz.checked os 3 .any (Rows.stableCheckSpec.pre6 enc Tryz.prog Tryz.f3 Rows.stableCheckRow.domain false) (Rows.stableCheckSpec.post enc Tryz.prog Tryz.f3 false true false false) := by
  refine returnsInHanded_of_change (C := Tryz.checked) own started (by kernel_rfl) Tryz.func3
    (ChangeSpec.witness6 (enc := enc) (C := Tryz.checked) false ⟨#[], #[.agg #[.int .i64 0, .slice none 0 0, .slice none 0 0, .slice none 0 0, .slice none 0 0, .int .i64 0], .slice none 0 0], []⟩ 8 (by kernel_rfl) (by kernel_rfl) (by kernel_rfl) (by kernel_rfl)) ?_
  intro W base args ds gs before hval0 hW hcnd _
  have hval : ∀ (j : Nat) t v, Tryz.f3.params[j]? = some t → args[j]? = some v → Value.okWide Tryz.prog W .any base t v := hval0
  have hW' := hW
  obtain ⟨p, q, hA0, hV, rfl, hfz, hnd⟩ := hW
  have hA : DataW.TrodAll enc Tryz.prog W 0 (fun _ => true) true Tryz.f3.params.toList args.toList ds p := hA0
  rw [Tryz.params3] at hA hval
  obtain ⟨v0, vs0, d0, ds0, p0, q0, hargs, rfl, rfl, h0, r0⟩ := trodAll_cons hA
  obtain ⟨v1, vs1, d1, ds1, p1, q1, rfl, rfl, rfl, h1, r1⟩ := trodAll_cons r0
  obtain ⟨rfl, rfl, rfl⟩ := trodAll_nil r1
  obtain rfl : args = #[v0, v1] := by cases args; simp_all
  obtain ⟨rfl, rfl⟩ := trodVars_none hV
  have lt0 := lt_of h0
  obtain ⟨c, R0⟩ := rd_way (hval 0 28 v0 rfl rfl) h0
  have lt1 := lt_of h1
  obtain ⟨l, R1⟩ := rd_list (hval 1 29 v1 rfl rfl) h1
  clear hA0 hval0
  refine ((lawSCheck_can c l) (fun _ => False) W #[v0, v1] (fun _ h => h.elim) (noGlob _ W) (RepL.cons R0 (RepL.cons R1 (RepL.nil _ _)))).mono fun e W' ⟨x, he, bel, r, hr, hx⟩ => ?_
  subst hr
  cases hx
  subst he
  exact ⟨_, rfl, _, _, _, [], _, [], hW', trodAll_mk1 (shut_bool Tryz.underlying4 _), (trodAll_cons_mk (Below.trod laidOut (by kernel_rfl) (of_decide_eq_true (by kernel_rfl)) h0 bel lt0) (trodAll_cons_mk (Below.trod laidOut (by kernel_rfl) (of_decide_eq_true (by kernel_rfl)) h1 bel lt1) trodAll_mk0)), rfl, bel.frame _, fun h => by cases h⟩

theorem over : Rows.stableCheckRow.holds Tryz.pinned (OpenSpec.ofChange Rows.stableCheckSpec) :=
  OpenClaim.holds_of_wide 3 Tryz.f3 rfl rfl rfl rfl rfl rfl rfl ⟨rfl, rfl, rfl, rfl, rfl⟩ rfl rfl rfl rfl rfl (by kernel_rfl) Tryz.func3 (by kernel_rfl)
    (of_decide_eq_true (by kernel_rfl)) (by unfold Func.isWrapper; first | (rw [if_pos (by decide +kernel)]; kernel_rfl) | (rw [if_neg (by decide +kernel)]; exact ⟨rfl, rfl⟩))
    (fun os started H enc _ => lifted os started H enc)

theorem proved : Rows.StableCheckSaid := over
end Go.Proofs.YtkgepjiebihodaaGreat.stableCheck
