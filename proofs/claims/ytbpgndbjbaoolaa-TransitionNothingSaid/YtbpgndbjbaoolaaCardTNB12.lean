/- Texts of the proof, part 12. -/
import Derived.Test.YtbpgndbjbaoolaaCardTNB11
/- Listed entries, and the tables of the state Transition, as plain mathematics. -/
namespace Go.Proofs.Ytbpgndbjbaoolaa
set_option linter.unusedVariables false
set_option linter.unusedSimpArgs false
namespace PW
open Go.RowKit Reg Mem Net

/-- A list without an arc segment in front. -/
def cutL : List Seg → List Seg
  | [] => []
  | s :: l => if s.kind = 2 then l else s :: l
/-- The listed entry. -/
noncomputable def entX (T : Topo) (D : List Bool) (n d : Int) : Ent :=
  if spE T D n d = 0 ∧ n ≠ d then ⟨[(spathL T D n.toNat d.toNat).getD 0 0], true, cutL (lstL T [] n (spathL T D n.toNat d.toNat))⟩ else ⟨[], false, []⟩
/-- A path to another node. -/
structure Pth (T : Topo) (D : List Bool) (x y : Nat) (p : List Int) : Prop where
  valid : validB T = true
  fits : fitsB T D = true
  ne : x ≠ y
  hx : (x : Int) < T.nodes
  hy : (y : Int) < T.nodes
  sp : SP T D y x p
theorem pth_of {T : Topo} {D : List Bool} {n d : Int} (h : spE T D n d = 0) (hne : n ≠ d) : ∃ a b : Nat, n = (a : Int) ∧ d = (b : Int) ∧ Pth T D a b (spathL T D a b) := by
  have hf : fitsB T D = true := by
    have h' := h
    unfold spE at h'
    split at h'
    · rename_i h1; exact (nodeE_zero h1).2.1
    · rename_i h1; exact absurd h' h1
  obtain ⟨a, b, rfl, rfl, ha, hb, hv, hsp⟩ := spE_facts h
  simp only [Int.toNat_natCast] at hsp
  exact ⟨a, b, rfl, rfl, hv, hf, fun e => hne (by rw [e]), ha, hb, hsp⟩
section
variable {T : Topo} {D : List Bool} {x y : Nat} {p : List Int}
theorem Pth.pos (h : Pth T D x y p) : 0 < p.length := by
  have hsp := h.sp
  cases hsp with
  | nil => exact absurd rfl h.ne
  | cons _ _ _ => simp
theorem Pth.fol (h : Pth T D x y p) : Fol T D x p := ⟨h.valid, h.fits, nodeB_iff.2 ⟨by omega, h.hx⟩, ch_walk h.sp.ch, h.sp.ch.ups⟩
theorem Pth.zero (h : Pth T D x y p) : folE T D x p = 0 := fol_zero h.fol
theorem Pth.len (h : Pth T D x y p) : (p.length : Int) < T.nodes := h.sp.len_lt h.valid h.hy
theorem Pth.head (h : Pth T D x y p) : p.getD 0 0 ∈ nextL T D x y := by
  have hsp := h.sp
  cases hsp with
  | nil => exact absurd rfl h.ne
  | @cons n a m q h1 hm hq => exact next_of h1 ((sound_of h.valid).cost a h1.arc).1
theorem Pth.near (h : Pth T D x y p) : ∃ a : Nat, p.getD 0 0 = (a : Int) ∧ Nearer T D x y a := next_mem h.head
theorem Pth.lst (h : Pth T D x y p) : 0 < (lstL T [] x p).length ∧ (lstL T [] x p).length ≤ p.length := ⟨lst_pos h.pos, lst_len _ _⟩
theorem Pth.ck (h : Pth T D x y p) : ckE T D (lstL T [] x p) x p = true := by
  have hF := h.fol
  unfold ckE
  rw [if_pos h.zero, ck_iff hF.bare _ 0 (Nat.zero_le _), Bool.and_eq_true]
  exact ⟨ex_lst hF.bare _ 0 (Nat.zero_le _) (by omega), deg_lst hF.bare _ 0 (Nat.zero_le _)⟩
/-- How a list begins. -/
theorem lst_head {n : Int} (hp : 0 < p.length) : ∃ s l, lstL T [] n p = s :: l ∧ (s.kind = 1 ∨ s = ⟨2, p.getD 0 0⟩) := by
  unfold lstL
  obtain ⟨f, hf⟩ : ∃ f, p.length = f + 1 := ⟨p.length - 1, by omega⟩
  rw [hf]
  simp only [lstF]
  rw [if_pos (by omega)]
  cases topD (covB T [] n p 0) 0 p.length with
  | none => exact ⟨_, _, rfl, .inr rfl⟩
  | some j => exact ⟨_, _, rfl, .inl rfl⟩
theorem cut_len (l : List Seg) : (cutL l).length ≤ l.length := by
  cases l with
  | nil => simp [cutL]
  | cons s l => simp only [cutL]; split <;> simp
theorem cut_mem {l : List Seg} {s : Seg} (h : s ∈ cutL l) : s ∈ l := by
  cases l with
  | nil => cases h
  | cons a l => simp only [cutL] at h; split at h <;> simp_all
theorem lst_ok (hF : Fol T D x p) : ∀ (f i : Nat), ∀ s ∈ lstF T [] x p f i, segB T s = true
  | 0, i, s, hs => by simp [lstF] at hs
  | f + 1, i, s, hs => by
    simp only [lstF] at hs
    split at hs
    · rename_i hi
      cases ht : topD (covB T [] x p i) i p.length with
      | none =>
        rw [ht] at hs
        simp only [List.mem_cons] at hs
        rcases hs with rfl | hs
        · unfold segB; simp only [if_neg (show ¬ (2 : Int) = 1 by decide), if_pos rfl]; exact hF.arcs _ (getD_mem hi)
        · exact lst_ok hF f (i + 1) s hs
      | some j =>
        rw [ht] at hs
        simp only [List.mem_cons] at hs
        obtain ⟨h1, h2, h3, h4⟩ := topD_is _ _ ht
        rcases hs with rfl | hs
        · obtain ⟨u, hu, huN⟩ := end_node hF.valid hF.node hF.arcs j h2
          unfold segB; simp only [if_pos rfl]; rw [hu]; exact nodeB_iff.2 ⟨by omega, huN⟩
        · exact lst_ok hF f j s hs
    · cases hs
theorem Pth.whole (h : Pth T D x y p) : ckE T D (cutL (lstL T [] x p)) x p = true ∨ ckE T D (⟨2, p.getD 0 0⟩ :: cutL (lstL T [] x p)) x p = true := by
  obtain ⟨s, l, hl, hs⟩ := lst_head (T := T) (n := (x : Int)) h.pos
  have hc := h.ck
  rw [hl] at hc ⊢
  rcases hs with hs | rfl
  · left
    simp only [cutL]
    rw [if_neg (by omega)]
    exact hc
  · right
    exact hc
end
theorem ent_yes {T : Topo} {D : List Bool} {x y : Nat} (h : Pth T D x y (spathL T D x y)) : entX T D x y = ⟨[(spathL T D x y).getD 0 0], true, cutL (lstL T [] x (spathL T D x y))⟩ := by
  unfold entX
  rw [if_pos]
  · simp only [Int.toNat_natCast]
  · refine ⟨?_, fun e => h.ne (by omega)⟩
    rw [spE_zero h.valid h.fits h.hx h.hy, if_neg]
    have := (h.sp.cost h.valid h.hy).2
    omega
theorem ent_no {T : Topo} {D : List Bool} {n d : Int} (h : ¬ (spE T D n d = 0 ∧ n ≠ d)) : entX T D n d = ⟨[], false, []⟩ := if_neg h
theorem ent_cases (T : Topo) (D : List Bool) (n d : Int) : (entX T D n d = ⟨[], false, []⟩ ∧ ¬ (spE T D n d = 0 ∧ n ≠ d)) ∨ ∃ a b : Nat, n = (a : Int) ∧ d = (b : Int) ∧ Pth T D a b (spathL T D a b) ∧ entX T D n d = ⟨[(spathL T D a b).getD 0 0], true, cutL (lstL T [] a (spathL T D a b))⟩ := by
  by_cases h : spE T D n d = 0 ∧ n ≠ d
  · obtain ⟨a, b, rfl, rfl, hp⟩ := pth_of h.1 h.2
    exact .inr ⟨a, b, rfl, rfl, hp, ent_yes hp⟩
  · exact .inl ⟨ent_no h, h⟩
theorem ent_push (T : Topo) (D : List Bool) (n d : Int) (h12 : T.nodes ≤ 12) : (entX T D n d).push.length ≤ 32 := by
  rcases ent_cases T D n d with ⟨h, _⟩ | ⟨a, b, rfl, rfl, hp, h⟩
  · rw [h]; simp
  · rw [h]
    have := cut_len (lstL T [] a (spathL T D a b))
    have := hp.lst.2
    have := hp.len
    show (cutL _).length ≤ 32
    omega
theorem ent_ok (T : Topo) (D : List Bool) (n d : Int) (h12 : T.nodes ≤ 12) : entOK T n d (entX T D n d) = true := by
  have hpl := ent_push T D n d h12
  rcases ent_cases T D n d with ⟨h, _⟩ | ⟨a, b, rfl, rfl, hp, h⟩
  · rw [h]
    unfold entOK
    have : leaveB T n [] = true := decide_eq_true fun i hi => by simp at hi
    simp only [this]
    simp
  · rw [h] at hpl ⊢
    obtain ⟨k, hk, hn⟩ := hp.near
    have h1 : leaveB T (a : Int) [(spathL T D a b).getD 0 0] = true := leave_of (by simp) fun c hc => by
      simp only [List.mem_singleton] at hc
      subst hc
      rw [hk]
      exact ⟨arcB_iff.2 ⟨by omega, by have := hn.arc; omega⟩, by rw [Int.toNat_natCast]; exact hn.tail⟩
    have h2 : decide (((b : Nat) : Int) = (a : Int)) = false := decide_eq_false (by have := hp.ne; omega)
    have h3 : (cutL (lstL T [] a (spathL T D a b))).all (segB T) = true := List.all_eq_true.2 fun s hs => lst_ok hp.fol _ 0 s (cut_mem hs)
    unfold entOK
    simp only [h1, h2, h3, if_true]
    simp only [Bool.true_and, Bool.false_and, Bool.not_false, Bool.and_true, Bool.and_eq_true, decide_eq_true_eq]
    exact ⟨rfl, by have : (cutL (lstL T [] a (spathL T D a b))).length ≤ 32 := hpl; omega⟩
/-- The table of the state Transition. -/
noncomputable def trnL (T : Topo) (D : List Bool) (n : Int) (k : Nat) : List Ent := (List.range k).map fun (d : Nat) => entX T D n (d : Int)
theorem trnL_step (T : Topo) (D : List Bool) (n : Int) (k : Nat) : trnL T D n (k + 1) = trnL T D n k ++ [entX T D n (k : Int)] := by simp [trnL, List.range_succ]
theorem trnL_len (T : Topo) (D : List Bool) (n : Int) (k : Nat) : (trnL T D n k).length = k := by simp [trnL]
theorem trnL_get {T : Topo} {D : List Bool} {n : Int} {k d : Nat} (h : d < k) : (trnL T D n k)[d]? = some (entX T D n (d : Int)) := by simp [trnL, h]
theorem toL_get {T : Topo} {D : List Bool} {n k d : Nat} (h : d < k) : (toL T D n k)[d]? = some ⟨nextL T D n d, false, []⟩ := by simp [toL, h]
noncomputable def trnT (T : Topo) (D : List Bool) (n : Nat) : Tab := ⟨n, trnL T D n T.nodes.toNat, downL D (outL T n)⟩
theorem trn_valid {T : Topo} {D : List Bool} (hv : validB T = true) (h12 : T.nodes ≤ 12) {n : Nat} (hn : (n : Int) < T.nodes) : tabOK T (trnT T D n) = true := by
  unfold tabOK trnT
  have h1 : nodeB T (n : Int) = true := nodeB_iff.2 ⟨by omega, hn⟩
  have hN := (sound_of hv).nodes
  have h2 : decide (((trnL T D n T.nodes.toNat).length : Int) = T.nodes) = true := decide_eq_true (by rw [trnL_len]; omega)
  have h3 : leaveB T n (downL D (outL T n)) = true := leave_out T n _
  have h4 : entsOK T n (trnL T D n T.nodes.toNat) = true := entsOK_all fun d e he => by
    have hd : d < T.nodes.toNat := by
      have := (List.getElem?_eq_some_iff.1 he).1
      rwa [trnL_len] at this
    rw [trnL_get hd] at he
    cases he
    exact ent_ok T D n d h12
  rw [hv, h1, h2, h3, h4]
  rfl
/-- The first arc of a listed entry is a next arc. -/
theorem ent_arcs {T : Topo} {D : List Bool} {n d : Nat} (hv : validB T = true) (hf : fitsB T D = true) (hn : (n : Int) < T.nodes) (hd : (d : Int) < T.nodes) : ((entX T D n d).arcs = [] ∧ nextL T D n d = []) ∨ ∃ a l, (entX T D n d).arcs = [a] ∧ nextL T D n d = a :: l := by
  rcases ent_cases T D n d with ⟨h, h'⟩ | ⟨a, b, ha, hb, hp, h⟩
  · refine .inl ⟨by rw [h], ?_⟩
    by_cases e : n = d
    · subst e; exact next_self T D n
    · refine next_unr ?_
      rw [spE_zero hv hf hn hd] at h'
      by_cases h0 : dN T D d n < 0
      · exact h0
      · rw [if_neg h0] at h'; exact absurd ⟨rfl, fun e' => e (by omega)⟩ h'
  · have : a = n := by omega
    subst this
    have : b = d := by omega
    subst this
    right
    rw [h]
    have hm := hp.head
    have hd0 := (hp.sp.cost hv hd).2
    cases hx : nextL T D a b with
    | nil => rw [hx] at hm; cases hm
    | cons c l =>
      refine ⟨_, l, rfl, ?_⟩
      have hpos : 0 < dN T D b a := by
        obtain ⟨k, hk, hkn⟩ := hp.near
        obtain ⟨m, hm', _⟩ := head_nat hv hkn.arc
        have := hkn.dN hm'
        have := (sound_of hv).cost k hkn.arc
        omega
      have : (spathL T D a b).getD 0 0 = c := by
        unfold spathL
        obtain ⟨f, hf⟩ : ∃ f, (dN T D b a).toNat = f + 1 := ⟨(dN T D b a).toNat - 1, by omega⟩
        rw [hf, first_step hx]
        rfl
      rw [this]
/-- A stable node segment: the listed entry towards its end. -/
theorem Stab.same {T : Topo} {D : List Bool} {x y : Nat} {p : List Int} (h : Stab T D x y p) : spathL T D x y = p ∧ Pth T D x y p ∧ lstL T [] x p = [⟨1, (y : Int)⟩] := by
  have hv := h.valid
  have hch := h.sp.ch.mask h.up
  have h1 := hch.le hv h.hy
  have h0 := h.sp.cost hv h.hy
  have hq := spath_sp (D := D) hv h.hy h.hx h1.1
  have hqc := hq.cost hv h.hy
  have hqb := hq.ch.bare
  have h2 := hqb.le hv h.hy
  have hq' := hqb.sp hv h.hy (by omega)
  have he : spathL T D x y = p := hq'.unique hv h.hy h.sp h.cnt
  have hP : Pth T D x y p := ⟨hv, h.fits, h.ne, h.hx, h.hy, by rw [← he]; exact hq⟩
  refine ⟨he, hP, ?_⟩
  unfold lstL
  obtain ⟨f, hf⟩ : ∃ f, p.length = f + 1 := ⟨p.length - 1, by have := h.pos; omega⟩
  rw [hf, lst_some (j := p.length) h.pos h.pos (Nat.le_refl _) h.cov (fun k h3 h4 => by omega), lst_end _ _ (Nat.le_refl _), List.take_length, h.sp.ch.fin]
theorem Stab.ent {T : Topo} {D : List Bool} {x y : Nat} {p : List Int} (h : Stab T D x y p) : nextL T [] x y = [p.getD 0 0] ∧ nextL T D x y = [p.getD 0 0] ∧ entX T D x y = ⟨[p.getD 0 0], true, [⟨1, (y : Int)⟩]⟩ := by
  obtain ⟨h1, h2, h3⟩ := h.same
  obtain ⟨h4, h5, _⟩ := h.next (i := 0) h.pos (u := x) rfl
  refine ⟨h4, h5, ?_⟩
  rw [← h1] at h2
  rw [ent_yes h2, h1, h3]
  rfl
/-- Masks that say the same. -/
theorem dist_mask {T : Topo} {D D' : List Bool} (hv : validB T = true) {d : Nat} (hd : (d : Int) < T.nodes) (dir : Bool) (hD : ∀ a, downN D a = downN D' a) : distL T D d dir = distL T D' d dir := by
  have hI := distL_is (sound_of hv) D' dir hd
  refine distL_eq (sound_of hv) ⟨hI.len, hI.root, hI.ge, fun a ha hw => hI.closed a ha ?_, fun x hx h0 => ?_⟩
  · exact ⟨(hD a).symm.trans hw.1, hw.2⟩
  · rcases hI.supp x hx h0 with h | ⟨a, h1, h2, h3, h4⟩
    · exact .inl h
    · exact .inr ⟨a, h1, h2, ⟨(hD a).trans h3.1, h3.2⟩, h4⟩
theorem next_mask {T : Topo} {D D' : List Bool} (hv : validB T = true) {n d : Nat} (hd : (d : Int) < T.nodes) (hD : ∀ a, downN D a = downN D' a) : nextL T D n d = nextL T D' n d := by
  unfold nextL
  rw [dist_mask hv hd false hD]
  congr 1
  unfold passL
  refine List.filter_congr fun a _ => ?_
  unfold passB
  rw [hD]
theorem routes_mask {T : Topo} {D D' : List Bool} (hv : validB T = true) (n : Nat) (hD : ∀ a, downN D a = downN D' a) : routesT T D n = routesT T D' n := by
  have hN := (sound_of hv).nodes
  unfold routesT
  have h1 : toL T D n T.nodes.toNat = toL T D' n T.nodes.toNat := by
    unfold toL
    refine List.map_congr_left fun d hd => ?_
    have := List.mem_range.1 hd
    rw [next_mask hv (by omega) hD]
  have h2 : downL D (outL T n) = downL D' (outL T n) := by
    unfold downL
    exact List.filter_congr fun a _ => hD _
  rw [h1, h2]
end PW
end Go.Proofs.Ytbpgndbjbaoolaa

/- Package repair and its reference: Entry. -/
namespace Go.Proofs.Ytbpgndbjbaoolaa
set_option linter.unusedVariables false
set_option linter.unusedSimpArgs false
namespace PW
open Go.RowKit Reg Mem Net Rng

section
variable {P : Program} {σ : Sto} {t : Tms} {o : Oper} {N L : Nat} {ops : Array Oper}
/-- Whether an empty slice is nil: either may be. -/
theorem WR_nilq {rest : List Oper} {K : St → Prop} {d : Nat} {x y : Operand} {ty tz : TypeId} {xs : List PV} (ho : o.op = .binOp .eql ty x y tz) (hk : slK1 P ty = true) (hx : evalO t x = some (.slice 0 xs)) (hy : evalO t y = some (.raw (.slice none 0 0))) (hd : o.dst = some d) (hw : wantB ops t o = some true) (hN : Nat.blt d N = true)
    (h : ∀ b, WR P N L ops rest ⟨(d, .raw (.bool b)) :: t, σ⟩ K) : WR P N L ops (o :: rest) ⟨t, σ⟩ K := by
  refine WR_step hw fun F base E a w hs next Q hn => ?_
  obtain ⟨e, hu⟩ := slK1_spec hk
  have h1 := evalO_rep (isEval a) hs.tmp hx
  have h2 := evalO_rep (isEval a) hs.tmp hy
  generalize hz : a.eval x = z at h1
  generalize hz' : a.eval y = z' at h2
  cases h2
  obtain ⟨p, c, rfl, _, _⟩ := rep_cap h1
  have hrun := Lib.run_eql_slice_nil w ty e p 0 c 0 0 hu
  have hg : ∀ a n c b m d, (eqGuard .eql ty x y (.slice a n c) (.slice b m d)).run P w = .ok () w := fun _ _ _ _ _ _ => rfl
  have hU : StepUpon P w (fun v w' => Rep E w' v (.raw (.bool p.isNone))) ((execOp a.eval o).run P w) := by
    simp only [execOp, ho, hz, hz', Sem.run_bind, Sem.run_pure, Result.andThen_ok, hg, hrun]
    exact upon_val (.raw _)
  refine upon_of hU fun v w' hE hv => hn _ _ _ E (h p.isNone) ?_ (.ext hE) (Below.ofExt hE hs.sat.bl)
  rw [hd]
  exact hs.put (hs.sat.ext hE) (.ext hE) hN hv
/-- A slice with a bound on its capacity. -/
theorem y_sliceMax {ty e s n h : Nat} {x hi' mx : Operand} {xs : List PV} {k k' : IntKind} {hii mi : Int} (ho : o.op = .slice ty x none (some hi') (some mx)) (he : elK P ty = some (e, s)) (hx : evalO t x = some (.slice n xs)) (hhi : evalO t hi' = some (.raw (.int k hii))) (hmx : evalO t mx = some (.raw (.int k' mi))) (hxl : xs.length = n * s) (hli : hii = (h : Int)) (hmi : mi = (h : Int)) (hl : h ≤ n) :
    Yield P σ t o (.slice h (xs.take (h * s))) := by
  intro F base E ρ w hρ hS hT
  have h1 := evalO_rep hρ hT hx
  have h2 := evalO_rep hρ hT hhi
  have h3 := evalO_rep hρ hT hmx
  obtain ⟨hu, i, hi, hs⟩ := elK_spec he
  generalize hz : ρ x = v at h1
  generalize hz' : ρ hi' = u at h2
  generalize hz2 : ρ mx = u2 at h3
  cases h2
  cases h3
  subst hli
  subst hmi
  obtain ⟨a, c, rfl, hc1, hc2⟩ := rep_cap h1
  have hR := rep_sliced (s := s) (l := 0) h1 hxl (Nat.zero_le _) hl (Nat.le_refl h) (Nat.le_trans hl hc1)
  have hrun : (Instr.sliceAt ty (.slice a n c) none (some (.int k (h : Int))) (some (.int k' (h : Int)))).run P w = .ok (.slice (if h = 0 then a else a.map (·.add (0 * s))) (h - 0) (h - 0)) w := by
    have : h ≤ c := Nat.le_trans hl hc1
    simp [Instr.sliceAt, run_underlying hu, Instr.slice, Instr.sliceBounds, Instr.sliceBound, asIntOf, this, sizeOf, typeInfo, hi]
  simp only [execOp, ho, hz, hz', hz2, Option.map_some, Option.map_none, Sem.run_bind, hrun, Result.andThen_ok, Sem.run_pure]
  refine upon_val ?_
  simpa using hR
end
theorem slS : slK1 Try.prog 48 = true := by kernel_rfl
set_option maxRecDepth 10000 in
set_option maxHeartbeats 1000000 in
theorem sclone_can (l : List Seg) (hl : l.length ≤ 1000) : Can Try.prog 32 [segsV l] (· = segsV l) := by
  refine can_of Try.func32 rfl Try.ntmps32 rfl ?_
  refine W_cs (.a 1 rfl <| .k [0] rfl) ?_
  refine W_seq ?_
  refine W_rs (WR.mono (K := fun s => ∃ b : Bool, s = ⟨[(0, segsV l), (4, .raw (.bool b))], []⟩ ∧ (b = true → l = [])) ?_ ?_)
  · cases l with
    | nil => exact WR_a 1 rfl <| WR_nilq rfl slS rfl rfl rfl rfl rfl fun b => WR_k [0, 4] rfl ⟨b, rfl, fun _ => rfl⟩
    | cons a l => exact WR_a 1 rfl <| WR_val (y_notNil rfl slS rfl rfl (Nat.succ_pos _)) rfl rfl rfl <| WR_k [0, 4] rfl ⟨_, rfl, fun h => by cases h⟩
  rintro _ ⟨b, rfl, hb⟩
  refine W_cond rfl (fun hc => ?_) (fun hc => ?_)
  · have : l = [] := hb hc
    subst this
    refine W_cs (.a 1 rfl <| .k [2] rfl) ?_
    refine W_ret ?_
    exact ⟨_, _, ResL.of rfl, Pur.nils, rfl⟩
  · refine W_skip ?_
    refine W_rs ?_
    refine WR_l (l_emptySlice rfl (fok.sl.get rfl)) rfl <| WR_a 1 rfl <| WR_l (l_append rfl (fok.rk.get rfl) rfl rfl rfl (segsP_len l) (by unfold maxLen; omega)) rfl <| WR_a 1 rfl <| WR_k [2] rfl ?_
    refine W_ret ?_
    refine ⟨_, _, ResL.of rfl, Pur.ownL (xs := segsP l) (ys := segsP l) rfl PurL.pure, ?_⟩
    rw [Nat.zero_add]; rfl
theorem y_segTail {P : Program} {σ : Sto} {t : Tms} {o : Oper} {ty : TypeId} {x lo : Operand} {s : Seg} {l : List Seg} {k : IntKind} (ho : o.op = .slice ty x (some lo) none none) (he : elK P ty = some (60, 2)) (hx : evalO t x = some (.slice (s :: l).length (segsP (s :: l)))) (hlo : evalO t lo = some (.raw (.int k 1))) : Yield P σ t o (.slice l.length (segsP l)) := by
  have h := y_sliceLo (l := 1) (σ := σ) ho he hx hlo (segsP_len _) rfl (by simp)
  have e : ((segsP (s :: l)).drop (1 * 2)).take (((s :: l).length - 1) * 2) = segsP l := by
    show (segsP l).take _ = _
    refine List.take_of_length_le ?_
    rw [segsP_len]; simp
  rw [e] at h
  exact h
theorem ent_err {T : Topo} {D : List Bool} {n d : Int} (h : spE T D n d ≠ 0) : entX T D n d = ⟨[], false, []⟩ := ent_no fun hh => h hh.1
theorem sp_node {T : Topo} {D : List Bool} {n d : Int} (h : spE T D n d ≠ 0) (h' : spE T D n d ≠ 11) : nodeE T D n d = spE T D n d := by
  unfold spE at *
  split at h <;> simp_all
theorem sp_err {T : Topo} {D : List Bool} {n d : Int} (h : spE T D n d = 0 ∨ spE T D n d = 11) : nodeE T D n d = 0 := by
  unfold spE at h
  split at h
  · assumption
  · rename_i hh
    rcases h with h | h
    · exact h
    · exfalso
      unfold nodeE chkE at h
      split at h <;> (try split at h) <;> (try split at h) <;> omega
def entE (e : Int) (x : Ent) : PV := .tuple [entV x, num e]
set_option maxRecDepth 10000 in
set_option maxHeartbeats 1000000 in
theorem pent_can (T : Topo) (D : List Bool) (n d : Int) (hlk : T.links.length ≤ 256) (h12 : T.nodes ≤ 12) : Can Try.prog 20 [topoV T, boolsV D, num n, num d] (· = entE (nodeE T D n d) (entX T D n d)) := by
  obtain ⟨c1, hc1⟩ : ∃ q, decide (spE T D n d ≠ 0) = q := ⟨_, rfl⟩
  obtain ⟨c2, hc2⟩ : ∃ q, decide (spE T D n d ≠ 11) = q := ⟨_, rfl⟩
  refine can_of Try.func20 rfl Try.ntmps20 rfl ?_
  refine W_rs ?_
  refine WR_a 3 rfl <| WR_k [1, 2, 3, 4, 8] rfl ?_
  refine W_cs (.a 4 rfl <| .c rfl (pcpath_can T D n d) rfl <| .a 5 rfl <| .k [1, 2, 4, 8, 10, 11] rfl) ?_
  refine W_seq ?_
  refine W_csK 27 (.raw (.bool (c1 && c2))) [1, 2, 4, 8, 10, 11] rfl ?_ ?_
  · refine .a 1 rfl <| .v (y_q rfl (hc1)) rfl <| .a 1 rfl <| ?_
    cases c1
    · exact .a 3 rfl <| .k [27, 1, 2, 4, 8, 10, 11] rfl
    · exact .a 1 rfl <| .v (y_q rfl (hc2)) rfl <| .a 1 rfl <| .k [27, 1, 2, 4, 8, 10, 11] rfl
  refine W_cond rfl (fun h1 => ?_) (fun h1 => ?_)
  · obtain ⟨rfl, rfl⟩ := Bool.and_eq_true_iff.1 h1
    have e1 := tt hc1
    rw [ent_err e1, sp_node e1 (tt hc2)]
    refine W_rs ?_
    refine WR_a 4 rfl <| WR_k [8, 9] rfl ?_
    refine W_ret ?_
    exact ⟨_, _, ResL.of rfl, Pur.tupleL (PurL.cons (Pur.aggL (PurL.cons Pur.nils <| PurL.cons Pur.pure <| PurL.cons Pur.nils PurL.nil)) (PurL.cons Pur.pure PurL.nil)), rfl⟩
  · have e2 : spE T D n d = 0 ∨ spE T D n d = 11 := by
      rcases Bool.and_eq_false_iff.1 h1 with h | h
      · subst h; exact .inl (Classical.byContradiction (ff hc1))
      · subst h; exact .inr (Classical.byContradiction (ff hc2))
    rw [sp_err e2]
    clear h1 hc1 hc2
    obtain ⟨P, hP⟩ : ∃ P, (if spE T D n d = 0 then spathL T D n.toNat d.toNat else []) = P := ⟨_, rfl⟩
    rw [hP]
    refine W_skip ?_
    refine W_seq ?_
    refine W_cs (.a 3 rfl <| .k [1, 2, 4, 8, 10, 32] rfl) ?_
    refine W_cond rfl (fun h2 => ?_) (fun h2 => ?_)
    · have hno : ¬ (spE T D n d = 0 ∧ n ≠ d) := by
        rintro ⟨h3, h4⟩
        rw [if_pos h3] at hP
        obtain ⟨a, b, rfl, rfl, hp⟩ := pth_of h3 h4
        have := tt h2
        have := hp.pos
        rw [← hP] at *
        simp only [Int.toNat_natCast] at *
        omega
      rw [ent_no hno]
      refine W_rs ?_
      refine WR_a 3 rfl <| WR_k [8, 9] rfl ?_
      refine W_ret ?_
      exact ⟨_, _, ResL.of rfl, Pur.tupleL (PurL.cons (Pur.aggL (PurL.cons Pur.nils <| PurL.cons Pur.pure <| PurL.cons Pur.nils PurL.nil)) (PurL.cons Pur.pure PurL.nil)), rfl⟩
    · obtain ⟨p0, q, rfl⟩ : ∃ p0 q, P = p0 :: q := by
        cases P with
        | nil => exact absurd rfl (ff h2)
        | cons p0 q => exact ⟨_, _, rfl⟩
      have h3 : spE T D n d = 0 := by
        rcases e2 with h | h
        · exact h
        · rw [h] at hP; simp at hP
      rw [if_pos h3] at hP
      have h4 : n ≠ d := by
        rintro rfl
        obtain ⟨a, b, ha, hb, _, _, hv', hsp⟩ := spE_facts h3
        have : a = b := by omega
        subst this
        have := hsp.self
        rw [this] at hP
        cases hP
      obtain ⟨a, b, rfl, rfl, hp⟩ := pth_of h3 h4
      simp only [Int.toNat_natCast] at hP
      have hent := ent_yes hp
      rw [hP] at hp hent
      have hpl := hp.len
      obtain ⟨s, l, hl, hs⟩ := lst_head (T := T) (n := (a : Int)) hp.pos
      have hll := hp.lst.2
      rw [hl] at hent hll
      have hsl := slist_can T D (p0 :: q) a (by simp only [List.length_cons] at hpl ⊢; omega) hlk h12
      rw [hl] at hsl
      unfold segsE at hsl
      rw [hp.zero, if_pos rfl] at hsl
      clear h2 e2 hl hs hp hP h3 h4
      simp only [List.length_cons] at hll hpl
      rw [show (p0 :: q).getD 0 0 = p0 from rfl] at hent
      refine W_skip ?_
      refine W_cs (.a 4 rfl <| .c rfl (hsl) rfl <| .a 5 rfl <| .k [8, 10, 12] rfl) ?_
      refine W_seq ?_
      refine W_cs (.a 1 rfl <| .v (y_ix (0) rfl (by omega) (by simp only [List.length_cons]; omega)) rfl <| .a 1 rfl <| .v (y_ld rfl ((show (segsP (s :: l))[0]? = some (num s.kind) from rfl))) rfl <| .a 1 rfl <| .k [8, 10, 12, 46] rfl) ?_
      refine W_cond rfl (fun h5 => ?_) (fun h5 => ?_)
      · have hc : cutL (s :: l) = l := if_pos (tt h5)
        rw [hc] at hent
        have hlm : l.length ≤ 32 := by omega
        refine W_chain (.a 1 rfl <| .v (y_segTail rfl (fok.el.get rfl) rfl rfl) rfl <| .a 1 rfl <| .k [8, 10, 12] rfl) ?_
        refine W_seq ?_
        refine W_cs (.a 3 rfl <| .k [8, 10, 12, 51] rfl) ?_
        refine W_cond rfl (fun h6 => ?_) (fun h6 => ?_)
        · exact absurd (tt h6) (by omega)
        · clear h6
          refine W_skip ?_
          refine W_dfs 5 8 mixed (
            .val [10] rfl (y_a rfl) rfl rfl <|
            .val [53] rfl (y_sliceMax (h := 1) rfl (fok.el.get rfl) rfl rfl rfl (show (intsP (p0 :: q)).length = _ by simp [intsP]) rfl rfl (by simp)) rfl rfl <|
            .val [12] rfl (y_a rfl) rfl rfl <|
            .val [55] rfl (y_c rfl (sclone_can _ (by omega))) rfl rfl <|
            .val [54, 56] rfl (y_a rfl) rfl rfl <|
            .nil) (by kernel_rfl) rfl rfl (keepT_sub (ks := [8, 57]) rfl) ?_
          refine WR_a 2 rfl <| WR_k [8, 9] rfl ?_
          refine W_ret ?_
          exact ⟨_, _, ResL.of rfl, Pur.tupleL (PurL.cons (Pur.aggL (PurL.cons (Pur.pure (p := intsV [p0])) <| PurL.cons Pur.pure <| PurL.cons (Pur.pure (p := segsV _)) PurL.nil)) (PurL.cons Pur.pure PurL.nil)), by rw [hent]; rfl⟩
      · have hc : cutL (s :: l) = s :: l := if_neg (ff h5)
        rw [hc] at hent
        have hlm : (s :: l).length ≤ 32 := by simp only [List.length_cons]; omega
        refine W_skip ?_
        refine W_seq ?_
        refine W_cs (.a 3 rfl <| .k [8, 10, 12, 51] rfl) ?_
        refine W_cond rfl (fun h6 => ?_) (fun h6 => ?_)
        · exact absurd (tt h6) (by omega)
        · clear h6
          refine W_skip ?_
          refine W_dfs 5 8 mixed (
            .val [10] rfl (y_a rfl) rfl rfl <|
            .val [53] rfl (y_sliceMax (h := 1) rfl (fok.el.get rfl) rfl rfl rfl (show (intsP (p0 :: q)).length = _ by simp [intsP]) rfl rfl (by simp)) rfl rfl <|
            .val [12] rfl (y_a rfl) rfl rfl <|
            .val [55] rfl (y_c rfl (sclone_can _ (by omega))) rfl rfl <|
            .val [54, 56] rfl (y_a rfl) rfl rfl <|
            .nil) (by kernel_rfl) rfl rfl (keepT_sub (ks := [8, 57]) rfl) ?_
          refine WR_a 2 rfl <| WR_k [8, 9] rfl ?_
          refine W_ret ?_
          exact ⟨_, _, ResL.of rfl, Pur.tupleL (PurL.cons (Pur.aggL (PurL.cons (Pur.pure (p := intsV [p0])) <| PurL.cons Pur.pure <| PurL.cons (Pur.pure (p := segsV _)) PurL.nil)) (PurL.cons Pur.pure PurL.nil)), by rw [hent]; rfl⟩
theorem y_intsTake {P : Program} {σ : Sto} {t : Tms} {o : Oper} {ty : TypeId} {x hi : Operand} {a : Int} {q : List Int} {k : IntKind} (ho : o.op = .slice ty x none (some hi) none) (he : elK P ty = some (3, 1)) (hx : evalO t x = some (.slice (a :: q).length (intsP (a :: q)))) (hhi : evalO t hi = some (.raw (.int k 1))) : Yield P σ t o (.slice 1 (intsP [a])) := by
  have h := y_sliceHi (h := 1) (σ := σ) ho he hx hhi (by simp [intsP]) rfl (by simp)
  exact h
end PW
end Go.Proofs.Ytbpgndbjbaoolaa

/- A call that makes blocks of its own, in a caller that has some: the frame rule of the pure walk. No program in sight. -/
namespace Go.Proofs.Ytbpgndbjbaoolaa
set_option linter.unusedVariables false
set_option linter.unusedSimpArgs false
namespace PW
open Go.RowKit Reg Mem

/-- Other numbers: k blocks lie in front. -/
inductive Up (k : Nat) : PV → PV → Prop
  | pure {p : PV} [IsPure p] : Up k p p
  | own {i j : Nat} : j = k + i → Up k (.own i) (.own j)
  | ptr {i j o : Nat} : j = k + i → Up k (.ptr i o) (.ptr j o)
  | agg {xs ys : List PV} (hl : ys.length = xs.length) (hs : ∀ (j : Nat) x y, xs[j]? = some x → ys[j]? = some y → Up k x y) : Up k (.agg xs) (.agg ys)
  | tuple {xs ys : List PV} (hl : ys.length = xs.length) (hs : ∀ (j : Nat) x y, xs[j]? = some x → ys[j]? = some y → Up k x y) : Up k (.tuple xs) (.tuple ys)
  | func {f : FuncId} {xs ys : List PV} (hl : ys.length = xs.length) (hs : ∀ (j : Nat) x y, xs[j]? = some x → ys[j]? = some y → Up k x y) : Up k (.func f xs) (.func f ys)
def UpL (k : Nat) (xs ys : List PV) : Prop := ys.length = xs.length ∧ ∀ (j : Nat) x y, xs[j]? = some x → ys[j]? = some y → Up k x y
theorem UpL.nil {k : Nat} : UpL k [] [] := ⟨rfl, fun j x y h => by simp at h⟩
theorem UpL.cons {k : Nat} {x y : PV} {xs ys : List PV} (h : Up k x y) (hs : UpL k xs ys) : UpL k (x :: xs) (y :: ys) := ⟨by simp [hs.1], fun j a b h1 h2 => by
  cases j with
  | zero => simp at h1 h2; subst h1; subst h2; exact h
  | succ j => exact hs.2 j a b (by simpa using h1) (by simpa using h2)⟩
theorem UpL.pure {k : Nat} {xs : List PV} [h : IsPureL xs] : UpL k xs xs := ⟨rfl, fun j x y h1 h2 => by
  rw [h1] at h2; cases h2
  haveI := h.out j x h1
  exact Up.pure⟩
theorem Up.aggL {k : Nat} {xs ys : List PV} (h : UpL k xs ys) : Up k (.agg xs) (.agg ys) := .agg h.1 h.2
theorem Up.tupleL {k : Nat} {xs ys : List PV} (h : UpL k xs ys) : Up k (.tuple xs) (.tuple ys) := .tuple h.1 h.2
theorem Up.funcL {k : Nat} {f : FuncId} {xs ys : List PV} (h : UpL k xs ys) : Up k (.func f xs) (.func f ys) := .func h.1 h.2
inductive BUp (k : Nat) : Blk → Blk → Prop
  | cells {ty : TypeId} {xs ys : List PV} : UpL k xs ys → BUp k (.cells ty xs) (.cells ty ys)
  | row {e s n : Nat} {xs ys : List PV} : UpL k xs ys → BUp k (.row e s n xs) (.row e s n ys)
  | mp {kv : List (Value × PV)} [IsPureL (kv.map (·.2))] : BUp k (.mp kv) (.mp kv)
def BUpL (k : Nat) (xs ys : List Blk) : Prop := ys.length = xs.length ∧ ∀ (j : Nat) x y, xs[j]? = some x → ys[j]? = some y → BUp k x y
theorem BUpL.nil {k : Nat} : BUpL k [] [] := ⟨rfl, fun j x y h => by simp at h⟩
theorem BUpL.cons {k : Nat} {x y : Blk} {xs ys : List Blk} (h : BUp k x y) (hs : BUpL k xs ys) : BUpL k (x :: xs) (y :: ys) := ⟨by simp [hs.1], fun j a b h1 h2 => by
  cases j with
  | zero => simp at h1 h2; subst h1; subst h2; exact h
  | succ j => exact hs.2 j a b (by simpa using h1) (by simpa using h2)⟩
section
variable {E E1 E2 : Env} {w : World} {k : Nat}
theorem Up.rep (hat : ∀ i, i < E1.L → E2.at_ (k + i) = E1.at_ i ∧ k + i < E2.L) (hM : ∀ b, E2.M b → E1.M b) {p q : PV} (h : Up k p q) : ∀ v, Rep E1 w v p → Rep E2 w v q := by
  induction h with
  | @pure p hp =>
    intro v h
    have := hp.out E1 E2.M w v hM h
    exact this.goes (E := EF E2.M) (E' := E2) (w := w) (w' := w) ⟨Nat.zero_le _, fun i hi => absurd hi (Nat.not_lt_zero i), fun _ _ h => h, Nat.le_refl _, fun _ _ _ => rfl⟩
  | @own i j hij =>
    intro v h
    subst hij
    cases h with
    | own _ hi _ h hs => exact .own _ (hat i hi).2 v ((hat i hi).1.trans h) hs
  | @ptr i j o hij =>
    intro v h
    subst hij
    cases h with
    | ptr _ _ b hi h => exact .ptr _ o b (hat i hi).2 (by rw [(hat i hi).1]; exact h)
  | @agg xs ys hl _ ih =>
    intro v h
    cases h with
    | agg cs _ hl' hr => exact .agg cs ys (hl'.trans hl.symm) (fun j c u h1 h2 => by
        have hj : j < xs.length := by rw [← hl]; exact (List.getElem?_eq_some_iff.1 h2).1
        exact ih j xs[j] u (by simp [hj]) h2 c (hr j c _ h1 (by simp [hj])))
  | @tuple xs ys hl _ ih =>
    intro v h
    cases h with
    | tuple cs _ hl' hr => exact .tuple cs ys (hl'.trans hl.symm) (fun j c u h1 h2 => by
        have hj : j < xs.length := by rw [← hl]; exact (List.getElem?_eq_some_iff.1 h2).1
        exact ih j xs[j] u (by simp [hj]) h2 c (hr j c _ h1 (by simp [hj])))
  | @func f xs ys hl _ ih =>
    intro v h
    cases h with
    | func _ cs _ hl' hr => exact .func f cs ys (hl'.trans hl.symm) (fun j c u h1 h2 => by
        have hj : j < xs.length := by rw [← hl]; exact (List.getElem?_eq_some_iff.1 h2).1
        exact ih j xs[j] u (by simp [hj]) h2 c (hr j c _ h1 (by simp [hj])))
theorem UpL.rep (hat : ∀ i, i < E1.L → E2.at_ (k + i) = E1.at_ i ∧ k + i < E2.L) (hM : ∀ b, E2.M b → E1.M b) {xs ys : List PV} (h : UpL k xs ys) {cs : List Value} (hs : RepL E1 w cs xs) : RepL E2 w cs ys := ⟨hs.1.trans h.1.symm, fun j c u h1 h2 => by
  have hj : j < xs.length := by rw [← h.1]; exact (List.getElem?_eq_some_iff.1 h2).1
  exact (h.2 j xs[j] u (by simp [hj]) h2).rep hat hM c (hs.2 j c _ h1 (by simp [hj]))⟩
theorem BUp.sat {base base' : Nat} (hb : base' ≤ base) (hat : ∀ i, i < E1.L → E2.at_ (k + i) = E1.at_ i ∧ k + i < E2.L) (hM : ∀ b, E2.M b → E1.M b) {v : Value} {x y : Blk} (h : BUp k x y) (hs : BlkSat base E1 w v x) : BlkSat base' E2 w v y := by
  cases h with
  | cells h1 =>
    obtain ⟨b, cs, h2, h3, h4, h5⟩ := hs
    exact ⟨b, cs, h2, by omega, h4, h1.rep hat hM h5⟩
  | row h1 =>
    obtain ⟨cs, h2, h3⟩ := hs
    refine ⟨cs, ⟨h2.1, ?_⟩, h1.rep hat hM h3⟩
    rcases h2.2 with h | ⟨g, cap, cur, a1, a2, a3⟩
    · exact .inl h
    · exact .inr ⟨g, cap, cur, a1, by omega, a3⟩
  | @mp kv hp =>
    obtain ⟨r, es, ck, h2, h3, h4, h5, h6⟩ := hs
    exact ⟨r, es, ck, h2, by omega, h4, h5, UpL.pure (k := k).rep hat hM h6⟩
end
/-- The frame rule. -/
theorem CanS.frame {P : Program} {f : FuncId} {ps : List PV} {σ : Sto} {R : PV → Sto → Prop} [IsPureL ps]
    (h : CanS P f ps [] (fun r σ1 => ∃ bs, σ1 = bs.map some ∧ ∃ r' bs', Up σ.length r r' ∧ BUpL σ.length bs bs' ∧ R r' (σ ++ bs'.map some))) : CanS P f ps σ R := fun F base E w vs hS hR => by
  refine (h E.M w.heap.size (EF E.M) w vs (Sat.start E.M w (fun b hb => hS.lt hb) hS.gl) (hR.pure (fun _ h => h))).mono ?_
  rintro e w' ⟨v, r, σ1, E1, rfl, ⟨bs, rfl, r', bs', hu, hbu, hRr⟩, hS1, hg1, hB1, hv⟩
  have hE : Ext w w' := hB1
  have hL1 : E1.L = bs.length := by rw [hS1.len]; simp
  have hlen : ((List.range bs.length).map E1.at_).length = bs'.length := by rw [List.length_map, List.length_range, hbu.1]
  have hget : ∀ (i : Nat) v, ((List.range bs.length).map E1.at_)[i]? = some v → i < bs.length ∧ v = E1.at_ i := fun i v hi => by
    have hi' : i < bs.length := by have := (List.getElem?_eq_some_iff.1 hi).1; simpa using this
    rw [List.getElem?_map, List.getElem?_range hi'] at hi
    cases hi
    exact ⟨hi', rfl⟩
  have hbk : ∀ i, i < bs.length → ∃ x, bs[i]? = some x ∧ (bs.map some)[i]? = some (some x) := fun i hi => ⟨bs[i], by simp [hi], by simp [hi]⟩
  have hat : ∀ i, i < E1.L → (E.pushAll ((List.range bs.length).map E1.at_)).at_ (σ.length + i) = E1.at_ i ∧ σ.length + i < (E.pushAll ((List.range bs.length).map E1.at_)).L := fun i hi => by
    rw [hL1] at hi
    refine ⟨?_, ?_⟩
    · simp only [Env.pushAll, hS.len]
      rw [if_neg (by omega), Nat.add_sub_cancel_left, List.getD_eq_getElem?_getD, List.getElem?_map, List.getElem?_range hi]
      rfl
    · simp only [Env.pushAll, hS.len, List.length_map, List.length_range]; omega
  have hM : ∀ b, (E.pushAll ((List.range bs.length).map E1.at_)).M b → E1.M b := fun b hb => by
    rcases hb with hb | ⟨v, hv1, hv2⟩
    · exact (hS1.mm b).2 (.inl hb)
    · obtain ⟨i, hi⟩ := List.getElem?_of_mem hv1
      obtain ⟨hi1, rfl⟩ := hget i v hi
      obtain ⟨x, _, hx⟩ := hbk i hi1
      exact (hS1.mm b).2 (.inr ⟨i, x, hx, hv2⟩)
  have hp := hS.pushAll hE ((List.range bs.length).map E1.at_) bs' hlen
    (fun v hv1 b hb => by
      obtain ⟨i, hi⟩ := List.getElem?_of_mem hv1
      obtain ⟨hi1, rfl⟩ := hget i v hi
      obtain ⟨x, _, hx⟩ := hbk i hi1
      exact ((hS1.blk i x hx).lt hb).1)
    (fun i j u v b hi hj hu hv => by
      obtain ⟨hi1, rfl⟩ := hget i u hi
      obtain ⟨hj1, rfl⟩ := hget j v hj
      obtain ⟨x, _, hx⟩ := hbk i hi1
      obtain ⟨y, _, hy⟩ := hbk j hj1
      exact hS1.inj i j x y b hx hy hu hv)
    (fun i v blk hi hb => by
      obtain ⟨hi1, rfl⟩ := hget i v hi
      obtain ⟨x, hx0, hx⟩ := hbk i hi1
      exact (hbu.2 i x blk hx0 hb).sat hS.bl hat hM (hS1.blk i x hx))
  exact ⟨v, r', _, _, rfl, hRr, hp.1, hp.2, Below.ofExt hE hS.bl, hu.rep hat hM v hv⟩
end PW
end Go.Proofs.Ytbpgndbjbaoolaa

/- Distances from a node and to a node: which nodes are reached, as plain mathematics. -/
namespace Go.Proofs.Ytbpgndbjbaoolaa
set_option linter.unusedVariables false
set_option linter.unusedSimpArgs false
namespace PW
open Go.RowKit Reg Mem Net

section
variable {T : Topo} {D : List Bool}
theorem Ch.snoc {d n : Nat} {q : List Int} (h : Ch T D d n q) : ∀ {a x : Nat}, (q = [] ∨ overN T d = false) → a < 2 * T.links.length → tailN T a = (d : Int) → downN D a = false → headN T a = (x : Int) → Ch T D x n (q ++ [(a : Int)]) := by
  induction h with
  | nil => intro a x _ h1 h2 h3 h4; exact .cons h1 h2 h3 h4 (.inl rfl) .nil
  | @cons n b m p hb ht hu hm ho hp ih =>
    intro a x hov h1 h2 h3 h4
    have hov' : overN T d = false := by rcases hov with h | h; cases h; exact h
    refine .cons hb ht hu hm ?_ (ih (.inr hov') h1 h2 h3 h4)
    rcases ho with h | h
    · have := hp.to h
      subst this
      exact .inr hov'
    · exact .inr h
theorem fwd_ch (hv : validB T = true) {n : Nat} (hn : (n : Int) < T.nodes) {d m : Nat} {p : List Int} (h : Ch T D d m p) (h0 : 0 ≤ at' (distL T D n true) (m : Int)) (ho : p = [] ∨ m = n ∨ overN T m = false) : 0 ≤ at' (distL T D n true) (d : Int) := by
  have hI := distL_is (sound_of hv) D true hn
  induction h with
  | nil => exact h0
  | @cons m a m' p ha ht hu hm hov hp ih =>
    have hw := hI.closed a ha ⟨hu, by simp only [arcY, if_true]; rw [ht]; exact h0, by
      simp only [arcY, if_true]; rw [ht]
      rcases ho with h | h | h
      · cases h
      · exact .inl (by rw [h])
      · exact .inr (by simpa using h)⟩
    simp only [arcX, if_true] at hw
    rw [hm] at hw
    refine ih hw.1 ?_
    rcases hov with h | h
    · exact .inl h
    · exact .inr (.inr h)
theorem fwd_to (hv : validB T = true) {n : Nat} (hn : (n : Int) < T.nodes) : ∀ (k x : Nat), (x : Int) < T.nodes → 0 ≤ at' (distL T D n true) (x : Int) → at' (distL T D n true) (x : Int) ≤ k → 0 ≤ dN T D x n := by
  have hS := sound_of hv
  have hI := distL_is hS D true hn
  intro k
  induction k with
  | zero =>
    intro x hx h0 hk
    rcases hI.supp x hx h0 with h | ⟨a, ha, hX, hW, hs⟩
    · subst h; rw [dN_self hv hn]; exact Int.le_refl _
    · have := (hS.cost a ha).1
      have := hW.2.1
      omega
  | succ k ih =>
    intro x hx h0 hk
    rcases hI.supp x hx h0 with h | ⟨a, ha, hX, hW, hs⟩
    · subst h; rw [dN_self hv hn]; exact Int.le_refl _
    · simp only [arcX, arcY, if_true] at hX hs
      obtain ⟨hu, hy0, hyo⟩ := hW
      simp only [arcY, if_true] at hy0 hyo
      have hc := (hS.cost a ha).1
      have ht := hS.tail a ha
      obtain ⟨y, hy⟩ := Int.eq_ofNat_of_zero_le ht.1
      rw [hy] at hy0 hyo hs ht
      have hyN : (y : Int) < T.nodes := ht.2
      have h1 := ih y hyN hy0 (by omega)
      have hsp := spath_sp (D := D) hv hyN hn h1
      have hc2 := hsp.ch.snoc (a := a) (x := x) (by
        rcases hyo with h | h
        · have : y = n := by omega
          subst this
          exact .inl hsp.self
        · exact .inr (by simpa using h)) ha hy hu hX
      exact (hc2.le hv hx).1
theorem fwd_iff (hv : validB T = true) {n d : Nat} (hn : (n : Int) < T.nodes) (hd : (d : Int) < T.nodes) : 0 ≤ (distL T D n true).getD d 0 ↔ 0 ≤ dN T D d n := by
  have hS := sound_of hv
  have hI := distL_is hS D true hn
  have hl := hI.len
  have e : (distL T D n true).getD d 0 = at' (distL T D n true) (d : Int) := by
    unfold at'
    rw [Int.toNat_natCast, List.getD_eq_getElem?_getD, List.getD_eq_getElem?_getD, List.getElem?_eq_getElem (by omega)]
    rfl
  rw [e]
  constructor
  · intro h0
    exact fwd_to hv hn (at' (distL T D n true) (d : Int)).toNat d hd h0 (by have := Int.toNat_of_nonneg h0; omega)
  · intro h0
    have hsp := spath_sp (D := D) hv hd hn h0
    refine fwd_ch hv hn hsp.ch ?_ (.inr (.inl rfl))
    rw [hI.root]
    exact Int.le_refl _
end
end PW
end Go.Proofs.Ytbpgndbjbaoolaa

/- Assumed components, and the tables of the state Repair, as plain mathematics. -/
namespace Go.Proofs.Ytbpgndbjbaoolaa
set_option linter.unusedVariables false
set_option linter.unusedSimpArgs false
namespace PW
open Go.RowKit Reg Mem Net Rng

def grpN (T : Topo) (a : Nat) : Int := (lnk T.links (a / 2)).grp
/-- Whether a node reaches another one. -/
noncomputable def rchB (T : Topo) (D : List Bool) (n d : Int) : Bool := decide (spE T D n d = 0)
/-- The assumed component of an arc and a destination. -/
noncomputable def asmF (T : Topo) (a : Nat) (d : Int) : Int × Int :=
  if (decide (0 < grpN T a) && rchB T (maskL T 3 (grpN T a)) (tailN T a) d) = true then (3, grpN T a)
  else if (decide (headN T a ≠ d) && rchB T (maskL T 2 (headN T a)) (tailN T a) d) = true then (2, headN T a)
  else (1, ((a / 2 : Nat) : Int))
/-- The arcs of a mask that begin at a node. -/
def ownM (T : Topo) (M : List Bool) (n : Int) : List Bool := (List.range (2 * T.links.length)).map fun a => downN M a && decide (tailN T a = n)
def orM (T : Topo) (D E : List Bool) : List Bool := (List.range (2 * T.links.length)).map fun a => downN D a || downN E a
theorem map_down {f : Nat → Bool} {n a : Nat} : downN ((List.range n).map f) a = (decide (a < n) && f a) := by
  unfold downN
  rw [List.getD_eq_getElem?_getD, List.getElem?_map]
  by_cases h : a < n
  · rw [List.getElem?_range h]; simp [h]
  · rw [List.getElem?_eq_none (by simp; omega)]; simp [h]
theorem map_fits {T : Topo} {f : Nat → Bool} : fitsB T ((List.range (2 * T.links.length)).map f) = true := by simp [fitsB]
theorem mask_down {T : Topo} {k x : Int} {a : Nat} : downN (maskL T k x) a = (decide (a < 2 * T.links.length) && partB k x T.links (a / 2)) := map_down
theorem own_down {T : Topo} {M : List Bool} {n : Int} {a : Nat} : downN (ownM T M n) a = (decide (a < 2 * T.links.length) && (downN M a && decide (tailN T a = n))) := map_down
theorem or_down {T : Topo} {D E : List Bool} {a : Nat} : downN (orM T D E) a = (decide (a < 2 * T.links.length) && (downN D a || downN E a)) := map_down
theorem mask_fits (T : Topo) (k x : Int) : fitsB T (maskL T k x) = true := map_fits
theorem own_fits (T : Topo) (M : List Bool) (n : Int) : fitsB T (ownM T M n) = true := map_fits
theorem or_fits (T : Topo) (D E : List Bool) : fitsB T (orM T D E) = true := map_fits
theorem rch_iff {T : Topo} {D : List Bool} {x y : Nat} (hv : validB T = true) (hf : fitsB T D = true) (hx : (x : Int) < T.nodes) (hy : (y : Int) < T.nodes) : rchB T D x y = true ↔ 0 ≤ dN T D y x := by
  unfold rchB
  rw [decide_eq_true_eq, spE_zero hv hf hx hy]
  split <;> omega
theorem grp_range {T : Topo} (hv : validB T = true) {a : Nat} (ha : a < 2 * T.links.length) : 0 ≤ grpN T a ∧ grpN T a ≤ 64 := by
  have h := valid_link hv (a / 2) (by omega)
  unfold grpN
  unfold linkOK at h
  rw [Bool.and_eq_true] at h
  unfold withinB at h
  exact of_decide_eq_true h.2
theorem asm_comp {T : Topo} (hv : validB T = true) {a : Nat} (ha : a < 2 * T.links.length) (d : Int) : compB T (asmF T a d).1 (asmF T a d).2 = true := by
  have hg := grp_range hv ha
  unfold asmF
  split
  · rename_i h
    rw [Bool.and_eq_true, decide_eq_true_eq] at h
    show compB T 3 (grpN T a) = true
    unfold compB
    simp only [if_neg (show ¬ (3 : Int) = 1 by decide), if_neg (show ¬ (3 : Int) = 2 by decide), if_true, Bool.and_eq_true, decide_eq_true_eq]
    exact ⟨by omega, by omega⟩
  · split
    · obtain ⟨h0, h1⟩ := (sound_of hv).head a ha
      show compB T 2 (headN T a) = true
      unfold compB
      simp only [if_neg (show ¬ (2 : Int) = 1 by decide), if_true]
      exact nodeB_iff.2 ⟨h0, h1⟩
    · show compB T 1 ((a / 2 : Nat) : Int) = true
      unfold compB
      simp only [if_true, Bool.and_eq_true, decide_eq_true_eq]
      exact ⟨by omega, by omega⟩
/-- The first arc of a list that is in a mask. -/
def hitL (own : List Bool) (l : List Int) : Option Int := l.find? fun a => downN own a.toNat
noncomputable def mixM (T : Topo) (own : List Bool) (n d : Int) (a : Nat) : List Bool :=
  if rchB T (orM T (maskL T (asmF T a d).1 (asmF T a d).2) own) n d = true then orM T (maskL T (asmF T a d).1 (asmF T a d).2) own else own
/-- The entry in the state Repair. -/
noncomputable def repX (T : Topo) (own : List Bool) (n d : Nat) : Ent := match hitL own (nextL T [] n d) with
  | none => ⟨nextL T [] n d, false, []⟩
  | some a => entX T (mixM T own n d a.toNat) n d
noncomputable def repL (T : Topo) (own : List Bool) (n k : Nat) : List Ent := (List.range k).map fun d => repX T own n d
theorem repL_step (T : Topo) (own : List Bool) (n k : Nat) : repL T own n (k + 1) = repL T own n k ++ [repX T own n k] := by simp [repL, List.range_succ]
theorem repL_len (T : Topo) (own : List Bool) (n k : Nat) : (repL T own n k).length = k := by simp [repL]
theorem repL_get {T : Topo} {own : List Bool} {n k d : Nat} (h : d < k) : (repL T own n k)[d]? = some (repX T own n d) := by simp [repL, h]
noncomputable def repT (T : Topo) (M : List Bool) (n : Nat) : Tab := ⟨n, repL T (ownM T M n) n T.nodes.toNat, downL M (outL T n)⟩
section
variable {T : Topo} {M own : List Bool} {n d : Nat}
theorem mix_fits (hf : fitsB T own = true) (a : Nat) : fitsB T (mixM T own n d a) = true := by
  unfold mixM; split
  · exact or_fits _ _ _
  · exact hf
theorem mix_own {a b : Nat} (hb : b < 2 * T.links.length) (h : downN (mixM T own n d a) b = false) : downN own b = false := by
  unfold mixM at h
  split at h
  · rw [or_down, decide_eq_true hb, Bool.true_and, Bool.or_eq_false_iff] at h
    exact h.2
  · exact h
theorem own_not {b : Nat} (hb : b < 2 * T.links.length) (ht : tailN T b = (n : Int)) (h : downN (ownM T M n) b = false) : downN M b = false := by
  rw [own_down, decide_eq_true hb, decide_eq_true ht] at h
  simpa using h
theorem hit_none {l : List Int} (h : hitL own l = none) : ∀ a ∈ l, downN own a.toNat = false := fun a ha => by
  have := List.find?_eq_none.1 h a ha
  simpa using this
theorem hit_some {l : List Int} {a : Int} (h : hitL own l = some a) : a ∈ l ∧ downN own a.toNat = true := ⟨List.mem_of_find?_eq_some h, by have := List.find?_some (p := fun a : Int => downN own a.toNat) h; exact this⟩
/-- The arcs of an entry in the state Repair begin at the node, and are not in the mask. -/
theorem rep_arcs (hv : validB T = true) (hn : (n : Int) < T.nodes) (hd : (d : Int) < T.nodes) : ∀ a ∈ (repX T (ownM T M n) n d).arcs, arcB T a = true ∧ tailN T a.toNat = n ∧ downN M a.toNat = false := by
  intro a ha
  unfold repX at ha
  cases hh : hitL (ownM T M n) (nextL T [] n d) with
  | none =>
    rw [hh] at ha
    have ha : a ∈ nextL T [] n d := ha
    obtain ⟨k, rfl, hk⟩ := next_mem ha
    have := hit_none hh _ ha
    rw [Int.toNat_natCast] at this ⊢
    exact ⟨arcB_iff.2 ⟨by omega, by have := hk.arc; omega⟩, hk.tail, own_not hk.arc hk.tail this⟩
  | some b =>
    rw [hh] at ha
    have ha : a ∈ (entX T (mixM T (ownM T M n) n d b.toNat) n d).arcs := ha
    rcases ent_cases T (mixM T (ownM T M n) n d b.toNat) n d with ⟨h, _⟩ | ⟨x, y, hx, hy, hp, h⟩
    · rw [h] at ha; cases ha
    · rw [h] at ha
      simp only [List.mem_singleton] at ha
      subst ha
      obtain ⟨k, hk, hkn⟩ := hp.near
      have : x = n := by omega
      subst this
      rw [hk, Int.toNat_natCast]
      exact ⟨arcB_iff.2 ⟨by omega, by have := hkn.arc; omega⟩, hkn.tail, own_not hkn.arc hkn.tail (mix_own hkn.arc hkn.up)⟩
theorem rep_ok (hv : validB T = true) (h12 : T.nodes ≤ 12) : entOK T n d (repX T own n d) = true := by
  unfold repX
  cases hitL own (nextL T [] n d) with
  | some b => exact ent_ok _ _ _ _ h12
  | none =>
    unfold entOK
    simp only [leave_next, Bool.true_and]
    by_cases hdn : d = n
    · subst hdn; rw [next_self]; simp
    · rw [decide_eq_false (by omega)]; simp
theorem rep_valid (hv : validB T = true) (h12 : T.nodes ≤ 12) (hn : (n : Int) < T.nodes) : tabOK T (repT T M n) = true := by
  unfold tabOK repT
  have h1 : nodeB T (n : Int) = true := nodeB_iff.2 ⟨by omega, hn⟩
  have hN := (sound_of hv).nodes
  have h2 : decide (((repL T (ownM T M n) n T.nodes.toNat).length : Int) = T.nodes) = true := decide_eq_true (by rw [repL_len]; omega)
  have h3 : leaveB T n (downL M (outL T n)) = true := leave_out T n _
  have h4 : entsOK T n (repL T (ownM T M n) n T.nodes.toNat) = true := entsOK_all fun d e he => by
    have hd : d < T.nodes.toNat := by
      have := (List.getElem?_eq_some_iff.1 he).1
      rwa [repL_len] at this
    rw [repL_get hd] at he
    cases he
    exact rep_ok hv h12
  rw [hv, h1, h2, h3, h4]
  rfl
theorem rch_more {D E : List Bool} (hv : validB T = true) (hn : (n : Int) < T.nodes) (hd : (d : Int) < T.nodes) (hE : ∀ a, a < 2 * T.links.length → downN D a = false → downN E a = false) (h : 0 ≤ dN T D d n) : 0 ≤ dN T E d n := by
  have hsp := spath_sp (D := D) hv hd hn h
  have hch : Ch T E d n (spathL T D n d) := by
    have := hsp.ch
    generalize spathL T D n d = p at this
    clear hsp h hn
    induction this with
    | nil => exact .nil
    | cons ha ht hu hm ho hp ih => exact .cons ha ht (hE _ ha hu) hm ho ih
  exact (hch.le hv hd).1
/-- Who reaches a node without the mask has arcs for it. -/
theorem rep_reach (hv : validB T = true) (hn : (n : Int) < T.nodes) (hd : (d : Int) < T.nodes) (hne : n ≠ d) (h : 0 ≤ dN T M d n) : (repX T (ownM T M n) n d).arcs ≠ [] := by
  have hown : 0 ≤ dN T (ownM T M n) d n := rch_more hv hn hd (fun a ha hu => by rw [own_down, hu]; simp) h
  have hbare : 0 ≤ dN T [] d n := rch_more hv hn hd (fun a ha hu => by simp [downN]) h
  unfold repX
  cases hh : hitL (ownM T M n) (nextL T [] n d) with
  | none =>
    obtain ⟨k, hk⟩ := next_ex (D := []) hv hn hd hne hbare
    have := next_of hk ((sound_of hv).cost k hk.arc).1
    intro h0
    have h0 : nextL T [] n d = [] := h0
    rw [h0] at this
    cases this
  | some b =>
    have hr : spE T (mixM T (ownM T M n) n d b.toNat) n d = 0 := by
      unfold mixM
      split
      · rename_i h1
        unfold rchB at h1
        exact of_decide_eq_true h1
      · rw [spE_zero hv (own_fits _ _ _) hn hd, if_neg (by omega)]
    intro h0
    have h0 : (entX T (mixM T (ownM T M n) n d b.toNat) n d).arcs = [] := h0
    unfold entX at h0
    rw [if_pos ⟨hr, fun e => hne (by omega)⟩] at h0
    cases h0
end
end PW
end Go.Proofs.Ytbpgndbjbaoolaa

/- Package table: Routes. -/
namespace Go.Proofs.Ytbpgndbjbaoolaa
set_option linter.unusedVariables false
set_option linter.unusedSimpArgs false
namespace PW
open Go.RowKit Reg Mem Net

set_option maxRecDepth 10000 in
set_option maxHeartbeats 1000000 in
theorem routes_can (T : Topo) (D : List Bool) (n : Int) : Can Try.prog 15 [topoV T, boolsV D, num n] (· = .tuple [tabV (routesE T D n), num (chkE T D [n])]) := by
  refine can_of Try.func15 rfl Try.ntmps15 rfl ?_
  refine W_rs ?_
  refine WR_a 3 rfl <| WR_k [1, 2, 3, 6] rfl ?_
  refine W_seq ?_
  obtain ⟨q1, hq1⟩ : ∃ q, validB T = q := ⟨_, rfl⟩
  obtain ⟨q2, hq2⟩ : ∃ q, fitsB T D = q := ⟨_, rfl⟩
  refine W_csK 22 (.raw (.bool ((!q1) || (!q2)))) [1, 2, 3, 6] rfl ?_ ?_
  · refine .a 1 rfl <| .c rfl (hq1 ▸ valid_can T) rfl <| .a 2 rfl <| ?_
    cases q1
    · exact .a 5 rfl <| .k [22, 1, 2, 3, 6] rfl
    · exact .a 2 rfl <| .c rfl (hq2 ▸ fits_can T D (by have := links_le hq1; omega)) rfl <| .a 2 rfl <| .k [22, 1, 2, 3, 6] rfl
  refine W_cond rfl (fun hc => ?_) (fun hc => ?_)
  · have hch : chkE T D [n] = 1 := by
      unfold chkE
      rw [hq1, hq2, if_neg]
      revert hc
      cases q1 <;> cases q2 <;> simp
    refine W_rs ?_
    refine WR_a 3 rfl <| WR_k [6, 7] rfl ?_
    refine W_ret ?_
    exact ⟨_, _, ResL.of rfl, Pur.tupleL (PurL.cons (Pur.aggL (PurL.cons Pur.pure <| PurL.cons Pur.nils <| PurL.cons Pur.nils PurL.nil)) (PurL.cons Pur.pure PurL.nil)), by unfold routesE; rw [hch]; rfl⟩
  · have hok : (validB T && fitsB T D) = true := by
      rw [hq1, hq2]
      revert hc
      cases q1 <;> cases q2 <;> simp
    clear hc hq1 hq2
    refine W_skip ?_
    refine W_seq ?_
    refine W_cs (.a 2 rfl <| .c rfl (node_can T n) rfl <| .a 1 rfl <| .k [1, 2, 3, 6, 27] rfl) ?_
    refine W_cond rfl (fun hc => ?_) (fun hc => ?_)
    · have hn : nodeB T n = false := by revert hc; cases nodeB T n <;> simp
      have hch : chkE T D [n] = 2 := by
        unfold chkE
        rw [if_pos hok, if_neg]
        simp [hn]
      refine W_rs ?_
      refine WR_a 3 rfl <| WR_k [6, 7] rfl ?_
      refine W_ret ?_
      exact ⟨_, _, ResL.of rfl, Pur.tupleL (PurL.cons (Pur.aggL (PurL.cons Pur.pure <| PurL.cons Pur.nils <| PurL.cons Pur.nils PurL.nil)) (PurL.cons Pur.pure PurL.nil)), by unfold routesE; rw [hch]; rfl⟩
    · have hn : nodeB T n = true := by revert hc; cases nodeB T n <;> simp
      have hch : chkE T D [n] = 0 := by
        unfold chkE
        rw [if_pos hok, if_pos]
        simp [hn]
      obtain ⟨hv, hf⟩ := Bool.and_eq_true_iff.1 hok
      rw [nodeB_iff] at hn
      obtain ⟨m, rfl⟩ := Int.eq_ofNat_of_zero_le hn.1
      obtain ⟨N, hN⟩ : ∃ N : Nat, T.nodes = (N : Int) := ⟨T.nodes.toNat, by omega⟩
      have hN64 : N ≤ 64 := by have := (sound_of hv).nodes; omega
      have hll := links_le hv
      refine W_skip ?_
      refine W_rs ?_
      refine WR_a 4 rfl <| WR_k [1, 2, 3, 6, 8] rfl ?_
      refine W_adoptCell 1 1 50 3 rfl rfl ?_
      refine W_adoptCell 1 2 3 1 rfl rfl ?_
      refine W_seq ?_
      refine W_cs (.a 1 rfl <| .v (y_ld rfl ((show some (num T.nodes) = some (num (N : Int)) by rw [hN]))) rfl <| .a 1 rfl <| .k [1, 2, 3, 6, 8, 32, 33] rfl) ?_
      refine W_block ?_
      refine W_k [1, 2, 3, 6, 8, 32, 33] rfl ?_
      refine W_loop (fun r s => ∃ j, j ≤ N ∧ r = N - j ∧ s = ⟨[(1, boolsV D), (2, num m), (3, .pin (topoP T) 0), (6, .ptr 0 0), (8, .ptr 1 0), (32, num N), (33, num j)], [some (.cells 39 [num 0, .raw (.slice none 0 0), .raw (.slice none 0 0)]), some (.cells 39 [num m, .own 2, .own 3]), some (.row 50 3 j (entsP (toL T D m j))), some (.row 3 1 0 [])]⟩) N ⟨0, by omega, by omega, rfl⟩ ?_
      rintro r s ⟨j, hj, rfl, rfl⟩
      refine W_cs (.a 1 rfl <| .k [1, 2, 3, 6, 8, 32, 33, 34] rfl) ?_
      refine W_seq ?_
      refine W_cond rfl (fun hc => ?_) (fun hc => ?_)
      · have hlt : j < N := by have := of_decide_eq_true hc; omega
        have hne : nodeE T D (m : Int) (j : Int) = 0 := by
          have hnb : nodeB T (j : Int) = true := nodeB_iff.2 ⟨by omega, by omega⟩
          have hch' : chkE T D [(j : Int)] = 0 := by
            unfold chkE
            rw [if_pos hok, if_pos]
            simp [hnb]
          unfold nodeE
          rw [if_pos hch', if_pos (nodeB_iff.2 hn)]
        have hnx : Can Try.prog 25 [topoV T, boolsV D, num m, num j] (· = .tuple [intsV (nextL T D m j), num 0]) := by
          have h := next_can T D (m : Int) (j : Int)
          rw [hne] at h
          exact h
        refine W_skip ?_
        refine W_seq ?_
        refine W_block ?_
        refine W_cs (.a 2 rfl <| .k [1, 2, 3, 6, 8, 9, 32, 33] rfl) ?_
        refine W_cs (.a 4 rfl <| .c rfl (hnx) rfl <| .a 5 rfl <| .k [1, 2, 3, 6, 8, 10, 32, 33] rfl) ?_
        refine W_region ?_
        refine WR_a 3 rfl <| WR_v (y_le (y_build (xs := [_, _, _]) rfl (fok.st.get rfl) rfl rfl) (PLe.aggL (.cons (PLe.refl _) <| .cons (PLe.refl _) <| .cons PLe.nils .nil))) rfl <| WR_a 1 rfl <| WR_l (l_append rfl (fok.rk.get rfl) rfl rfl rfl rfl (by unfold maxLen; omega)) rfl <| WR_a 2 rfl ?_
        refine WR_ren [0, 1, 4, 3] (.c 1 <| .c 2 <| .c 3 <| .c 6 <| .c 8 <| .c 32 <| .c 33 <| .nil) (.kept rfl (.cells (RenL.c <| RenL.c <| RenL.c <| RenL.nil)) <| .kept rfl (.cells (RenL.c <| RenL.c <| RenL.c <| RenL.nil)) <| .kept rfl (.rowP rfl (show _ = entsP (toL T D m (j + 1)) by rw [toL_step]; exact entsP_snoc _ ⟨nextL T D m j, false, []⟩)) <| .kept rfl (.row RenL.pure) <| .nil) rfl rfl (WR_nil ?_)
        refine W_chain (.v (y_ar rfl) rfl <| .a 1 rfl <| .k [1, 2, 3, 6, 8, 32, 33] rfl) ?_
        exact ⟨N - (j + 1), by omega, j + 1, by omega, rfl, rfl⟩
      · have hje : j = N := by have := of_decide_eq_false hc; omega
        subst hje
        refine W_exit ?_
        refine W_seq ?_
        have hol : (outL T m).length ≤ 512 := Nat.le_trans (outTo_len T m _) (by omega)
        refine W_cs (.a 2 rfl <| .c rfl (out_can T hll _) rfl <| .a 2 rfl <| .k [1, 6, 8, 54, 55, 56] rfl) ?_
        refine W_block ?_
        refine W_k [1, 6, 8, 54, 55, 56] rfl ?_
        refine W_loop (fun r s => ∃ i, i ≤ (outL T m).length ∧ r = (outL T m).length - i ∧ s = ⟨[(1, boolsV D), (6, .ptr 0 0), (8, .ptr 1 0), (54, intsV (outL T m)), (55, num (outL T m).length), (56, num i)], [some (.cells 39 [num 0, .raw (.slice none 0 0), .raw (.slice none 0 0)]), some (.cells 39 [num m, .own 2, .own 3]), some (.row 50 3 j (entsP (toL T D m j))), some (.row 3 1 (downL D ((outL T m).take i)).length (intsP (downL D ((outL T m).take i))))]⟩) (outL T m).length ⟨0, by omega, by omega, rfl⟩ ?_
        rintro r s ⟨i, hi, rfl, rfl⟩
        refine W_cs (.a 1 rfl <| .k [1, 6, 8, 54, 55, 56, 57] rfl) ?_
        refine W_seq ?_
        refine W_cond rfl (fun hc => ?_) (fun hc => ?_)
        · have hlt : i < (outL T m).length := by have := of_decide_eq_true hc; omega
          obtain ⟨h0, h1⟩ := outL_mem (getD_mem (d := 0) hlt)
          obtain ⟨a, ha⟩ := Int.eq_ofNat_of_zero_le h0
          have hDl : D.length = 0 ∨ a < D.length := by simp only [fitsB, decide_eq_true_eq] at hf; omega
          have hstep : downL D ((outL T m).take (i + 1)) = downL D ((outL T m).take i) ++ (if downN D a then [(a : Int)] else []) := by
            unfold downL
            rw [take_step _ i 0 hlt, List.filter_append, ha]
            simp only [List.filter_cons, List.filter_nil, Int.toNat_natCast]
          have hdl : (downL D ((outL T m).take i)).length ≤ 1000 := Nat.le_trans (List.length_filter_le _ _) (by rw [List.length_take]; have := outTo_len T m (2 * T.links.length); unfold outL at *; omega)
          refine W_skip ?_
          refine W_seq ?_
          refine W_block ?_
          refine W_cs (.v (y_ix (i) rfl) rfl <| .v (y_ld rfl ((ints_get _ i hlt).trans (by rw [ha]))) rfl <| .a 1 rfl <| .k [1, 6, 8, 13, 54, 55, 56] rfl) ?_
          refine W_cs (.a 2 rfl <| .c rfl (down_can D a hDl) rfl <| .k [1, 6, 8, 13, 54, 55, 56, 62] rfl) ?_
          refine W_cond rfl (fun hcd => ?_) (fun hcd => ?_)
          · rw [hcd, if_pos rfl] at hstep
            refine W_region ?_
            refine WR_a 4 rfl <| WR_l (l_append rfl (fok.rk.get rfl) rfl rfl rfl rfl (by unfold maxLen; omega)) rfl <| WR_a 2 rfl ?_
            refine WR_ren [0, 1, 2, 4] (.c 1 <| .c 6 <| .c 8 <| .c 54 <| .c 55 <| .c 56 <| .nil) (.kept rfl (.cells (RenL.c <| RenL.c <| RenL.c <| RenL.nil)) <| .kept rfl (.cells (RenL.c <| RenL.c <| RenL.c <| RenL.nil)) <| .kept rfl (.row RenL.pure) <| .kept rfl (.rowP rfl (intsP_snoc _ _)) <| .nil) rfl rfl (WR_nil ?_)
            refine W_chain (.v (y_ar rfl) rfl <| .a 1 rfl <| .k [1, 6, 8, 54, 55, 56] rfl) ?_
            refine ⟨(outL T m).length - (i + 1), by omega, i + 1, by omega, rfl, ?_⟩
            rw [hstep]
            first
              | rfl
              | (simp only [List.length_append, List.length_singleton]; rfl)
          · rw [hcd, if_neg (by simp), List.append_nil] at hstep
            refine W_skip ?_
            refine W_chain (.v (y_ar rfl) rfl <| .a 1 rfl <| .k [1, 6, 8, 54, 55, 56] rfl) ?_
            refine ⟨(outL T m).length - (i + 1), by omega, i + 1, by omega, rfl, ?_⟩
            rw [hstep]
            first
              | rfl
              | (simp only [List.length_append, List.length_singleton]; rfl)
        · have hie : i = (outL T m).length := by have := of_decide_eq_false hc; omega
          subst hie
          refine W_exit ?_
          refine W_rs ?_
          refine WR_v (y_loadPtrAgg (ys := [num m, .own 2, .own 3]) rfl (fok.tk.get rfl) rfl rfl rfl rfl) rfl <| WR_a 2 rfl <| WR_k [6, 7] rfl ?_
          refine W_ret ?_
          refine ⟨_, _, ResL.of rfl, Pur.tupleL (PurL.cons (Pur.aggL (PurL.cons Pur.pure <| PurL.cons (Pur.ownL rfl PurL.pure) <| PurL.cons (Pur.ownL rfl PurL.pure) PurL.nil)) (PurL.cons Pur.pure PurL.nil)), ?_⟩
          unfold routesE
          rw [hch, if_pos rfl, List.take_length]
          unfold routesT tabV tabP entsV intsV
          rw [toL_len, show T.nodes.toNat = j by omega]
          rfl
end PW
end Go.Proofs.Ytbpgndbjbaoolaa

/- Package transition and the reference of layer 30: Old, Table, Final. -/
namespace Go.Proofs.Ytbpgndbjbaoolaa
set_option linter.unusedVariables false
set_option linter.unusedSimpArgs false
namespace PW
open Go.RowKit Reg Mem Net Rng

set_option maxRecDepth 10000 in
set_option maxHeartbeats 1000000 in
theorem routesS_can (T : Topo) (D : List Bool) (n : Int) (hch0 : chkE T D [n] = 0) : CanS Try.prog 15 [topoV T, boolsV D, num n] [] (fun r σ' => r = .tuple [.agg [num n, .own 2, .own 3], num 0] ∧ σ' = [some (.cells 39 [num n, .own 2, .own 3]), some (.cells 39 [num n, .own 2, .own 3]), some (.row 50 3 T.nodes.toNat (entsP (toL T D n.toNat T.nodes.toNat))), some (.row 3 1 (downL D (outL T n)).length (intsP (downL D (outL T n))))]) := by
  refine canS_of Try.func15 rfl Try.ntmps15 rfl ?_
  refine W_rs ?_
  refine WR_a 3 rfl <| WR_k [1, 2, 3, 6] rfl ?_
  refine W_seq ?_
  obtain ⟨q1, hq1⟩ : ∃ q, validB T = q := ⟨_, rfl⟩
  obtain ⟨q2, hq2⟩ : ∃ q, fitsB T D = q := ⟨_, rfl⟩
  refine W_csK 22 (.raw (.bool ((!q1) || (!q2)))) [1, 2, 3, 6] rfl ?_ ?_
  · refine .a 1 rfl <| .c rfl (hq1 ▸ valid_can T) rfl <| .a 2 rfl <| ?_
    cases q1
    · exact .a 5 rfl <| .k [22, 1, 2, 3, 6] rfl
    · exact .a 2 rfl <| .c rfl (hq2 ▸ fits_can T D (by have := links_le hq1; omega)) rfl <| .a 2 rfl <| .k [22, 1, 2, 3, 6] rfl
  refine W_cond rfl (fun hc => ?_) (fun hc => ?_)
  · have hch : chkE T D [n] = 1 := by
      unfold chkE
      rw [hq1, hq2, if_neg]
      revert hc
      cases q1 <;> cases q2 <;> simp
    exact absurd hch0 (by rw [hch]; decide)
  · have hok : (validB T && fitsB T D) = true := by
      rw [hq1, hq2]
      revert hc
      cases q1 <;> cases q2 <;> simp
    clear hc hq1 hq2
    refine W_skip ?_
    refine W_seq ?_
    refine W_cs (.a 2 rfl <| .c rfl (node_can T n) rfl <| .a 1 rfl <| .k [1, 2, 3, 6, 27] rfl) ?_
    refine W_cond rfl (fun hc => ?_) (fun hc => ?_)
    · have hn : nodeB T n = false := by revert hc; cases nodeB T n <;> simp
      have hch : chkE T D [n] = 2 := by
        unfold chkE
        rw [if_pos hok, if_neg]
        simp [hn]
      exact absurd hch0 (by rw [hch]; decide)
    · have hn : nodeB T n = true := by revert hc; cases nodeB T n <;> simp
      have hch : chkE T D [n] = 0 := by
        unfold chkE
        rw [if_pos hok, if_pos]
        simp [hn]
      obtain ⟨hv, hf⟩ := Bool.and_eq_true_iff.1 hok
      rw [nodeB_iff] at hn
      obtain ⟨m, rfl⟩ := Int.eq_ofNat_of_zero_le hn.1
      obtain ⟨N, hN⟩ : ∃ N : Nat, T.nodes = (N : Int) := ⟨T.nodes.toNat, by omega⟩
      have hN64 : N ≤ 64 := by have := (sound_of hv).nodes; omega
      have hll := links_le hv
      refine W_skip ?_
      refine W_rs ?_
      refine WR_a 4 rfl <| WR_k [1, 2, 3, 6, 8] rfl ?_
      refine W_adoptCell 1 1 50 3 rfl rfl ?_
      refine W_adoptCell 1 2 3 1 rfl rfl ?_
      refine W_seq ?_
      refine W_cs (.a 1 rfl <| .v (y_ld rfl ((show some (num T.nodes) = some (num (N : Int)) by rw [hN]))) rfl <| .a 1 rfl <| .k [1, 2, 3, 6, 8, 32, 33] rfl) ?_
      refine W_block ?_
      refine W_k [1, 2, 3, 6, 8, 32, 33] rfl ?_
      refine W_loop (fun r s => ∃ j, j ≤ N ∧ r = N - j ∧ s = ⟨[(1, boolsV D), (2, num m), (3, .pin (topoP T) 0), (6, .ptr 0 0), (8, .ptr 1 0), (32, num N), (33, num j)], [some (.cells 39 [num 0, .raw (.slice none 0 0), .raw (.slice none 0 0)]), some (.cells 39 [num m, .own 2, .own 3]), some (.row 50 3 j (entsP (toL T D m j))), some (.row 3 1 0 [])]⟩) N ⟨0, by omega, by omega, rfl⟩ ?_
      rintro r s ⟨j, hj, rfl, rfl⟩
      refine W_cs (.a 1 rfl <| .k [1, 2, 3, 6, 8, 32, 33, 34] rfl) ?_
      refine W_seq ?_
      refine W_cond rfl (fun hc => ?_) (fun hc => ?_)
      · have hlt : j < N := by have := of_decide_eq_true hc; omega
        have hne : nodeE T D (m : Int) (j : Int) = 0 := by
          have hnb : nodeB T (j : Int) = true := nodeB_iff.2 ⟨by omega, by omega⟩
          have hch' : chkE T D [(j : Int)] = 0 := by
            unfold chkE
            rw [if_pos hok, if_pos]
            simp [hnb]
          unfold nodeE
          rw [if_pos hch', if_pos (nodeB_iff.2 hn)]
        have hnx : Can Try.prog 25 [topoV T, boolsV D, num m, num j] (· = .tuple [intsV (nextL T D m j), num 0]) := by
          have h := next_can T D (m : Int) (j : Int)
          rw [hne] at h
          exact h
        refine W_skip ?_
        refine W_seq ?_
        refine W_block ?_
        refine W_cs (.a 2 rfl <| .k [1, 2, 3, 6, 8, 9, 32, 33] rfl) ?_
        refine W_cs (.a 4 rfl <| .c rfl (hnx) rfl <| .a 5 rfl <| .k [1, 2, 3, 6, 8, 10, 32, 33] rfl) ?_
        refine W_region ?_
        refine WR_a 3 rfl <| WR_v (y_le (y_build (xs := [_, _, _]) rfl (fok.st.get rfl) rfl rfl) (PLe.aggL (.cons (PLe.refl _) <| .cons (PLe.refl _) <| .cons PLe.nils .nil))) rfl <| WR_a 1 rfl <| WR_l (l_append rfl (fok.rk.get rfl) rfl rfl rfl rfl (by unfold maxLen; omega)) rfl <| WR_a 2 rfl ?_
        refine WR_ren [0, 1, 4, 3] (.c 1 <| .c 2 <| .c 3 <| .c 6 <| .c 8 <| .c 32 <| .c 33 <| .nil) (.kept rfl (.cells (RenL.c <| RenL.c <| RenL.c <| RenL.nil)) <| .kept rfl (.cells (RenL.c <| RenL.c <| RenL.c <| RenL.nil)) <| .kept rfl (.rowP rfl (show _ = entsP (toL T D m (j + 1)) by rw [toL_step]; exact entsP_snoc _ ⟨nextL T D m j, false, []⟩)) <| .kept rfl (.row RenL.pure) <| .nil) rfl rfl (WR_nil ?_)
        refine W_chain (.v (y_ar rfl) rfl <| .a 1 rfl <| .k [1, 2, 3, 6, 8, 32, 33] rfl) ?_
        exact ⟨N - (j + 1), by omega, j + 1, by omega, rfl, rfl⟩
      · have hje : j = N := by have := of_decide_eq_false hc; omega
        subst hje
        refine W_exit ?_
        refine W_seq ?_
        have hol : (outL T m).length ≤ 512 := Nat.le_trans (outTo_len T m _) (by omega)
        refine W_cs (.a 2 rfl <| .c rfl (out_can T hll _) rfl <| .a 2 rfl <| .k [1, 6, 8, 54, 55, 56] rfl) ?_
        refine W_block ?_
        refine W_k [1, 6, 8, 54, 55, 56] rfl ?_
        refine W_loop (fun r s => ∃ i, i ≤ (outL T m).length ∧ r = (outL T m).length - i ∧ s = ⟨[(1, boolsV D), (6, .ptr 0 0), (8, .ptr 1 0), (54, intsV (outL T m)), (55, num (outL T m).length), (56, num i)], [some (.cells 39 [num 0, .raw (.slice none 0 0), .raw (.slice none 0 0)]), some (.cells 39 [num m, .own 2, .own 3]), some (.row 50 3 j (entsP (toL T D m j))), some (.row 3 1 (downL D ((outL T m).take i)).length (intsP (downL D ((outL T m).take i))))]⟩) (outL T m).length ⟨0, by omega, by omega, rfl⟩ ?_
        rintro r s ⟨i, hi, rfl, rfl⟩
        refine W_cs (.a 1 rfl <| .k [1, 6, 8, 54, 55, 56, 57] rfl) ?_
        refine W_seq ?_
        refine W_cond rfl (fun hc => ?_) (fun hc => ?_)
        · have hlt : i < (outL T m).length := by have := of_decide_eq_true hc; omega
          obtain ⟨h0, h1⟩ := outL_mem (getD_mem (d := 0) hlt)
          obtain ⟨a, ha⟩ := Int.eq_ofNat_of_zero_le h0
          have hDl : D.length = 0 ∨ a < D.length := by simp only [fitsB, decide_eq_true_eq] at hf; omega
          have hstep : downL D ((outL T m).take (i + 1)) = downL D ((outL T m).take i) ++ (if downN D a then [(a : Int)] else []) := by
            unfold downL
            rw [take_step _ i 0 hlt, List.filter_append, ha]
            simp only [List.filter_cons, List.filter_nil, Int.toNat_natCast]
          have hdl : (downL D ((outL T m).take i)).length ≤ 1000 := Nat.le_trans (List.length_filter_le _ _) (by rw [List.length_take]; have := outTo_len T m (2 * T.links.length); unfold outL at *; omega)
          refine W_skip ?_
          refine W_seq ?_
          refine W_block ?_
          refine W_cs (.v (y_ix (i) rfl) rfl <| .v (y_ld rfl ((ints_get _ i hlt).trans (by rw [ha]))) rfl <| .a 1 rfl <| .k [1, 6, 8, 13, 54, 55, 56] rfl) ?_
          refine W_cs (.a 2 rfl <| .c rfl (down_can D a hDl) rfl <| .k [1, 6, 8, 13, 54, 55, 56, 62] rfl) ?_
          refine W_cond rfl (fun hcd => ?_) (fun hcd => ?_)
          · rw [hcd, if_pos rfl] at hstep
            refine W_region ?_
            refine WR_a 4 rfl <| WR_l (l_append rfl (fok.rk.get rfl) rfl rfl rfl rfl (by unfold maxLen; omega)) rfl <| WR_a 2 rfl ?_
            refine WR_ren [0, 1, 2, 4] (.c 1 <| .c 6 <| .c 8 <| .c 54 <| .c 55 <| .c 56 <| .nil) (.kept rfl (.cells (RenL.c <| RenL.c <| RenL.c <| RenL.nil)) <| .kept rfl (.cells (RenL.c <| RenL.c <| RenL.c <| RenL.nil)) <| .kept rfl (.row RenL.pure) <| .kept rfl (.rowP rfl (intsP_snoc _ _)) <| .nil) rfl rfl (WR_nil ?_)
            refine W_chain (.v (y_ar rfl) rfl <| .a 1 rfl <| .k [1, 6, 8, 54, 55, 56] rfl) ?_
            refine ⟨(outL T m).length - (i + 1), by omega, i + 1, by omega, rfl, ?_⟩
            rw [hstep]
            first
              | rfl
              | (simp only [List.length_append, List.length_singleton]; rfl)
          · rw [hcd, if_neg (by simp), List.append_nil] at hstep
            refine W_skip ?_
            refine W_chain (.v (y_ar rfl) rfl <| .a 1 rfl <| .k [1, 6, 8, 54, 55, 56] rfl) ?_
            refine ⟨(outL T m).length - (i + 1), by omega, i + 1, by omega, rfl, ?_⟩
            rw [hstep]
            first
              | rfl
              | (simp only [List.length_append, List.length_singleton]; rfl)
        · have hie : i = (outL T m).length := by have := of_decide_eq_false hc; omega
          subst hie
          refine W_exit ?_
          refine W_rs ?_
          refine WR_v (y_loadPtrAgg (ys := [num m, .own 2, .own 3]) rfl (fok.tk.get rfl) rfl rfl rfl rfl) rfl <| WR_a 2 rfl <| WR_k [6, 7] rfl ?_
          refine W_ret ?_
          refine ⟨_, ResL.of rfl, rfl, ?_⟩
          have hjN : T.nodes.toNat = j := by omega
          rw [List.take_length, Int.toNat_natCast, hjN]
          rfl

/-- A table, or an error. -/
def tabE (e : Int) (x : Tab) : PV := .tuple [tabV (if e = 0 then x else ⟨0, [], []⟩), num e]
theorem entE_zero {T : Topo} {D : List Bool} {n d : Int} (hv : validB T = true) (hf : fitsB T D = true) (hn : nodeB T n = true) (hd : nodeB T d = true) : nodeE T D n d = 0 := by
  unfold nodeE chkE
  rw [hv, hf, hn]
  simp [hd]
/-- The reference's list of outgoing arcs that are down. -/
def dwnTo (M : List Bool) (T : Topo) (n : Int) (k : Nat) : List Int := ((List.range k).filter fun a => downN M a && decide (tailN T a = n)).map Int.ofNat
def ownTo (T : Topo) (M : List Bool) (n : Int) (k : Nat) : List Bool := (List.range (2 * T.links.length)).map fun a => decide (a < k) && (downN M a && decide (tailN T a = n))
theorem dwn_all (M : List Bool) (T : Topo) (n : Int) : dwnTo M T n (2 * T.links.length) = downL M (outL T n) := by
  unfold dwnTo downL outL outTo
  rw [List.filter_map, List.filter_filter]
  congr 1
theorem dwn_len (M : List Bool) (T : Topo) (n : Int) (k : Nat) : (dwnTo M T n k).length ≤ k := by
  unfold dwnTo
  rw [List.length_map]
  exact Nat.le_trans (List.length_filter_le _ _) (by simp)
theorem dwn_yes {M : List Bool} {T : Topo} {n : Int} {k : Nat} (h : (downN M k && decide (tailN T k = n)) = true) : dwnTo M T n (k + 1) = dwnTo M T n k ++ [(k : Int)] := by
  simp only [dwnTo, List.range_succ, List.filter_append, List.map_append]
  rw [List.filter_cons_of_pos (by simpa using h)]
  rfl
theorem dwn_no {M : List Bool} {T : Topo} {n : Int} {k : Nat} (h : (downN M k && decide (tailN T k = n)) = false) : dwnTo M T n (k + 1) = dwnTo M T n k := by
  simp only [dwnTo, List.range_succ, List.filter_append, List.map_append]
  rw [List.filter_cons_of_neg (by simpa using h)]
  simp
theorem ownTo_len (T : Topo) (M : List Bool) (n : Int) (k : Nat) : (ownTo T M n k).length = 2 * T.links.length := by simp [ownTo]
theorem ownTo_zero (T : Topo) (M : List Bool) (n : Int) : ownTo T M n 0 = List.replicate (2 * T.links.length) false := by
  unfold ownTo
  apply List.ext_getElem (by simp)
  intro i h1 h2
  simp
theorem ownTo_yes {T : Topo} {M : List Bool} {n : Int} {k : Nat} (h : (downN M k && decide (tailN T k = n)) = true) : (ownTo T M n k).set k true = ownTo T M n (k + 1) := by
  apply List.ext_getElem (by simp [ownTo])
  intro i h1 h2
  rw [List.getElem_set]
  by_cases e : k = i
  · subst e
    simp only [ownTo, List.getElem_map, List.getElem_range, if_true]
    rw [h, decide_eq_true (by omega)]; rfl
  · rw [if_neg e]
    simp only [ownTo, List.getElem_map, List.getElem_range]
    rw [show decide (i < k + 1) = decide (i < k) from decide_eq_decide.2 (by omega)]
theorem ownTo_no {T : Topo} {M : List Bool} {n : Int} {k : Nat} (h : (downN M k && decide (tailN T k = n)) = false) : ownTo T M n (k + 1) = ownTo T M n k := by
  unfold ownTo
  refine List.map_congr_left fun a _ => ?_
  by_cases e : a = k
  · subst e; rw [h]; simp
  · rw [show decide (a < k + 1) = decide (a < k) from decide_eq_decide.2 (by omega)]
theorem ownTo_all (T : Topo) (M : List Bool) (n : Int) : ownTo T M n (2 * T.links.length) = ownM T M n := by
  unfold ownTo ownM
  refine List.map_congr_left fun a ha => ?_
  rw [decide_eq_true (List.mem_range.1 ha), Bool.true_and]
theorem downN_get {M : List Bool} {a : Nat} : M.getD a false = downN M a := by
  unfold downN
  by_cases h : M.length = 0
  · have : M = [] := List.eq_nil_of_length_eq_zero h
    subst this; simp
  · first
      | rfl
      | simp [h]
end PW
end Go.Proofs.Ytbpgndbjbaoolaa

/- Package transition: Old, Table, Final; the reference's Old and Final. -/
namespace Go.Proofs.Ytbpgndbjbaoolaa
set_option linter.unusedVariables false
set_option linter.unusedSimpArgs false
namespace PW
open Go.RowKit Reg Mem Net Rng

theorem over_flat {α : Type} (f : α → List PV) (s : Nat) (hf : ∀ a, (f a).length = s) (z : α) : ∀ (l : List α) (d : Nat), d < l.length → over (l.flatMap f) (d * s) (f z) = (l.set d z).flatMap f
  | [], d, h => by simp at h
  | a :: l, 0, _ => by
    unfold over
    rw [List.flatMap_cons, Nat.zero_mul, List.take_zero, hf, List.set_cons_zero, List.flatMap_cons, List.nil_append, Nat.zero_add]
    congr 1
    rw [← hf a, List.drop_left]
  | a :: l, d + 1, h => by
    have ih := over_flat f s hf z l d (by simpa using h)
    unfold over at *
    have e : (d + 1) * s = (f a).length + d * s := by rw [hf, Nat.succ_mul]; omega
    rw [List.flatMap_cons, List.set_cons_succ, List.flatMap_cons, ← ih, e, List.take_length_add_append, Nat.add_assoc, List.drop_length_add_append, List.append_assoc]
theorem over_ents (l : List Ent) (d : Nat) (z : Ent) (h : d < l.length) : over (entsP l) (d * 3) (entP z) = entsP (l.set d z) := over_flat entP 3 (fun _ => rfl) z l d h
/-- The table in the making. -/
noncomputable def midL (T : Topo) (D : List Bool) (n N j : Nat) : List Ent := (List.range N).map fun d => if d < j then entX T D n (d : Int) else ⟨nextL T D n d, false, []⟩
theorem midL_len (T : Topo) (D : List Bool) (n N j : Nat) : (midL T D n N j).length = N := by simp [midL]
theorem midL_zero (T : Topo) (D : List Bool) (n N : Nat) : midL T D n N 0 = toL T D n N := by unfold midL toL; simp
theorem midL_all (T : Topo) (D : List Bool) (n N : Nat) : midL T D n N N = trnL T D n N := by
  unfold midL trnL
  refine List.map_congr_left fun d hd => ?_
  rw [if_pos (List.mem_range.1 hd)]
theorem midL_get {T : Topo} {D : List Bool} {n N j i : Nat} (h : i < (midL T D n N j).length) : (midL T D n N j)[i] = if i < j then entX T D n (i : Int) else ⟨nextL T D n i, false, []⟩ := by simp [midL]
theorem midL_step (T : Topo) (D : List Bool) (n N j : Nat) : (midL T D n N j).set j (entX T D n (j : Int)) = midL T D n N (j + 1) := by
  apply List.ext_getElem (by simp [midL])
  intro i h1 h2
  rw [List.getElem_set, midL_get, midL_get]
  by_cases e : j = i
  · subst e; rw [if_pos rfl, if_pos (by omega)]
  · rw [if_neg e]
    by_cases h : i < j
    · rw [if_pos h, if_pos (by omega)]
    · rw [if_neg h, if_neg (by omega)]
/-- The store of package transition's after, when it calls change. -/
def trnSt (T : Topo) (D : List Bool) (n : Nat) (l : List Ent) : Sto := [some (.cells 39 [num 0, .raw (.slice none 0 0), .raw (.slice none 0 0)]), some (.row 50 3 T.nodes.toNat (entsP l)), some (.row 3 1 (downL D (outL T n)).length (intsP (downL D (outL T n)))), some (.cells 39 [num n, .own 1, .own 2])]
set_option maxRecDepth 10000 in
set_option maxHeartbeats 1000000 in
theorem trn1_can (T : Topo) (D : List Bool) (n : Nat) (hv : validB T = true) (hf : fitsB T D = true) (hn : (n : Int) < T.nodes) (h12 : T.nodes ≤ 12) : CanS Try.prog 19 ([boolsV D, .agg [num n, .own 1, .own 2]] ++ [.pin (topoP T) 0, .pin [num n] 0]) (trnSt T D n (toL T D n T.nodes.toNat)) (fun _ σ' => σ' = trnSt T D n (trnL T D n T.nodes.toNat) ++ [some (.cells 39 [num n, .own 1, .own 2])]) := by
  have hll := links_le hv
  have hnb : nodeB T (n : Int) = true := nodeB_iff.2 ⟨by omega, hn⟩
  obtain ⟨N, hN⟩ : ∃ N : Nat, T.nodes.toNat = N := ⟨_, rfl⟩
  have hNN : T.nodes = (N : Int) := by have := (sound_of hv).nodes; omega
  unfold trnSt
  rw [hN, ← midL_zero]
  obtain ⟨dl, hdl⟩ : ∃ dl, downL D (outL T n) = dl := ⟨_, rfl⟩
  rw [hdl]
  refine canS_of Try.func19 rfl Try.ntmps19 rfl ?_
  refine W_rs ?_
  refine WR_l (l_box rfl rfl rfl) rfl <| WR_k [0, 2, 3, 5] rfl ?_
  refine W_cs (.a 4 rfl <| .k [0, 2, 3, 5, 9, 10] rfl) ?_
  refine W_block ?_
  refine W_k [0, 2, 3, 5, 9, 10] rfl ?_
  refine W_loop (fun r s => ∃ j, j ≤ N ∧ r = N - j ∧ s = ⟨[(0, boolsV D), (2, .pin (topoP T) 0), (3, .pin [num n] 0), (5, .ptr 4 0), (9, num N), (10, num j)], [some (.cells 39 [num 0, .raw (.slice none 0 0), .raw (.slice none 0 0)]), some (.row 50 3 N (entsP (midL T D n N j))), some (.row 3 1 dl.length (intsP dl)), some (.cells 39 [num n, .own 1, .own 2]), some (.cells 39 [num n, .own 1, .own 2])]⟩) N ⟨0, by omega, by omega, rfl⟩ ?_
  rintro r s ⟨j, hj, rfl, rfl⟩
  refine W_cs (.a 1 rfl <| .k [0, 2, 3, 5, 9, 10, 11] rfl) ?_
  refine W_seq ?_
  refine W_cond rfl (fun h1 => ?_) (fun h1 => ?_)
  · have hlt : j < N := by have := tt h1; omega
    have hre := pent_can T D n j hll h12
    rw [entE_zero hv hf hnb (nodeB_iff.2 ⟨by omega, by omega⟩)] at hre
    have hml := midL_len T D n N j
    have hel : (entsP (midL T D n N j)).length = N * 3 := by have := flat_len entP 3 (fun _ => rfl) (midL T D n N j); rw [hml] at this; exact this
    refine W_skip ?_
    refine W_seq ?_
    refine W_block ?_
    refine W_cs (.a 2 rfl <| .k [0, 2, 3, 5, 6, 9, 10] rfl) ?_
    refine W_drawFlt 12 8 mixed (
      .val [5] rfl (y_a rfl) rfl rfl <|
      .val [14] rfl (y_a rfl) rfl rfl <|
      .val [6] rfl (y_a rfl) rfl rfl <|
      .val [2] rfl (y_a rfl) rfl rfl <|
      .val [0] rfl (y_a rfl) rfl rfl <|
      .val [3] rfl (y_a rfl) rfl rfl <|
      .val [6] rfl (y_a rfl) rfl rfl <|
      .val [17, 18, 19, 20] rfl (y_c rfl (hre)) rfl rfl <|
      .val [21] rfl (y_a rfl) rfl rfl <|
      .val [13] rfl (y_a rfl) rfl rfl <|
      .late [13] rfl (r_extract rfl rfl rfl) inferInstance rfl rfl <|
      .val [15, 16] rfl (y_ix ((j * 3)) rfl) rfl rfl <|
      .nil) (by kernel_rfl) rfl rfl (keepT_sub (ks := [0, 2, 3, 5, 9, 10, 22, 24]) rfl) ?_
    refine WR_loud0 (l_store rfl (fok.tk.get rfl) rfl rfl rfl rfl rfl (show j * 3 + 3 ≤ (entsP (midL T D n N j)).length by omega)) rfl rfl <| WR_k [0, 2, 3, 5, 9, 10] rfl ?_
    refine W_sto (σ' := [some (.cells 39 [num 0, .raw (.slice none 0 0), .raw (.slice none 0 0)]), some (.row 50 3 N (entsP (midL T D n N (j + 1)))), some (.row 3 1 dl.length (intsP dl)), some (.cells 39 [num n, .own 1, .own 2]), some (.cells 39 [num n, .own 1, .own 2])]) (by rw [← midL_step, ← over_ents _ _ _ (by omega)]; rfl) ?_
    refine W_chain (.v (y_ar rfl) rfl <| .a 1 rfl <| .k [0, 2, 3, 5, 9, 10] rfl) ?_
    exact ⟨N - (j + 1), by omega, j + 1, by omega, rfl, rfl⟩
  · have hje : j = N := by have := ff h1; omega
    subst hje
    refine W_exit ?_
    refine ⟨_, ResL.of rfl, ?_⟩
    rw [midL_all]
    rfl
theorem routesF_can (T : Topo) (D : List Bool) (n : Nat) (c : Option Blk) (hch : chkE T D [(n : Int)] = 0) : CanS Try.prog 15 [topoV T, boolsV D, num n] [c] (fun r σ' => r = .tuple [.agg [num n, .own 3, .own 4], num 0] ∧ σ' = [c, some (.cells 39 [num n, .own 3, .own 4]), some (.cells 39 [num n, .own 3, .own 4]), some (.row 50 3 T.nodes.toNat (entsP (toL T D n T.nodes.toNat))), some (.row 3 1 (downL D (outL T n)).length (intsP (downL D (outL T n))))]) := by
  refine CanS.frame (CanS.mono (routesS_can T D n hch) ?_)
  rintro r σ' ⟨rfl, rfl⟩
  refine ⟨[.cells 39 [num n, .own 2, .own 3], .cells 39 [num n, .own 2, .own 3], .row 50 3 T.nodes.toNat (entsP (toL T D n T.nodes.toNat)), .row 3 1 (downL D (outL T n)).length (intsP (downL D (outL T n)))], rfl, .tuple [.agg [num n, .own 3, .own 4], num 0], [.cells 39 [num n, .own 3, .own 4], .cells 39 [num n, .own 3, .own 4], .row 50 3 T.nodes.toNat (entsP (toL T D n T.nodes.toNat)), .row 3 1 (downL D (outL T n)).length (intsP (downL D (outL T n)))], ?_, ?_, rfl, rfl⟩
  · exact Up.tupleL (UpL.cons (Up.aggL (UpL.cons Up.pure <| UpL.cons (Up.own rfl) <| UpL.cons (Up.own rfl) UpL.nil)) (UpL.cons Up.pure UpL.nil))
  · exact BUpL.cons (.cells (UpL.cons Up.pure <| UpL.cons (Up.own rfl) <| UpL.cons (Up.own rfl) UpL.nil)) <| BUpL.cons (.cells (UpL.cons Up.pure <| UpL.cons (Up.own rfl) <| UpL.cons (Up.own rfl) UpL.nil)) <| BUpL.cons (.row UpL.pure) <| BUpL.cons (.row UpL.pure) BUpL.nil
instance (e : Int) (x : Tab) : IsPure (tabE e x) := by unfold tabE; infer_instance
def trnE (T : Topo) (k x n : Int) : Int := if maskE T k x = 0 then (if nodeB T n then 0 else 2) else 1
theorem mask_zero {T : Topo} {k x : Int} (h : maskE T k x = 0) : (validB T && compB T k x) = true := by
  unfold maskE at h
  split at h
  · assumption
  · omega
set_option maxRecDepth 10000 in
set_option maxHeartbeats 1000000 in
theorem trn2_can (T : Topo) (D : List Bool) (n : Nat) : CanS Try.prog 17 ([boolsV D, .agg [num n, .own 1, .own 2]] ++ []) (trnSt T D n (toL T D n T.nodes.toNat)) (fun _ σ' => σ' = trnSt T D n (toL T D n T.nodes.toNat) ++ [some (.cells 39 [num n, .own 1, .own 2])]) := by
  unfold trnSt
  refine canS_of Try.func17 rfl Try.ntmps17 rfl ?_
  refine W_region ?_
  refine WR_l (l_box rfl rfl rfl) rfl <| WR_k [] rfl ?_
  exact ⟨_, ResL.of rfl, rfl⟩
theorem mask_one {T : Topo} {k x : Int} (h : maskE T k x ≠ 0) : maskE T k x = 1 := by
  unfold maskE at *
  split
  · rename_i h'; rw [if_pos h'] at h; exact absurd rfl h
  · rfl
set_option maxRecDepth 10000 in
set_option maxHeartbeats 1000000 in
theorem afterX_can (T : Topo) (k x n : Int) (f : FuncId) (cap : List PV) [IsPureL cap] (he : trnE T k x n ≠ 0) :
    Can Try.prog 16 [topoV T, compV k x, num n, .func f cap] (· = tabE (trnE T k x n) ⟨0, [], []⟩) := by
  have hmk := mask_can T k x
  have hmf := mask_fits T k x
  unfold boolsE at hmk
  have hrt := routes_can T (maskL T k x) n
  refine can_of Try.func16 rfl Try.ntmps16 rfl ?_
  refine W_rs ?_
  refine WR_a 4 rfl <| WR_k [2, 3, 4, 5, 8] rfl ?_
  refine W_cs (.a 2 rfl <| .c rfl (hmk) rfl <| .a 5 rfl <| .k [2, 3, 4, 8, 10, 11] rfl) ?_
  refine W_seq ?_
  refine W_cs (.a 2 rfl <| .k [2, 3, 4, 8, 10, 11, 20] rfl) ?_
  refine W_cond rfl (fun h1 => ?_) (fun h1 => ?_)
  · have h1 := tt h1
    have he2 : trnE T k x n = maskE T k x := by
      unfold trnE
      rw [if_neg h1, mask_one h1]
    rw [he2]
    refine W_rs ?_
    refine WR_a 4 rfl <| WR_k [8, 9] rfl ?_
    refine W_ret ?_
    exact ⟨_, _, ResL.of rfl, Pur.tupleL (PurL.cons (Pur.aggL (PurL.cons Pur.pure <| PurL.cons Pur.nils <| PurL.cons Pur.nils PurL.nil)) (PurL.cons Pur.pure PurL.nil)), by unfold tabE; rw [if_neg h1]; rfl⟩
  · have h1 : maskE T k x = 0 := Classical.byContradiction (ff h1)
    obtain ⟨hv, hc⟩ := Bool.and_eq_true_iff.1 (mask_zero h1)
    rw [if_pos h1]
    have hn : nodeB T n = false := by
      cases hn : nodeB T n with
      | false => rfl
      | true => exact absurd (show trnE T k x n = 0 by unfold trnE; rw [if_pos h1, hn]; rfl) he
    have hch : chkE T (maskL T k x) [n] = 2 := by unfold chkE; rw [hv, hmf]; simp [hn]
    have hr0 : routesE T (maskL T k x) n = ⟨0, [], []⟩ := by unfold routesE; rw [if_neg (by rw [hch]; decide)]
    rw [hch, hr0] at hrt
    have he : trnE T k x n = 2 := by unfold trnE; rw [if_pos h1, hn]; rfl
    rw [he]
    refine W_skip ?_
    refine W_rs ?_
    refine WR_a 3 rfl <| WR_c rfl (hrt) rfl <| WR_a 6 rfl <| WR_k [3, 8, 10, 11, 12] rfl ?_
    refine W_seq ?_
    refine W_cs (.a 2 rfl <| .k [3, 8, 10, 11, 12, 31] rfl) ?_
    refine W_cond rfl (fun h2 => ?_) (fun h2 => ?_)
    · skip
      refine W_rs ?_
      refine WR_a 4 rfl <| WR_k [8, 9] rfl ?_
      refine W_ret ?_
      exact ⟨_, _, ResL.of rfl, Pur.tupleL (PurL.cons (Pur.aggL (PurL.cons Pur.pure <| PurL.cons Pur.nils <| PurL.cons Pur.nils PurL.nil)) (PurL.cons Pur.pure PurL.nil)), rfl⟩
    · exact absurd h2 (by decide)
set_option maxRecDepth 10000 in
set_option maxHeartbeats 1000000 in
theorem after_can (T : Topo) (k x : Int) (n : Nat) (f : FuncId) (cap : List PV) [IsPureL cap] (L : List Ent) (hen : enters Try.prog f = true) (hv : (validB T && compB T k x) = true) (hn : (n : Int) < T.nodes) (hl : L.length = T.nodes.toNat)
    (hf : CanS Try.prog f ([boolsV (maskL T k x), .agg [num n, .own 1, .own 2]] ++ cap) (trnSt T (maskL T k x) n (toL T (maskL T k x) n T.nodes.toNat)) (fun _ σ' => σ' = trnSt T (maskL T k x) n L ++ [some (.cells 39 [num n, .own 1, .own 2])])) :
    Can Try.prog 16 [topoV T, compV k x, num n, .func f cap] (· = tabE 0 ⟨n, L, downL (maskL T k x) (outL T n)⟩) := by
  have hmk := mask_can T k x
  have hmf := mask_fits T k x
  have hm0 : maskE T k x = 0 := by unfold maskE; rw [if_pos hv]
  unfold boolsE at hmk
  rw [hm0, if_pos rfl] at hmk
  obtain ⟨M, hM⟩ : ∃ M, maskL T k x = M := ⟨_, rfl⟩
  rw [hM] at hmk hmf hf ⊢
  obtain ⟨hv, hc⟩ := Bool.and_eq_true_iff.1 hv
  have hch : chkE T M [(n : Int)] = 0 := by unfold chkE; rw [hv, hmf]; simp [nodeB_iff.2 (show 0 ≤ (n : Int) ∧ (n : Int) < T.nodes by omega)]
  have hrt := fun c => routesF_can T M n c hch
  refine can_of Try.func16 rfl Try.ntmps16 rfl ?_
  refine W_rs ?_
  refine WR_a 4 rfl <| WR_k [2, 3, 4, 5, 8] rfl ?_
  refine W_cs (.a 2 rfl <| .c rfl (hmk) rfl <| .a 5 rfl <| .k [2, 3, 4, 8, 10, 11] rfl) ?_
  refine W_seq ?_
  refine W_cs (.a 2 rfl <| .k [2, 3, 4, 8, 10, 11, 20] rfl) ?_
  refine W_cond rfl (fun h1 => ?_) (fun h1 => ?_)
  · exact absurd h1 (by decide)
  · skip
    refine W_skip ?_
    refine W_rs ?_
    refine WR_a 3 rfl <| WR_cS rfl rfl (CanS.mono (hrt _) (fun r σ' h => ?_))
    obtain ⟨rfl, rfl⟩ := h
    refine WR_a 6 rfl <| WR_k [3, 8, 10, 11, 12] rfl ?_
    refine W_seq ?_
    refine W_cs (.a 2 rfl <| .k [3, 8, 10, 11, 12, 31] rfl) ?_
    refine W_cond rfl (fun h2 => ?_) (fun h2 => ?_)
    · exact absurd h2 (by decide)
    · skip
      refine W_skip ?_
      refine W_ren [0, 3, 4, 5] (.c 3 <| .c 8 <| .c 10 <| .c 12 <| .nil) (.kept rfl (.cells (RenL.c <| RenL.c <| RenL.c <| RenL.nil)) <| .kept rfl (.row RenL.pure) <| .kept rfl (.row RenL.pure) <| .kept rfl (.cells (RenL.c <| RenL.c <| RenL.c <| RenL.nil)) <| .nil) rfl rfl ?_
      refine W_rs ?_
      refine WR_a 3 rfl <| WR_callS rfl hen rfl rfl rfl rfl rfl (CanS.mono hf (fun r σ' h => ?_))
      obtain rfl := h
      refine WR_k [8, 12] rfl ?_
      refine W_rs ?_
      refine WR_a 3 rfl <| WR_k [8, 9] rfl ?_
      refine W_ret ?_
      refine ⟨_, _, ResL.of rfl, Pur.tupleL (PurL.cons (Pur.aggL (PurL.cons Pur.pure <| PurL.cons (Pur.ownL rfl PurL.pure) <| PurL.cons (Pur.ownL rfl PurL.pure) PurL.nil)) (PurL.cons Pur.pure PurL.nil)), ?_⟩
      unfold tabE tabV tabP entsV intsV
      rw [if_pos rfl, hl]
theorem trnE_zero {T : Topo} {k x n : Int} (h : trnE T k x n = 0) : (validB T && compB T k x) = true ∧ nodeB T n = true := by
  unfold trnE at h
  split at h
  · rename_i h1
    refine ⟨mask_zero h1, ?_⟩
    split at h
    · assumption
    · omega
  · omega
set_option maxRecDepth 10000 in
set_option maxHeartbeats 1000000 in
theorem ttab_can (T : Topo) (k x n : Int) (h12 : T.nodes ≤ 12) : Can Try.prog 10 [topoV T, compV k x, num n] (· = tabE (trnE T k x n) (trnT T (maskL T k x) n.toNat)) := by
  have key : Can Try.prog 16 [topoV T, compV k x, num n, .func 19 [.pin (topoP T) 0, .pin [num n] 0]] (· = tabE (trnE T k x n) (trnT T (maskL T k x) n.toNat)) := by
    by_cases he : trnE T k x n = 0
    · obtain ⟨hm, hn⟩ := trnE_zero he
      obtain ⟨hv, hc⟩ := Bool.and_eq_true_iff.1 hm
      rw [nodeB_iff] at hn
      obtain ⟨m, rfl⟩ := Int.eq_ofNat_of_zero_le hn.1
      rw [he]
      exact after_can T k x m _ _ _ (by kernel_rfl) hm hn.2 (trnL_len _ _ _ _) (trn1_can T (maskL T k x) m hv (mask_fits T k x) hn.2 h12)
    · have h := afterX_can T k x n 19 [.pin (topoP T) 0, .pin [num n] 0] he
      unfold tabE at h ⊢
      rw [if_neg he] at h ⊢
      exact h
  refine can_of Try.func10 rfl Try.ntmps10 rfl ?_
  refine W_rs ?_
  refine WR_a 5 rfl <| WR_k [3, 4, 5, 6] rfl ?_
  refine W_rs ?_
  refine WR_a 4 rfl <| WR_c rfl (key) rfl <| WR_a 4 rfl <| WR_k [6, 7] rfl ?_
  refine W_ret ?_
  exact ⟨_, _, ResL.of rfl, Pur.pure (p := tabE (trnE T k x n) (trnT T (maskL T k x) n.toNat)), rfl⟩
set_option maxRecDepth 10000 in
set_option maxHeartbeats 1000000 in
theorem tfin_can (T : Topo) (k x n : Int) : Can Try.prog 8 [topoV T, compV k x, num n] (· = tabE (trnE T k x n) (routesT T (maskL T k x) n.toNat)) := by
  have key : Can Try.prog 16 [topoV T, compV k x, num n, .func 17 []] (· = tabE (trnE T k x n) (routesT T (maskL T k x) n.toNat)) := by
    by_cases he : trnE T k x n = 0
    · obtain ⟨hm, hn⟩ := trnE_zero he
      obtain ⟨hv, hc⟩ := Bool.and_eq_true_iff.1 hm
      rw [nodeB_iff] at hn
      obtain ⟨m, rfl⟩ := Int.eq_ofNat_of_zero_le hn.1
      rw [he]
      exact after_can T k x m _ _ _ (by kernel_rfl) hm hn.2 (toL_len _ _ _ _) (trn2_can T (maskL T k x) m)
    · have h := afterX_can T k x n 17 [] he
      unfold tabE at h ⊢
      rw [if_neg he] at h ⊢
      exact h
  refine can_of Try.func8 rfl Try.ntmps8 rfl ?_
  refine W_rs ?_
  refine WR_a 4 rfl <| WR_k [2, 3, 4, 6] rfl ?_
  refine W_rs ?_
  refine WR_a 3 rfl <| WR_c rfl (key) rfl <| WR_a 4 rfl <| WR_k [6, 7] rfl ?_
  refine W_ret ?_
  exact ⟨_, _, ResL.of rfl, Pur.pure (p := tabE (trnE T k x n) (routesT T (maskL T k x) n.toNat)), rfl⟩
theorem routesE_tab (T : Topo) (D : List Bool) (n : Int) : PV.tuple [tabV (routesE T D n), num (chkE T D [n])] = tabE (chkE T D [n]) (routesT T D n.toNat) := by
  unfold tabE routesE; rfl
set_option maxRecDepth 10000 in
set_option maxHeartbeats 1000000 in
theorem told_can (T : Topo) (n : Int) : Can Try.prog 7 [topoV T, num n] (· = tabE (chkE T [] [n]) (routesT T [] n.toNat)) := by
  refine can_of Try.func7 rfl Try.ntmps7 rfl ?_
  refine W_rs ?_
  refine WR_a 3 rfl <| WR_k [1, 2, 4] rfl ?_
  have hr := routes_can T [] n
  rw [routesE_tab] at hr
  refine W_rs ?_
  refine WR_a 2 rfl <| WR_v (y_cP rfl (PurL.cons Pur.pure <| PurL.cons Pur.nils <| PurL.cons Pur.pure PurL.nil) (hr)) rfl <| WR_a 4 rfl <| WR_k [4, 5] rfl ?_
  refine W_ret ?_
  exact ⟨_, _, ResL.of rfl, Pur.pure (p := tabE (chkE T [] [n]) (routesT T [] n.toNat)), rfl⟩
theorem chk_mask {T : Topo} {k x : Int} (h : maskE T k x = 0) (n : Int) : chkE T (maskL T k x) [n] = trnE T k x n := by
  obtain ⟨hv, hc⟩ := Bool.and_eq_true_iff.1 (mask_zero h)
  unfold chkE trnE
  rw [if_pos h, hv, mask_fits]
  simp
end PW
end Go.Proofs.Ytbpgndbjbaoolaa

/- Distances, paths, lists and entries, reckoned: for examples. No program in sight. -/
namespace Go.Proofs.Ytbpgndbjbaoolaa
set_option linter.unusedVariables false
set_option linter.unusedSimpArgs false
namespace PW
open Go.RowKit Reg Mem Net Rng

namespace Cmp
def relax (T : Topo) (D : List Bool) (d : Nat) (L : List Int) (a : Nat) : List Int :=
  if (!downN D a) && decide (0 ≤ L.getD (headN T a).toNat 0) && (decide (headN T a = (d : Int)) || !overN T (headN T a).toNat) && (decide (L.getD (tailN T a).toNat 0 < 0) || decide (L.getD (headN T a).toNat 0 + costN T a < L.getD (tailN T a).toNat 0))
  then L.set (tailN T a).toNat (L.getD (headN T a).toNat 0 + costN T a) else L
def dC (T : Topo) (D : List Bool) (d : Nat) : List Int := (List.range T.nodes.toNat).foldl (fun L _ => (List.range (2 * T.links.length)).foldl (relax T D d) L) ((List.replicate T.nodes.toNat (-1)).set d 0)
def wayC (T : Topo) (D : List Bool) (n : Nat) (out : List Int) (a : Nat) : Bool := !downN D a && decide (0 ≤ at' out (arcY T false a)) && (decide (arcY T false a = (n : Int)) || !overN T (arcY T false a).toNat)
def chkD (T : Topo) (D : List Bool) (n : Nat) (out : List Int) : Bool :=
  decide (out.length = T.nodes.toNat) && decide (at' out (n : Int) = 0) && (List.range T.nodes.toNat).all (fun x => decide (-1 ≤ at' out (x : Int))) &&
  (List.range (2 * T.links.length)).all (fun a => !wayC T D n out a || (decide (0 ≤ at' out (arcX T false a)) && decide (at' out (arcX T false a) ≤ at' out (arcY T false a) + costN T a))) &&
  (List.range T.nodes.toNat).all (fun x => decide (x = n) || decide (at' out (x : Int) < 0) || (List.range (2 * T.links.length)).any fun a => decide (arcX T false a = (x : Int)) && wayC T D n out a && decide (at' out (x : Int) = at' out (arcY T false a) + costN T a))
def chk (T : Topo) (D : List Bool) : Bool := (List.range T.nodes.toNat).all fun d => chkD T D d (dC T D d)
theorem way_iff (T : Topo) (D : List Bool) (n : Nat) (out : List Int) (a : Nat) : Net.Way T D n false out a ↔ wayC T D n out a = true := by
  unfold Net.Way wayC
  simp [and_assoc]
theorem dist_of {T : Topo} {D : List Bool} (hv : validB T = true) {n : Nat} {out : List Int} (h : chkD T D n out = true) : IsDist T D n false out := by
  have hN := (sound_of hv).nodes
  simp only [chkD, Bool.and_eq_true, decide_eq_true_eq, List.all_eq_true, List.mem_range, Bool.or_eq_true, Bool.not_eq_true', List.any_eq_true] at h
  obtain ⟨⟨⟨⟨h1, h2⟩, h3⟩, h4⟩, h5⟩ := h
  refine ⟨by rw [h1]; omega, h2, fun x hx => h3 x (by omega), fun a ha hw => ?_, fun x hx h0 => ?_⟩
  · rcases h4 a ha with h | h
    · rw [(way_iff T D n out a).1 hw] at h; cases h
    · exact h
  · rcases h5 x (by omega) with (h | h) | ⟨a, ha, ⟨h6, h7⟩, h8⟩
    · exact .inl h
    · omega
    · exact .inr ⟨a, ha, h6, (way_iff T D n out a).2 h7, h8⟩
theorem dist {T : Topo} {D : List Bool} (hv : validB T = true) (h : chk T D = true) {d : Nat} (hd : (d : Int) < T.nodes) : distL T D d false = dC T D d := by
  refine distL_eq (sound_of hv) (dist_of hv ?_)
  simp only [chk, List.all_eq_true, List.mem_range] at h
  exact h d (by omega)
def nextC (T : Topo) (D : List Bool) (n d : Nat) : List Int := if n = d ∨ (dC T D d).getD n 0 < 0 then [] else passL T D (dC T D d) ((dC T D d).getD n 0) d (outL T n)
theorem next {T : Topo} {D : List Bool} (hv : validB T = true) (h : chk T D = true) {n d : Nat} (hd : (d : Int) < T.nodes) : nextL T D n d = nextC T D n d := by
  unfold nextL nextC; rw [dist hv h hd]
def firstC (T : Topo) (D : List Bool) (d : Nat) : Nat → Nat → List Int
  | 0, _ => []
  | f + 1, n => match nextC T D n d with
    | [] => []
    | a :: _ => a :: firstC T D d f (headN T a.toNat).toNat
def spathC (T : Topo) (D : List Bool) (n d : Nat) : List Int := firstC T D d ((dC T D d).getD n 0).toNat n
theorem first {T : Topo} {D : List Bool} (hv : validB T = true) (h : chk T D = true) {d : Nat} (hd : (d : Int) < T.nodes) : ∀ f n, firstP T D d f n = firstC T D d f n
  | 0, _ => rfl
  | f + 1, n => by
    simp only [firstP, firstC, next hv h hd]
    cases nextC T D n d with
    | nil => rfl
    | cons a l => simp only [first hv h hd f]
theorem spath {T : Topo} {D : List Bool} (hv : validB T = true) (h : chk T D = true) {n d : Nat} (hd : (d : Int) < T.nodes) : spathL T D n d = spathC T D n d := by
  unfold spathL spathC dN; rw [dist hv h hd, first hv h hd]
def spC (T : Topo) (D : List Bool) (s d : Int) : Int := if nodeE T D s d = 0 then (if (dC T D d.toNat).getD s.toNat 0 < 0 then 11 else 0) else nodeE T D s d
theorem node_lt {T : Topo} {D : List Bool} {s d : Int} (h : nodeE T D s d = 0) : (d.toNat : Int) < T.nodes ∧ 0 ≤ d := by
  obtain ⟨_, _, _, h4⟩ := nodeE_zero h
  rw [nodeB_iff] at h4
  omega
theorem spe {T : Topo} {D : List Bool} (hv : validB T = true) (h : chk T D = true) (s d : Int) : spE T D s d = spC T D s d := by
  unfold spE spC dN
  by_cases h0 : nodeE T D s d = 0
  · rw [if_pos h0, if_pos h0, dist hv h (node_lt h0).1]
  · rw [if_neg h0, if_neg h0]
def cntC (T : Topo) (D : List Bool) (d : Nat) : Nat → Nat → Int
  | 0, m => if m = d then 1 else 0
  | f + 1, m => if m = d then 1 else (nextC T D m d).foldl (fun c a => min 2 (c + cntC T D d f (headN T a.toNat).toNat)) 0
theorem cnt {T : Topo} {D : List Bool} (hv : validB T = true) (h : chk T D = true) {d : Nat} (hd : (d : Int) < T.nodes) : ∀ f m, cntF T D d f m = cntC T D d f m
  | 0, _ => rfl
  | f + 1, m => by
    simp only [cntF, cntC, next hv h hd]
    split
    · rfl
    · exact foldl_congr fun c a _ => by rw [cnt hv h hd f]
def covC (T : Topo) (D : List Bool) (n : Int) (p : List Int) (i j : Nat) : Bool :=
  decide ((dC T D (endL T n (p.take j)).toNat).getD (endL T n (p.take i)).toNat 0 = costL T (p.take j) - costL T (p.take i)) && (decide (nodeE T D (endL T n (p.take i)) (endL T n (p.take j)) = 0) && decide (cntC T D (endL T n (p.take j)).toNat ((dC T D (endL T n (p.take j)).toNat).getD (endL T n (p.take i)).toNat 0).toNat (endL T n (p.take i)).toNat = 1))
theorem cov {T : Topo} {D : List Bool} (hv : validB T = true) (h : chk T D = true) (n : Int) (p : List Int) (i j : Nat) : covB T D n p i j = covC T D n p i j := by
  unfold covB covC uniqB cntS dN
  by_cases h0 : nodeE T D (endL T n (p.take i)) (endL T n (p.take j)) = 0
  · rw [dist hv h (node_lt h0).1, cnt hv h (node_lt h0).1]
  · rw [decide_eq_false h0]; simp
def lstC (T : Topo) (D : List Bool) (n : Int) (p : List Int) : Nat → Nat → List Seg
  | 0, _ => []
  | f + 1, i => if i < p.length then (match topD (covC T D n p i) i p.length with
    | some j => ⟨1, endL T n (p.take j)⟩ :: lstC T D n p f j
    | none => ⟨2, p.getD i 0⟩ :: lstC T D n p f (i + 1)) else []
theorem lst {T : Topo} {D : List Bool} (hv : validB T = true) (h : chk T D = true) (n : Int) (p : List Int) : ∀ f i, lstF T D n p f i = lstC T D n p f i
  | 0, _ => rfl
  | f + 1, i => by
    have : covB T D n p i = covC T D n p i := funext fun j => cov hv h n p i j
    simp only [lstF, lstC, this]
    split
    · cases topD (covC T D n p i) i p.length with
      | none => simp only [lst hv h n p f]
      | some j => simp only [lst hv h n p f]
    · rfl
def entC (T : Topo) (D : List Bool) (n d : Int) : Ent :=
  if spC T D n d = 0 ∧ n ≠ d then ⟨[(spathC T D n.toNat d.toNat).getD 0 0], true, cutL (lstC T [] n (spathC T D n.toNat d.toNat) (spathC T D n.toNat d.toNat).length 0)⟩ else ⟨[], false, []⟩
theorem ent {T : Topo} {D : List Bool} (hv : validB T = true) (h0 : chk T [] = true) (h : chk T D = true) (n d : Int) : entX T D n d = entC T D n d := by
  unfold entX entC
  rw [spe hv h]
  by_cases hd : (d.toNat : Int) < T.nodes
  · unfold lstL
    rw [spath hv h hd, lst hv h0]
  · have : ¬ spC T D n d = 0 := by
      unfold spC
      intro hh
      split at hh
      · rename_i h1; exact hd (node_lt h1).1
      · rename_i h1; exact h1 hh
    rw [if_neg (fun hh => this hh.1), if_neg (fun hh => this hh.1)]
def asmC (T : Topo) (a : Nat) (d : Int) : Int × Int :=
  if (decide (0 < grpN T a) && decide (spC T (maskL T 3 (grpN T a)) (tailN T a) d = 0)) = true then (3, grpN T a)
  else if (decide (headN T a ≠ d) && decide (spC T (maskL T 2 (headN T a)) (tailN T a) d = 0)) = true then (2, headN T a)
  else (1, ((a / 2 : Nat) : Int))
theorem asm {T : Topo} (hv : validB T = true) {a : Nat} (h3 : chk T (maskL T 3 (grpN T a)) = true) (h2 : chk T (maskL T 2 (headN T a)) = true) (d : Int) : asmF T a d = asmC T a d := by
  unfold asmF asmC rchB
  rw [spe hv h3, spe hv h2]
end Cmp
end PW
end Go.Proofs.Ytbpgndbjbaoolaa

/- Tables reckoned, for examples; the ring after a failure. No program in sight. -/
namespace Go.Proofs.Ytbpgndbjbaoolaa
set_option linter.unusedVariables false
set_option linter.unusedSimpArgs false
namespace PW
open Go.RowKit Reg Mem Net Rng
namespace Cmp
def trnC (T : Topo) (D : List Bool) (n : Nat) : Tab := ⟨n, (List.range T.nodes.toNat).map fun (d : Nat) => entC T D n (d : Int), downL D (outL T n)⟩
theorem trn {T : Topo} {D : List Bool} (hv : validB T = true) (h0 : chk T [] = true) (h : chk T D = true) (n : Nat) : trnT T D n = trnC T D n := by
  unfold trnT trnC trnL
  congr 1
  exact List.map_congr_left fun d _ => ent hv h0 h n d
def routesC (T : Topo) (D : List Bool) (n : Nat) : Tab := ⟨n, (List.range T.nodes.toNat).map fun (d : Nat) => ⟨nextC T D n d, false, []⟩, downL D (outL T n)⟩
theorem routes {T : Topo} {D : List Bool} (hv : validB T = true) (h : chk T D = true) (n : Nat) : routesT T D n = routesC T D n := by
  have hN := (sound_of hv).nodes
  unfold routesT routesC toL
  congr 1
  refine List.map_congr_left fun d hd => ?_
  have := List.mem_range.1 hd
  rw [next hv h (by omega)]
end Cmp
def ringD1 : List Bool := [true, true, false, false, false, false, false, false]
theorem ring_mask : maskL ringT 1 0 = ringD1 := by kernel_rfl
theorem ring_chk0 : Cmp.chk ringT [] = true := by kernel_rfl
theorem ring_chk1 : Cmp.chk ringT ringD1 = true := by kernel_rfl
def ringA : Tab := ⟨3, [⟨[6], true, [⟨1, 0⟩]⟩, ⟨[5], true, [⟨1, 2⟩, ⟨1, 1⟩]⟩, ⟨[5], true, [⟨1, 2⟩]⟩, ⟨[], false, []⟩], []⟩
theorem ring_trn : trnT ringT ringD1 3 = ringA := (Cmp.trn ring_valid ring_chk0 ring_chk1 3).trans (by kernel_rfl)
def ringB : Tab := ⟨3, [⟨[6], false, []⟩, ⟨[5], false, []⟩, ⟨[5], false, []⟩, ⟨[], false, []⟩], []⟩
theorem ring_fin : routesT ringT ringD1 3 = ringB := (Cmp.routes ring_valid ring_chk1 3).trans (by kernel_rfl)
def ringC : Tab := ⟨3, [⟨[6], false, []⟩, ⟨[5, 6], false, []⟩, ⟨[5], false, []⟩, ⟨[], false, []⟩], []⟩
theorem ring_old : routesT ringT [] 3 = ringC := (Cmp.routes ring_valid ring_chk0 3).trans (by kernel_rfl)
end PW
end Go.Proofs.Ytbpgndbjbaoolaa
