/- MixturePermitted returns true for every input: which states may stand together, as specified. Package-level tables start as the program's text lays them. -/
import Derived.Test.YtnegbdpggideiaaGreatDoorCardMPB13
namespace Go.Proofs.YtnegbdpggideiaaGreatDoor
set_option linter.unusedVariables false
set_option linter.unusedSimpArgs false
namespace PW
open Go.RowKit Go.Shelf Reg Mem Net Rng
attribute [local go_sem] Oper.semAt_some
theorem cell_cells {w:World} {a:Addr} {x:Value} (h:w.cell? a=some x):∃o,w.heap[a.block]? =some o∧o.isCells=true:=by
 unfold World.cell? at h
 cases ho:w.heap[a.block]? with
 |none=>rw[ho]at h;simp at h
 |some o=>exact⟨o,rfl,by rw[ho]at h;cases o<;>simp_all[Obj.isCells]⟩
theorem Rep.cells {E:Env} {w w':World} (hz:w.heap.size≤w'.heap.size) (hc:∀(k:Nat) (o:Obj),w.heap[k]? =some o→o.isCells=true→w'.heap[k]? =some o) {v:Value} {p:PV} (h:Rep E w v p):Rep E w' v p:=by
 have key:∀ {a:Addr} {x:Value},w.cell? a=some x→w'.cell? a=some x:=fun {a x} h=>by
  obtain⟨o,h1,h2⟩:=cell_cells h
  rw[cell_same ((hc _ _ h1 h2).trans h1.symm)]
  exact h
 induction h with
 |any v=>exact .any v
 |raw v=>exact .raw v
 |nils=>exact .nils
 |empty a c h=>exact .empty a c h
 |slice b off n c cs xs h0 h1 h2 hb hM hcc hl2 _ ih=>exact .slice b off n c cs xs h0 h1 h2 (by omega) hM (fun i x hx=>key (hcc i x hx)) hl2 ih
 |pin b o' off cs xs hb hM hcc hl2 _ ih=>exact .pin b o' off cs xs (by omega) hM (fun i x hx=>key (hcc i x hx)) hl2 ih
 |agg cs xs hl2 _ ih=>exact .agg cs xs hl2 ih
 |tuple cs xs hl2 _ ih=>exact .tuple cs xs hl2 ih
 |func f cs xs hl2 _ ih=>exact .func f cs xs hl2 ih
 |ptr i off b hi h=>exact .ptr i off b hi h
 |own i hi v h hs=>exact .own i hi v h hs
set_option maxRecDepth 100000 in
set_option maxHeartbeats 8000000 in
theorem apseq_can {xv pv : PV} [IsPure xv] [IsPure pv] {e : Nat} {why : Int} {p : List Int}
    (hin : ∀ (F0 : Nat → Prop) (xb pb : Value) (W' : World), (∀ b, F0 b → b < W'.heap.size) → Glob F0 W' → Rep (EF F0) W' xb xv → Rep (EF F0) W' pb pv → Once Tryz.prog 165 #[xb, pb] (GR F0 e why p) W') :
    Can Tryz.prog 164 [.raw (.slice none 0 0), .func 165 [xv, pv]] (· = .slice 1 (resP e why p)) := by
  intro F0 w vs hF gl hR
  refine (callsIn_wide (n := 4)).1 ?_
  refine callsIn_of_wp_marks Tryz.func164 rfl trivial ?_ rfl
  have hs0 := enter_sat (N := 13) (Sat.start F0 w hF gl) hR (by have := hR.1; simp at this; omega)
  have hc0 : Came w.heap.size 0 (EF F0) w (EF F0) w := ⟨rfl, Goes.refl _ _, Below.refl _ _⟩
  refine wpIn_seq (piece (L := 0) (K := fun s => s = ⟨[(1, .func 165 [xv, pv]), (2, .ptr 0 0)], [some (.cells 104 [.raw (.slice none 0 0)])]⟩) hc0 hs0 ?_ ?_)
  · skip
    refine W_region ?_
    refine WR_l (l_box (xs := [_]) rfl rfl rfl) rfl <| WR_a 1 rfl <| WR_k [1, 2] rfl ?_
    exact rfl
  rintro _ E1 a1 w1 rfl hs1 g1 b1
  refine wpIn_seq (wpIn_seq (piece (L := 0) (K := fun s => s = ⟨[(2, .ptr 0 0), (6, .func 165 [xv, pv])], [some (.cells 104 [.raw (.slice none 0 0)])]⟩) ⟨rfl, g1, b1⟩ hs1 ?_ ?_))
  · skip
    refine W_chain (.a 1 rfl <| .k [2, 6] rfl) ?_
    exact rfl
  rintro _ E2 a2 w2 rfl hs2 g2 b2
  have hE2 : Ext w w2 := b2
  have hF2 : ∀ b, F0 b → b < w2.heap.size := fun b hb => Nat.lt_of_lt_of_le (hF b hb) hE2.size
  have hM2 : ∀ b, E2.M b → b < w2.heap.size := fun b hb => hs2.sat.lt hb
  obtain ⟨B, cs0, hB, hBb, hBh, hBr⟩ := hs2.sat.blk 0 _ rfl
  have h6 := (inferInstance : IsPure (.func 165 [xv, pv])).out _ E2.M _ _ (fun b hb => hb) (hs2.tmp 6 _ rfl)
  have h2 : a2.eval (.tmp 2) = .pointer (some ⟨B, 0, none⟩) := by
    have := hs2.tmp 2 _ rfl
    generalize a2.eval (.tmp 2) = z at this
    cases this with
    | ptr _ _ b' _ h =>
      rcases h with h | ⟨n', c', h⟩ <;> rw [hB] at h <;> cases h
      rfl
  have hBl : B < w2.heap.size := (Array.getElem?_eq_some_iff.1 hBh).1
  obtain ⟨c0, rfl⟩ : ∃ c0, cs0 = #[c0] := by
    obtain ⟨cl⟩ := cs0
    match cl, hBr.1 with
    | [c0], _ => exact ⟨c0, rfl⟩
  have hd2 := hs2.dfr
  have hz2 := hs2.size
  generalize hz48 : a2.eval (.tmp 6) = z48 at h6
  cases h6 with
  | func _ cs _ hcl hcr =>
  obtain ⟨cs⟩ := cs
  match cs, hcl, hcr with
  | [xb', pb'], _, hcr =>
  have hxb := hcr 0 xb' _ rfl rfl
  have hpb := hcr 1 pb' _ rfl rfl
  refine wpIn_block ?_
  refine wpIn_rangeOnce hz48 (enters_of Tryz.func165 (by kernel_rfl) rfl) (GR.calm E2.M e why p) (fun v A B h hE => Rep.ext hE h) (hin E2.M xb' pb' w2 hM2 hs2.sat.gl hxb hpb) (Below.refl _ _) rfl (fun Wb W3 => ∃ c, W3.heap[B]? = some (.cells #[c] 104 (0, 0)) ∧ Rep (EF F0) W3 c (.slice 1 (resP e why p)) ∧ Below w.heap.size Wb W3) ?_ ?_
  · intro m l2 v W1 hl2 hloop hE1 hv
    obtain ⟨rl, hrl⟩ := hloop
    have hpr : IsPureL (resP e why p) := by unfold resP; infer_instance
    have hor : IsOneL (resP e why p) := by unfold resP; infer_instance
    have h2t := hs2.tmp.sub (t' := [(2, .ptr 0 0)]) (keepT_sub (ks := [2]) rfl)
    obtain ⟨arr2, ds2⟩ := a2
    simp only at hd2 hz2
    subst hd2
    have hvE : Rep E2 W1 v (.agg (resP e why p)) := Rep.back hv
    have hsA : SatSt F0 w.heap.size 13 ⟨[(7, .agg (resP e why p)), (2, .ptr 0 0)], [some (.cells 104 [.raw (.slice none 0 0)])]⟩ E2 ((⟨arr2, []⟩ : Act).put (some 7) v) W1 :=
      ⟨hs2.sat.ext hE1, RepT.put (fun k q hk => (h2t k q hk).ext hE1) hvE (by simp [hz2]), rfl, by simp [Act.put, hz2]⟩
    rw [show ({ tmps := (#[7].zip #[v]).foldl (fun t (p, v) => t.setIfInBounds p v) arr2, defers := [] } : Act) = (⟨arr2, []⟩ : Act).put (some 7) v from by simp [Act.put]]
    refine round_cut (m := 2) (L := E2.L) (K := fun s => s = ⟨[(2, .ptr 0 0), (5, .pin (resP e why p) 0)], [some (.cells 104 [.raw (.slice none 0 0)]), none]⟩) rfl rfl hsA rfl (by
      refine WR_a 2 rfl ?_
      refine WR_frz 1 (σ' := [some (.cells 104 [.raw (.slice none 0 0)]), none]) (t' := [(2, .ptr 0 0), (5, .pin (resP e why p) 0)]) (blk := .cells 107 (resP e why p)) rfl ⟨rfl, rfl, fun j hj => .inl (by match j, hj with | 0, _ => rfl | 1, h => exact absurd rfl h | _ + 2, _ => rfl)⟩ (.cons 2 rfl (.same _) <| .cons 5 rfl (.ptr 0) .nil) ?_
      exact WR_nil rfl) ?_
    rintro _ Ea a7 Wa rfl hsB gB bB
    have hEa : Ext W1 Wa := by
      refine ⟨bB.os, bB.tape, bB.output, bB.size, fun k hk => ?_⟩
      rcases Nat.lt_or_ge k w.heap.size with h | h
      · exact bB.block k h
      · by_cases hm : E2.M k
        · rcases (hsA.sat.mm k).1 hm with hf | ⟨i, blk, hi, hbk⟩
          · exact absurd (hF k hf) (by omega)
          · match i, hi with
            | 0, hi =>
              cases hi
              rw [hB] at hbk
              cases hbk
              obtain ⟨B1, c1, q1, _, q2, q3⟩ := hsA.sat.blk 0 _ rfl
              obtain ⟨B2, c2, q4, _, q5, q6⟩ := hsB.sat.blk 0 _ rfl
              have e0 : Ea.at_ 0 = E2.at_ 0 := gB.at_ 0 (by rw [hsA.sat.len]; simp)
              rw [hB] at q1
              rw [e0, hB] at q4
              cases q1
              cases q4
              rw [q2, q5]
              have : c1 = c2 := by
                obtain ⟨c1⟩ := c1
                obtain ⟨c2⟩ := c2
                match c1, c2, q3, q6 with
                | [x1], [x2], q3, q6 =>
                  have r1 := rep_raw (q3.2 0 x1 _ rfl rfl)
                  have r2 := rep_raw (q6.2 0 x2 _ rfl rfl)
                  rw [r1, r2]
              rw [this]
        · exact gB.heap k hk hm
    refine ⟨hEa, fun Wb hlb hEb hzb hoth hvb => ?_⟩
    have hla : Wa.heap[l2]? = some (.loop rl) := (hEa.block _ (Array.getElem?_eq_some_iff.1 hrl).1).trans hrl
    have hsC : SatSt F0 w.heap.size 13 ⟨[(2, .ptr 0 0), (5, .pin (resP e why p) 0)], [some (.cells 104 [.raw (.slice none 0 0)]), none]⟩ Ea a7 Wb :=
      ⟨hsB.sat.other hla hzb hoth, hsB.tmp.other hla hzb hoth, hsB.dfr, hsB.size⟩
    refine wpIn_block ?_
    refine round_cut (m := 5) (L := Ea.L) (K := fun s => s.σ = [some (.cells 104 [.own 3]), none, none, some (.row 107 3 1 (resP e why p))]) rfl rfl hsC rfl (by
      refine WR_a 2 rfl ?_
      refine WR_v (y_buildSlice (xs := resP e why p) rfl (fok.sl.get rfl) ⟨Nat.le_of_ble_eq_true rfl, Nat.le_of_ble_eq_true rfl⟩ rfl rfl) rfl ?_
      refine WR_adopt 8 107 3 rfl ?_
      refine WR_l (l_append (e := 107) (s := 3) (by' := 40) (i := 2) (m := 1) (n := 0) (xs := []) (ys := resP e why p) rfl (fok.rk.get rfl) rfl rfl rfl rfl ⟨by unfold maxLen; omega, by omega⟩) rfl ?_
      refine WR_loud0 (l_store1 rfl (fok.tk.get rfl) rfl rfl rfl (Nat.le_of_ble_eq_true rfl)) rfl rfl ?_
      exact WR_nil rfl) ?_
    rintro ⟨t8, σ8⟩ E8 a8 W3 hσ8 hs8 g8 b8
    simp only at hσ8
    subst hσ8
    have e0 : E8.at_ 0 = .pointer (some ⟨B, 0, none⟩) := by
      rw [g8.at_ 0 (by rw [hsC.sat.len]; simp), gB.at_ 0 (by rw [hsA.sat.len]; simp), hB]
    obtain ⟨B', cs8, q1, _, q2, q3⟩ := hs8.sat.blk 0 _ rfl
    rw [e0] at q1
    cases q1
    obtain ⟨cl8⟩ := cs8
    match cl8, q3 with
    | [c8], q3 =>
    have hown := q3.2 0 c8 _ rfl rfl
    have hrep : Rep (EF F0) W3 c8 (.slice 1 (resP e why p)) := (Pur.ownL (i := 3) rfl (show PurL _ (resP e why p) (resP e why p) from PurL.pure)).rep hs8.sat (G := F0) (fun b hb => (hs8.sat.mm b).2 (.inl hb)) (fun b hb => (hs8.sat.fb b hb).2) _ hown
    refine ⟨⟨b8.size, fun k h1 h2 => g8.heap k h2 (fun hm => ?_)⟩, c8, q2, hrep, b8⟩
    rcases (hsC.sat.mm k).1 hm with hf | ⟨i, blk, hi, hbk⟩
    · exact absurd (hF2 k hf) (by omega)
    · match i, hi with
      | 0, hi =>
        rw [gB.at_ 0 (by rw [hsA.sat.len]; simp), hB] at hbk
        cases hbk
        exact absurd (show w2.heap.size ≤ B from h1) (by omega)
      | 1, hi => cases hi
  · intro Wb W3 W' hEb hlt hle hrx hrest hD
    obtain ⟨c, hc1, hc2, hc3⟩ := hrx
    have hcW : W'.heap[B]? = some (.cells #[c] 104 (0, 0)) := hrest.cells _ _ hc1 rfl
    have hcell : W'.cell? ⟨B, 0, none⟩ = some c := by simp [World.cell?, hcW]
    have hz2' : a2.tmps.size = 13 := hz2
    refine wpIn_seq (wpIn_region ?_)
    refine ops_val (.inl rfl) rfl rfl (fun c e => by cases e) (exec_load rfl (fok.tk.get rfl) (show Act.eval { a2 with defers := _ } (.tmp 2) = _ from h2) hcell) ?_
    refine ops_val (.inl rfl) rfl rfl (fun c e => by cases e) (exec_assign rfl) ?_
    refine wpIn_ret ?_
    show LeavesInM _ _ _ _ _ _ (_ :: a2.defers) _ _
    rw [hd2]
    refine ⟨by simp, .inl ⟨_, _, rfl, run_takeDeferred hD, ?_⟩⟩
    refine ⟨c, ?_, c, rfl, ?_, _, rfl, ?_⟩
    · refine (results_tmp rfl _ _ _).trans ?_
      congr 1
      refine (put_get (k := 4) (a := Act.put { a2 with defers := _ } (some 12) c) (v := _) (by show 4 < (a2.tmps.setIfInBounds 12 c).size; simp [hz2'])).trans ?_
      exact put_get (k := 12) (a := { a2 with defers := _ }) (by show 12 < a2.tmps.size; omega)
    · have h1 := hEb
      have hs1 := hE2.size
      refine ⟨hrest.os.trans (hc3.os.trans (hEb.os.trans hE2.os)), hrest.tape.trans (hc3.tape.trans (hEb.tape.trans hE2.tape)), hrest.output.trans (hc3.output.trans (hEb.output.trans hE2.output)), ?_, fun k hk => ?_⟩
      · have := hrest.size; simp only [World.putObj_size]; omega
      · rw [World.putObj_heap_other (by omega), hrest.block k (by omega) (.inl (by omega)), hc3.block k hk, hEb.block k (by omega), hE2.block k hk]
    · have hr1 := Rep.cells hrest.size hrest.cells hc2
      have hrp : Rng.Rest 0 (w2.heap.size + 1) W' (W'.putObj w2.heap.size (.deferred none)) := Rest.put hD rfl (Nat.zero_le _) (Nat.lt_succ_self _)
      exact Rep.cells hrp.size hrp.cells hr1
set_option maxRecDepth 10000 in
set_option maxHeartbeats 1000000 in
theorem collect_can {xv pv:PV} [IsPure xv] [IsPure pv] {e:Nat} {why:Int} {p:List Int}
  (hin:∀(F0:Nat→Prop) (xb pb:Value) (W':World),(∀b,F0 b→b<W'.heap.size)→Glob F0 W'→Rep (EF F0) W' xb xv→Rep (EF F0) W' pb pv→Once Tryz.prog 165 #[xb,pb] (GR F0 e why p) W'):
  Can Tryz.prog 127 [.func 165 [xv,pv]] (· = .slice 1 (resP e why p)):=by
 refine can_of Tryz.func127 rfl Tryz.ntmps127 rfl ?_
 haveI:IsPureL (resP e why p):=by unfold resP;infer_instance
 refine W_cs (.a 1 rfl<|.k [0] rfl) ?_
 refine W_cs (.a 1 rfl<|.c rfl (apseq_can hin) rfl<|.a 1 rfl<|.k [2] rfl) ?_
 refine W_ret ?_
 exact⟨_,_,ResL.of rfl,Pur.pure,rfl⟩
set_option maxRecDepth 10000 in
set_option maxHeartbeats 1000000 in
theorem branches0_can (ys:List PV) [IsPureL ys]:Can Tryz.prog 128 [.pin ys 0,.raw (.slice none 0 0)] (· = .func 165 [.pin [.pin ys 0] 0,.pin [intsV []] 0]):=by
 refine can_of Tryz.func128 rfl Tryz.ntmps128 rfl ?_
 refine W_rs ?_
 refine WR_l (l_box (xs:=[_]) rfl rfl rfl) rfl<|WR_l (l_box (xs:=[_]) rfl rfl rfl) rfl<|WR_a 1 rfl<|WR_k [2,3] rfl ?_
 refine W_cs (.a 2 rfl<|.k [4] rfl) ?_
 refine W_ret ?_
 exact⟨_,_,ResL.of rfl,Pur.funcL (PurL.cons (Pur.ptrL (i:=0) (ys:=[.pin ys 0]) rfl (show PurL _ [.pin ys 0] [.pin ys 0] from PurL.pure))<|PurL.cons (Pur.ptrL (i:=1) rfl (PurL.cons Pur.nils PurL.nil)) PurL.nil),rfl⟩
section
variable {T:Topo} {tb:Nat→Tab} {p0:Pkt} {Φ:Nat→Nat→List Seg→Prop}
theorem Good.pureL {v:PV} {n:Nat} {s:List Seg} {c:Int} (h:Good T tb p0 Φ v n s c):∃ys,v= .pin ys 0∧IsPureL ys:=by
 obtain⟨vs,cs,e1,e2,e3,e4,e5⟩:=h.parts
 haveI:IsPureL vs:=⟨fun i x hx=>by
  have hlt:=(List.getElem?_eq_some_iff.1 hx).1
  have:=(e5 i (by rw[←e2];exact hlt)).pure
  rw[List.getD_eq_getElem?_getD,hx]at this
  exact this⟩
 exact⟨_,e1,by unfold plcP;infer_instance⟩
theorem br_once (hL:Lone T tb p0 Φ):∀(u n:Nat) (s:List Seg) (v:PV) (c:Int),Φ u n s→Good T tb p0 Φ v n s c→∃(p:List Int) (e:Nat) (why:Int),Br T tb p0 n s p e why∧why= -1∧p.length≤u∧c=1∧
  ∀pre:List Int,pre.length+u≤1000→∀(F0:Nat→Prop) (xb pb:Value) (W₀:World),(∀b,F0 b→b<W₀.heap.size)→Glob F0 W₀→Rep (EF F0) W₀ xb (.pin [v] 0)→Rep (EF F0) W₀ pb (.pin [intsV pre] 0)→Once Tryz.prog 165 #[xb,pb] (GR F0 e why (pre++p)) W₀:=by
 intro u
 induction u using Nat.strongRecOn with
 |_ u ih=>
 intro n s v c hΦ hg
 obtain⟨vs,cs,rfl,e2,e3,e4,e5⟩:=hg.parts
 have hone:=hL.one hΦ
 cases ha:(outS T tb p0 n s).arcs with
 |nil=>
  have hvs:vs=[]:=List.eq_nil_of_length_eq_zero (by rw[e2,ha];rfl)
  subst hvs
  have hc:c=1:=by rw[e4,ha];rfl
  refine⟨[],n,(outS T tb p0 n s).why,.stop ha,hL.del hΦ ha,Nat.zero_le _,hc,fun pre hpl F0 xb pb W₀ hF gl hX hP=>?_⟩
  rw[List.append_nil]
  exact br_leaf ha (by omega) hF gl hX hP
 |cons a l=>
  have hl:l=[]:=by
   rw[ha]at hone
   exact List.eq_nil_of_length_eq_zero (by simp only[List.length_cons]at hone;omega)
  subst hl
  have hmem:a∈(outS T tb p0 n s).arcs:=by rw[ha];exact List.mem_singleton.2 rfl
  have hstep:∃b m:Nat,a=(b:Int)∧b<2*T.links.length∧headN T b=(m:Int)∧∃u',u'<u∧Φ u' m (outS T tb p0 n s).pkt.stack:=by
   rcases hL.runs.step hΦ with h|⟨_,_,h⟩
   ·rw[ha]at h;cases h
   ·exact h a hmem
  obtain⟨b,m,hab,hb,hm,u',hu,hΦ'⟩:=hstep
  have h0:=e5 0 (by rw[ha];exact Nat.one_pos)
  rw[ha,List.getD_cons_zero,hab,Int.toNat_natCast,hm,Int.toNat_natCast]at h0
  match vs,cs,e2,e3,e4,h0 with
  | [],_,e2,_,_,_=>rw[ha]at e2;cases e2
  |_::_::_,_,e2,_,_,_=>rw[ha]at e2;simp at e2
  | [v1],[],_,e3,_,_=>rw[ha]at e3;cases e3
  | [v1],_::_::_,_,e3,_,_=>rw[ha]at e3;simp at e3
  | [v1],[c1],_,_,e4,h0=>
  rw[List.getD_cons_zero,List.getD_cons_zero]at h0
  obtain⟨ys,rfl,hys⟩:=h0.pureL
  obtain⟨q,e,why,i1,i2,i3,i4,i5⟩:=ih u' hu m _ _ _ hΦ' h0
  have hc:c=1:=by rw[e4,ha,i4];rfl
  refine⟨a::q,e,why,.go hmem (by rw[hab,Int.toNat_natCast];exact hm) i1,i2,by simp only[List.length_cons];omega,hc,fun pre hpl F0 xb pb W₀ hF gl hX hP=>?_⟩
  exact br_node ha (by omega) hF gl hX hP (fun xb' pb' W' hF' gl' hx hp=>i5 (pre++[a]) (by simp only[List.length_append,List.length_singleton];omega) F0 xb' pb' W' hF' gl' hx hp)
set_option maxRecDepth 10000 in
set_option maxHeartbeats 4000000 in
theorem wall_can (hL:Lone T tb p0 Φ) (hv:validB T=true) (h12:T.nodes≤12) {U:List (Nat×List Seg)} (hU:∀ {u n s},Φ u n s→(n,s)∈U) (hUl:U.length≤1000000) (tbs:List Tab) (htl:(tbs.length:Int)=T.nodes) (htb:∀n:Nat,(n:Int)<T.nodes→tbs[n]? =some (tb n))
  (hok:∀n:Nat,(n:Int)<T.nodes→(tb n).node=(n:Int)∧tabOK T (tb n)=true) {u n:Nat} {p:Pkt} (hΦ:Φ u n p.stack) (hu:u≤1000) (hp:pkt0 p p.stack=pkt0 p0 p.stack):
  Can Tryz.prog 77 [topoV T,tabsV tbs,pktV p,num n] (fun r=>∃q e,Br T tb p0 n p.stack q e (-1)∧q.length≤u∧r= .tuple [.slice 1 (resP e (-1) q),num 0]):=by
 refine can_of Tryz.func77 rfl Tryz.ntmps77 rfl ?_
 refine W_cs (.a 4 rfl<|.k [1,3,4,6] rfl) ?_
 refine W_rs ?_
 refine WR_a 4 rfl<|WR_cS rfl rfl (CanS.mono (CanS.ofCan (search_can hL.runs hv h12 hU hUl tbs htl htb hok hΦ hp)) (fun y σ' h=>?_))
 obtain⟨⟨v,c,L,rfl,hg,hLl,hall⟩,rfl⟩:=h
 refine WR_a 7 rfl<|WR_k [10,12] rfl ?_
 obtain⟨q,e,why,hbr,rfl,hql,hc1,honce⟩:=br_once hL u n p.stack v c hΦ hg
 obtain⟨ys,hys,hyp⟩:=hg.pureL
 obtain⟨vs,cs,hvs,_,_,_,_⟩:=hg.parts
 have hon:=honce [] (by simp;omega)
 rw[List.nil_append]at hon
 subst hc1
 have hcol:Can Tryz.prog 127 [.func 165 [.pin [v] 0,.pin [intsV []] 0]] (· = .slice 1 (resP e (-1) q)):=by
  haveI:=hg.pure
  exact collect_can hon
 subst hvs
 cases hys
 refine W_seq ?_
 refine W_cs (.a 2 rfl<|.k [10,12,23] rfl) ?_
 refine W_cond rfl (fun hc=>?_) (fun hc=>?_)
 ·cases hc
 ·refine W_skip ?_
  refine W_seq ?_
  refine W_cs (.a 3 rfl<|.v (y_ld rfl (rfl)) rfl<|.a 1 rfl<|.k [10,29] rfl) ?_
  refine W_cond rfl (fun hc=>?_) (fun hc=>?_)
  ·cases hc
  ·refine W_skip ?_
   refine W_cs (.a 1 rfl<|.c rfl (branches0_can _) rfl<|.c rfl (hcol) rfl<|.a 2 rfl<|.k [8,9] rfl) ?_
   refine W_ret ?_
   haveI:IsPureL (resP e (-1) q):=by unfold resP;infer_instance
   exact⟨_,_,ResL.of rfl,Pur.pure (p:=.tuple [.slice 1 (resP e (-1) q),num 0]),q,e,hbr,hql,rfl⟩
end
end PW
end Go.Proofs.YtnegbdpggideiaaGreatDoor

namespace Go.Proofs.YtnegbdpggideiaaGreatDoor
set_option linter.unusedVariables false
set_option linter.unusedSimpArgs false
namespace PW
open Go.RowKit Reg Mem Net Rng
section
variable {T:Topo} {tb tb':Nat→Tab} {p0:Pkt} {Φ:Nat→Nat→List Seg→Prop}
end
noncomputable def tbX (T:Topo) (k x:Int) (l:List Int) (n:Nat):Tab:=mtX T k x n (stA l n)
theorem gone_valid {T:Topo} (hv:validB T=true) {n:Nat} (hn:(n:Int)<T.nodes):tabOK T (goneT T n)=true:=by
 unfold tabOK goneT
 have h1:nodeB T (n:Int)=true:=nodeB_iff.2 ⟨by omega,hn⟩
 have hN:=(sound_of hv).nodes
 have h2:decide (((List.replicate T.nodes.toNat (⟨[],false,[]⟩:Ent)).length:Int)=T.nodes)=true:=decide_eq_true (by rw[List.length_replicate];omega)
 have h3:leaveB T n (outL T n)=true:=leave_of (outL_sorted T n) fun _ ha=>outL_iff.1 ha
 have h4:entsOK T n (List.replicate T.nodes.toNat (⟨[],false,[]⟩:Ent))=true:=entsOK_all fun d e he=>by
  have:e=⟨[],false,[]⟩:=(List.mem_replicate.1 (List.mem_of_getElem? he)).2
  subst this
  unfold entOK leaveB
  simp
 rw[hv,h1,h2,h3,h4]
 rfl
theorem tbX_ok {T:Topo} {k x:Int} {l:List Int} (hv:validB T=true) (h12:T.nodes≤12):∀n:Nat,(n:Int)<T.nodes→(tbX T k x l n).node=(n:Int)∧tabOK T (tbX T k x l n)=true:=fun n hn=>by
 unfold tbX mtX
 split
 ·exact⟨rfl,gone_valid hv hn⟩
 ·have ht:=tame_tab (D:=maskL T k x) (M:=maskL T k x) hv h12 hn (mask_fits T k x) (fun a h=>h) (stA l n)
  exact⟨ht.node,ht.ok⟩
theorem mtL_get {T:Topo} {k x:Int} {l:List Int} {m n:Nat} (h:n<m):(mtL T k x l m)[n]? =some (tbX T k x l n):=by
 unfold mtL tbX
 rw[List.getElem?_map,List.getElem?_range h]
 rfl
def prE (T:Topo) (k x:Int) (l:List Int) (s d:Int):Int:=if mtE T k x l=0 then(if(nodeB T s&&nodeB T d)=true then 0 else 2) else mtE T k x l
noncomputable def prL (T:Topo) (k x:Int) (l:List Int):List Tab:=if mtE T k x l=0 then mtL T k x l l.length else []
set_option maxRecDepth 10000 in
set_option maxHeartbeats 1000000 in
theorem mprep_can (T:Topo) (k x:Int) (l:List Int) (s d:Int) (hl:l.length≤1000) (h12:T.nodes≤12):Can Tryz.prog 89 [topoV T,compV k x,intsV l,num s,num d] (· = .tuple [tabsV (prL T k x l),pktV ⟨0,s,d,0,[],0⟩,num (prE T k x l s d)]):=by
 obtain⟨e,he⟩:∃e,mtE T k x l=e:=⟨_,rfl⟩
 obtain⟨q0,hq0⟩:∃q,decide (e=0)=q:=⟨_,rfl⟩
 obtain⟨q1,hq1⟩:∃q,nodeB T s=q:=⟨_,rfl⟩
 obtain⟨q2,hq2⟩:∃q,nodeB T d=q:=⟨_,rfl⟩
 obtain⟨L,hL⟩:∃L,prL T k x l=L:=⟨_,rfl⟩
 have ht:Can Tryz.prog 20 [topoV T,compV k x,intsV l] (· = .tuple [tabsV L,num e]):=by
  have h:=mtabs_can T k x l hl h12
  unfold tabsE at h
  rw[he]at h
  unfold prL at hL
  rw[he]at hL
  rw[hL]at h
  exact h
 have hE:prE T k x l s d=if q0=true then(if(q1&&q2)=true then 0 else 2) else e:=by
  unfold prE
  rw[he,hq1,hq2,←hq0]
  simp
 rw[hE,hL]
 refine can_of Tryz.func89 rfl Tryz.ntmps89 rfl ?_
 refine W_rs ?_
 refine WR_a 5 rfl<|WR_k [2,3,4,5,6,11] rfl ?_
 refine W_cs (.a 3 rfl<|.c rfl (ht) rfl<|.a 5 rfl<|.k [3,4,5,11,13,14] rfl) ?_
 refine W_seq ?_
 refine W_csK 35 (.raw (.bool (q0&&(!q1 || !q2)))) [3,4,11,13,14] rfl ?_ ?_
 ·refine .a 1 rfl<|.v (y_q rfl (hq0)) rfl<|.a 1 rfl<|?_
  cases q0
  ·exact .a 11 rfl<|.k [35,3,4,11,13,14] rfl
  ·refine .a 2 rfl<|.c rfl (hq1▸node_can T s) rfl<|.a 2 rfl<|?_
   cases q1
   ·exact .a 6 rfl<|.k [35,3,4,11,13,14] rfl
   ·exact .a 2 rfl<|.c rfl (hq2▸node_can T d) rfl<|.a 3 rfl<|.k [35,3,4,11,13,14] rfl
 refine W_cond rfl (fun hc=>?_) (fun hc=>?_)
 ·have hR:(if q0=true then(if(q1&&q2)=true then(0:Int) else 2) else e)=2:=by
   cases q0<;>cases q1<;>cases q2<;>simp_all
  refine W_chain (.a 1 rfl<|.k [3,4,11,13,14] rfl) ?_
  refine W_rs ?_
  refine WR_a 8 rfl<|WR_k [10,11,12] rfl ?_
  refine W_ret ?_
  exact⟨_,_,ResL.of rfl,Pur.tupleL (PurL.cons Pur.pure<|PurL.cons (Pur.aggL (PurL.cons Pur.pure<|PurL.cons Pur.pure<|PurL.cons Pur.pure<|PurL.cons Pur.pure<|PurL.cons Pur.nils<|PurL.cons Pur.pure PurL.nil))<|PurL.cons Pur.pure PurL.nil),by rw[hR];rfl⟩
 ·have hR:(if q0=true then(if(q1&&q2)=true then(0:Int) else 2) else e)=e:=by
   cases q0<;>cases q1<;>cases q2<;>simp_all
  refine W_skip ?_
  refine W_rs ?_
  refine WR_a 8 rfl<|WR_k [10,11,12] rfl ?_
  refine W_ret ?_
  exact⟨_,_,ResL.of rfl,Pur.tupleL (PurL.cons Pur.pure<|PurL.cons (Pur.aggL (PurL.cons Pur.pure<|PurL.cons Pur.pure<|PurL.cons Pur.pure<|PurL.cons Pur.pure<|PurL.cons Pur.nils<|PurL.cons Pur.pure PurL.nil))<|PurL.cons Pur.pure PurL.nil),by rw[hR];rfl⟩
section
variable {T:Topo} {k x:Int} {l:List Int} {s d:Nat} {Φ:Nat→Nat→List Seg→Prop}
theorem prep_ok (hl:l.length≤1000) (h12:T.nodes≤12) (hE:mtE T k x l=0) (hs:(s:Int)<T.nodes) (hd:(d:Int)<T.nodes):Can Tryz.prog 89 [topoV T,compV k x,intsV l,num s,num d] (· = .tuple [tabsV (mtL T k x l l.length),pktV ⟨0,s,d,0,[],0⟩,num 0]):=by
 have h:=mprep_can T k x l s d hl h12
 have h1:prE T k x l s d=0:=by
  unfold prE
  rw[if_pos hE,if_pos (by rw[nodeB_iff.2 ⟨by omega,hs⟩,nodeB_iff.2 ⟨by omega,hd⟩];rfl)]
 have h2:prL T k x l=mtL T k x l l.length:=by unfold prL;rw[if_pos hE]
 rw[h1,h2]at h
 exact h
theorem mtE_zero (h:mtE T k x l=0):(validB T&&compB T k x)=true∧(l.length:Int)=T.nodes∧permB T k x l=true:=by
 unfold mtE at h
 split at h
 ·rename_i h1
  obtain⟨h2,h3⟩:=Bool.and_eq_true_iff.1 h1
  split at h
  ·rename_i h4
   exact⟨h2,of_decide_eq_true h3,h4⟩
  ·cases h
 ·cases h
set_option maxRecDepth 10000 in
set_option maxHeartbeats 1000000 in
theorem mpath_can (h12:T.nodes≤12) (hE:mtE T k x l=0) (hs:(s:Int)<T.nodes) (hd:(d:Int)<T.nodes) (hL:Lone T (tbX T k x l) ⟨0,s,d,0,[],0⟩ Φ) {U:List (Nat×List Seg)} (hU:∀ {u n s},Φ u n s→(n,s)∈U) (hUl:U.length≤1000000) {u:Nat} (hΦ:Φ u s []) (hu:u≤1000):
  Can Tryz.prog 33 [topoV T,compV k x,intsV l,num s,num d] (fun r=>∃q e,Br T (tbX T k x l) ⟨0,s,d,0,[],0⟩ s [] q e (-1)∧q.length≤u∧r= .tuple [intsV q,num 0]):=by
 obtain⟨hvc,hln,_⟩:=mtE_zero hE
 have hv:=(Bool.and_eq_true_iff.1 hvc).1
 have hl:l.length≤1000:=by omega
 have hpr:=prep_ok (k:=k) (x:=x) hl h12 hE hs hd
 have htl:((mtL T k x l l.length).length:Int)=T.nodes:=by rw[mtL_len];exact hln
 have htb:∀n:Nat,(n:Int)<T.nodes→(mtL T k x l l.length)[n]? =some (tbX T k x l n):=fun n hn=>mtL_get (by omega)
 have har:=warrives_can hL.runs hL.del hv h12 hU hUl (mtL T k x l l.length) htl htb (tbX_ok hv h12) (p:=⟨0,s,d,0,[],0⟩) hΦ rfl
 have hal:=wall_can hL hv h12 hU hUl (mtL T k x l l.length) htl htb (tbX_ok hv h12) (p:=⟨0,s,d,0,[],0⟩) hΦ hu rfl
 obtain⟨L,hLL⟩:∃L,mtL T k x l l.length=L:=⟨_,rfl⟩
 rw[hLL]at hpr har hal
 refine can_of Tryz.func33 rfl Tryz.ntmps33 rfl ?_
 refine W_cs (.a 4 rfl<|.k [2,3,4,5,6] rfl) ?_
 refine W_rs ?_
 refine WR_a 5 rfl<|WR_c rfl (hpr) rfl<|WR_a 8 rfl<|WR_k [3,5,12,13,14] rfl ?_
 refine W_seq ?_
 refine W_cs (.a 2 rfl<|.k [3,5,12,13,14,28] rfl) ?_
 refine W_cond rfl (fun hc=>?_) (fun hc=>?_)
 ·cases hc
 ·refine W_skip ?_
  refine W_cs (.a 2 rfl<|.v (y_la rfl (rfl) rfl) rfl<|.a 1 rfl<|.c rfl (har) rfl<|.a 5 rfl<|.k [3,5,12,13,14,15] rfl) ?_
  refine W_seq ?_
  refine W_cs (.a 2 rfl<|.k [3,5,12,13,14,15,39] rfl) ?_
  refine W_cond rfl (fun hc=>?_) (fun hc=>?_)
  ·cases hc
  ·refine W_skip ?_
   refine W_seq ?_
   refine W_cs (.a 2 rfl<|.k [3,5,12,13,42] rfl) ?_
   refine W_cond rfl (fun hc=>?_) (fun hc=>?_)
   ·cases hc
   ·refine W_skip ?_
    refine W_rs ?_
    refine WR_a 4 rfl<|WR_cS rfl rfl (CanS.mono (CanS.ofCan hal) (fun y σ' h=>?_))
    obtain⟨⟨q,e,hbr,hql,rfl⟩,rfl⟩:=h
    refine WR_a 5 rfl<|WR_k [14,16] rfl ?_
    refine W_seq ?_
    refine W_cs (.a 7 rfl<|.k [16,57] rfl) ?_
    refine W_cond rfl (fun hc=>?_) (fun hc=>?_)
    ·cases hc
    ·refine W_skip ?_
     refine W_cs (.a 1 rfl<|.v (y_ix _ rfl (hj:=rfl)) rfl<|.a 1 rfl<|.v (y_ld rfl (rfl)) rfl<|.a 2 rfl<|.k [10,11] rfl) ?_
     refine W_ret ?_
     exact⟨_,_,ResL.of rfl,Pur.pure (p:=.tuple [intsV q,num 0]),q,e,hbr,hql,rfl⟩
end
end PW
end Go.Proofs.YtnegbdpggideiaaGreatDoor

namespace Go.Proofs.YtnegbdpggideiaaGreatDoor
set_option linter.unusedVariables false
set_option linter.unusedSimpArgs false
namespace PW
open Go.RowKit Reg Mem Net Rng
theorem Can.mono {P:Program} {f:FuncId} {ps:List PV} {R R':PV→Prop} (h:Can P f ps R) (hr:∀r,R r→R' r):Can P f ps R':=fun F w vs h1 h2 h3=>(h F w vs h1 h2 h3).mono fun _ _ ⟨v,he,hx,r,hR,hv⟩=>⟨v,he,hx,r,hr r hR,hv⟩
section
variable {T:Topo} {tb:Nat→Tab} {p0:Pkt}
theorem br_hop {n m e:Nat} {s s':List Seg} {a:Int} {q:List Int} {w:Int} (ho:stepO T (tb n) (pkt0 p0 s)=leaveO (pkt0 p0 s) s' [a]) (hm:headN T a.toNat=(m:Int)) (h:Br T tb p0 n s q e w):∃q',q=a::q'∧Br T tb p0 m s' q' e w:=by
 cases h with
 |stop h0=>rw[ho]at h0;cases h0
 | @go _ m' _ _ a' p _ ha hm' hr=>
  rw[ho]at ha hr
  have ha:a'∈[a]:=ha
  rw[List.mem_singleton]at ha
  subst ha
  have:m'=m:=by rw[hm']at hm;omega
  subst this
  exact⟨p,rfl,hr⟩
theorem br_halt {n e:Nat} {s:List Seg} {q:List Int} {w:Int} (ho:(stepO T (tb n) (pkt0 p0 s)).arcs=[]) (h:Br T tb p0 n s q e w):q=[]:=by
 cases h with
 |stop _=>rfl
 |go ha _ _=>rw[ho]at ha;cases ha
end
def ringS:List Int:=[1,1,0,0]
def ringP:Pkt:=⟨0,0,1,0,[],0⟩
theorem ring_rep1:repT ringT ringD1 1=Cmp.repTC ringT ringD1 1:=Cmp.repTab ring_valid ring_chk0 (by kernel_rfl)
theorem ring_t0:tbX ringT 1 0 ringS 0=ringR:=ring_rep
theorem ring_t1:tbX ringT 1 0 ringS 1=Cmp.repTC ringT ringD1 1:=ring_rep1
theorem ring_t2:tbX ringT 1 0 ringS 2=Cmp.routesC ringT [] 2:=Cmp.routes ring_valid ring_chk0 2
theorem ring_t3:tbX ringT 1 0 ringS 3=ringC:=ring_old
theorem ring_o0:outS ringT (tbX ringT 1 0 ringS) ringP 0 []=leaveO (pkt0 ringP []) [⟨1,3⟩,⟨1,2⟩,⟨1,1⟩] [7]:=by
 unfold outS;rw[ring_t0];kernel_rfl
theorem ring_o3:outS ringT (tbX ringT 1 0 ringS) ringP 3 [⟨1,3⟩,⟨1,2⟩,⟨1,1⟩]=leaveO (pkt0 ringP [⟨1,3⟩,⟨1,2⟩,⟨1,1⟩]) [⟨1,2⟩,⟨1,1⟩] [5]:=by
 unfold outS;rw[ring_t3];kernel_rfl
theorem ring_o2:outS ringT (tbX ringT 1 0 ringS) ringP 2 [⟨1,2⟩,⟨1,1⟩]=leaveO (pkt0 ringP [⟨1,2⟩,⟨1,1⟩]) [⟨1,1⟩] [3]:=by
 unfold outS;rw[ring_t2];kernel_rfl
theorem ring_o1:(outS ringT (tbX ringT 1 0 ringS) ringP 1 [⟨1,1⟩]).arcs=[]∧(outS ringT (tbX ringT 1 0 ringS) ringP 1 [⟨1,1⟩]).why= -1:=by
 unfold outS;rw[ring_t1];exact⟨by kernel_rfl,by kernel_rfl⟩
def ringΦ (u n:Nat) (s:List Seg):Prop:=(u=3∧n=0∧s=[])∨(u=2∧n=3∧s=[⟨1,3⟩,⟨1,2⟩,⟨1,1⟩])∨(u=1∧n=2∧s=[⟨1,2⟩,⟨1,1⟩])∨(u=0∧n=1∧s=[⟨1,1⟩])
theorem ring_lone:Lone ringT (tbX ringT 1 0 ringS) ringP ringΦ:=by
 refine⟨⟨?_,?_,?_⟩,?_,?_⟩
 ·rintro u n s (⟨_,rfl,_⟩|⟨_,rfl,_⟩|⟨_,rfl,_⟩|⟨_,rfl,_⟩)<;>decide
 ·rintro u n s (⟨_,_,rfl⟩|⟨_,_,rfl⟩|⟨_,_,rfl⟩|⟨_,_,rfl⟩)<;>exact⟨by unfold SmallS;decide,by decide⟩
 ·rintro u n s (⟨rfl,rfl,rfl⟩|⟨rfl,rfl,rfl⟩|⟨rfl,rfl,rfl⟩|⟨rfl,rfl,rfl⟩)
  ·rw[ring_o0]
   exact .inr ⟨by simp[leaveO],rfl,fun a ha=>by
    have ha:a∈[(7:Int)]:=ha
    rw[List.mem_singleton]at ha
    subst ha
    exact⟨7,3,rfl,by decide,by kernel_rfl,2,by omega,.inr (.inl ⟨rfl,rfl,rfl⟩)⟩⟩
  ·rw[ring_o3]
   exact .inr ⟨by simp[leaveO],rfl,fun a ha=>by
    have ha:a∈[(5:Int)]:=ha
    rw[List.mem_singleton]at ha
    subst ha
    exact⟨5,2,rfl,by decide,by kernel_rfl,1,by omega,.inr (.inr (.inl ⟨rfl,rfl,rfl⟩))⟩⟩
  ·rw[ring_o2]
   exact .inr ⟨by simp[leaveO],rfl,fun a ha=>by
    have ha:a∈[(3:Int)]:=ha
    rw[List.mem_singleton]at ha
    subst ha
    exact⟨3,1,rfl,by decide,by kernel_rfl,0,by omega,.inr (.inr (.inr ⟨rfl,rfl,rfl⟩))⟩⟩
  ·exact .inl ring_o1.1
 ·rintro u n s (⟨_,rfl,rfl⟩|⟨_,rfl,rfl⟩|⟨_,rfl,rfl⟩|⟨_,rfl,rfl⟩)
  ·rw[ring_o0];simp[leaveO]
  ·rw[ring_o3];simp[leaveO]
  ·rw[ring_o2];simp[leaveO]
  ·rw[ring_o1.1];simp
 ·rintro u n s (⟨_,rfl,rfl⟩|⟨_,rfl,rfl⟩|⟨_,rfl,rfl⟩|⟨_,rfl,rfl⟩) ha
  ·rw[ring_o0]at ha;cases ha
  ·rw[ring_o3]at ha;cases ha
  ·rw[ring_o2]at ha;cases ha
  ·exact ring_o1.2
theorem ring_way {q:List Int} {e:Nat} {w:Int} (h:Br ringT (tbX ringT 1 0 ringS) ringP 0 [] q e w):q=[7,5,3]:=by
 obtain⟨q1,rfl,h1⟩:=br_hop (m:=3) ring_o0 (by kernel_rfl) h
 obtain⟨q2,rfl,h2⟩:=br_hop (m:=2) ring_o3 (by kernel_rfl) h1
 obtain⟨q3,rfl,h3⟩:=br_hop (m:=1) ring_o2 (by kernel_rfl) h2
 rw[br_halt ring_o1.1 h3]
theorem ring_path:Can Tryz.prog 33 [topoV ringT,compV 1 0,intsV ringS,num 0,num 1] (· = .tuple [intsV [7,5,3],num 0]):=by
 have h:=mpath_can (T:=ringT) (k:=1) (x:=0) (l:=ringS) (s:=0) (d:=1) (Φ:=ringΦ) (by decide) (by kernel_rfl) (by decide) (by decide) ring_lone (U:=[(0,[]),(3,[⟨1,3⟩,⟨1,2⟩,⟨1,1⟩]),(2,[⟨1,2⟩,⟨1,1⟩]),(1,[⟨1,1⟩])])
  (by rintro u n s (⟨_,rfl,rfl⟩|⟨_,rfl,rfl⟩|⟨_,rfl,rfl⟩|⟨_,rfl,rfl⟩)<;>simp) (by decide) (u:=3) (.inl ⟨rfl,rfl,rfl⟩) (by decide)
 exact Can.mono h fun r ⟨q,e,hb,_,hr⟩=>by rw[ring_way hb]at hr;exact hr
set_option maxRecDepth 10000 in
set_option maxHeartbeats 1000000 in
theorem square31_can:Can Tryz.prog 78 [] (· =topoV ringT):=by
 refine can_of Tryz.func78 rfl Tryz.ntmps78 rfl ?_
 refine W_rs ?_
 refine WR_a 1 rfl<|WR_k [0] rfl ?_
 refine W_rs ?_
 refine WR_a 3 rfl<|WR_k [0,1] rfl ?_
 refine W_adoptCell 1 2 127 7 rfl rfl ?_
 refine W_seq ?_
 refine W_cs (.a 1 rfl<|.k [0,1,4] rfl) ?_
 refine W_block ?_
 refine W_k [0,1,4] rfl ?_
 refine W_loop (fun r s=>∃k,k≤4∧r=4 - k∧s=⟨[(0,.ptr 0 0),(1,.ptr 1 0),(4,num k)],[some (.cells 25 [num 0,.raw (.slice none 0 0),.raw (.slice none 0 0)]),some (.cells 25 [num 4,.raw (.slice none 0 0),.own 2]),some (.row 127 7 k (lnksP (ringL k)))]⟩) 4 ⟨0,by omega,by omega,rfl⟩ ?_
 rintro r s ⟨k,hk,rfl,rfl⟩
 refine W_cs (.a 1 rfl<|.k [0,1,4,5] rfl) ?_
 refine W_seq ?_
 refine W_cond rfl (fun hc=>?_) (fun hc=>?_)
 ·have hlt:k<4:=by have:=of_decide_eq_true hc;omega
  refine W_skip ?_
  refine W_seq ?_
  refine W_block ?_
  refine W_cs (.a 2 rfl<|.k [0,1,2,4] rfl) ?_
  refine W_region ?_
  refine WR_a 4 rfl<|WR_v (y_ar rfl) rfl<|WR_v (y_rem rfl rfl rfl (by decide) ((show((k:Int)+1).tmod 4=(((k+1) % 4:Nat):Int) by rw[Int.tmod_eq_emod_of_nonneg (by omega)];omega))) rfl<|WR_v (y_build2 rfl (show Tryz.prog.built 125 [(0,.int .i64 1),(1,.int .i64 1)]=some #[.int .i64 1,.int .i64 1] by kernel_rfl)) rfl<|WR_a 2 rfl<|WR_l (l_append rfl (fok.rk.get rfl) rfl rfl rfl rfl (by unfold maxLen;omega)) rfl<|WR_a 2 rfl ?_
  refine WR_ren [0,1,3] (.c 0<|.c 1<|.c 4<|.nil) (.kept rfl (.cells (RenL.c<|RenL.c<|RenL.c<|RenL.nil))<|.kept rfl (.cells (RenL.c<|RenL.c<|RenL.c<|RenL.nil))<|.kept rfl (.rowP rfl (show _=lnksP (ringL (k+1)) by rw[ringL_step];exact lnksP_snoc _ ⟨(k:Int),(((k+1) % 4:Nat):Int),1,1,0,1,0⟩))<|.nil) rfl rfl (WR_nil ?_)
  refine W_chain (.v (y_ar rfl) rfl<|.a 1 rfl<|.k [0,1,4] rfl) ?_
  exact⟨4 - (k+1),by omega,k+1,by omega,rfl,rfl⟩
 ·have hke:k=4:=by have:=of_decide_eq_false hc;omega
  subst hke
  refine W_exit ?_
  refine W_rs ?_
  refine WR_a 2 rfl<|WR_k [0] rfl ?_
  refine W_ret ?_
  exact⟨_,_,ResL.of rfl,Pur.aggL (PurL.cons Pur.pure<|PurL.cons Pur.nils<|PurL.cons (Pur.ownL rfl PurL.pure) PurL.nil),rfl⟩
def manyS (c:Q31):Bool:=tooBig c.T||decide ((40:Int)<c.S.length)
theorem not_many {c:Q31} (h:manyS c=false):c.T.nodes≤12∧c.T.links.length≤16∧c.S.length≤40:=by
 unfold manyS at h
 obtain⟨h1,h2⟩:=Bool.or_eq_false_iff.1 h
 have:=not_big h1
 have:=of_decide_eq_false h2
 omega
set_option maxRecDepth 10000 in
set_option maxHeartbeats 1000000 in
theorem large31_can (c:Q31):Can Tryz.prog 24 [q31V c] (· =flag (manyS c)):=by
 obtain⟨q1,h1⟩:∃q,decide ((10:Int)<c.T.nodes)=q:=⟨_,rfl⟩
 obtain⟨q2,h2⟩:∃q,decide ((16:Int)<c.T.links.length)=q:=⟨_,rfl⟩
 obtain⟨q3,h3⟩:∃q,decide ((40:Int)<c.S.length)=q:=⟨_,rfl⟩
 have he:manyS c=((q1||q2)||q3):=by unfold manyS tooBig;rw[h1,h2,h3]
 rw[he]
 refine can_of Tryz.func24 rfl Tryz.ntmps24 rfl ?_
 refine W_cs (.a 2 rfl<|.k [1] rfl) ?_
 refine W_csK 2 (.raw (.bool ((q1||q2)||q3))) [] rfl ?_ ?_
 ·refine .a 3 rfl<|.v (y_q rfl (h1)) rfl<|.a 1 rfl<|?_
  cases q1
  ·refine .a 4 rfl<|.v (y_q rfl (h2)) rfl<|.a 2 rfl<|?_
   cases q2
   ·exact .a 3 rfl<|.v (y_q rfl (h3)) rfl<|.a 2 rfl<|.k [2] rfl
   ·exact .a 6 rfl<|.k [2] rfl
  ·exact .a 13 rfl<|.k [2] rfl
 refine W_ret ?_
 exact⟨_,_,ResL.of rfl,Pur.pure,rfl⟩
theorem ring_pA:Can Tryz.prog 25 [topoV ringT,compV 1 0,intsV [2,2,3,2]] (· =flag true):=by
 have h:=mperm_can ringT 1 0 [2,2,3,2] (by decide)
 rw[show permB ringT 1 0 [2,2,3,2]=true by kernel_rfl]at h
 exact h
theorem ring_pB:Can Tryz.prog 25 [topoV ringT,compV 1 0,intsV [0,1,0,0]] (· =flag false):=by
 have h:=mperm_can ringT 1 0 [0,1,0,0] (by decide)
 rw[show permB ringT 1 0 [0,1,0,0]=false by kernel_rfl]at h
 exact h
theorem ring_pC:Can Tryz.prog 25 [topoV ringT,compV 1 0,intsV [1,1,3,2]] (· =flag false):=by
 have h:=mperm_can ringT 1 0 [1,1,3,2] (by decide)
 rw[show permB ringT 1 0 [1,1,3,2]=false by kernel_rfl]at h
 exact h
set_option maxRecDepth 10000 in
set_option maxHeartbeats 1000000 in
theorem awake31_can:Can Tryz.prog 23 [] (· =flag true):=by
 refine can_of Tryz.func23 rfl Tryz.ntmps23 rfl ?_
 refine W_cs (.a 1 rfl<|.k [] rfl) ?_
 refine W_rs ?_
 refine WR_a 3 rfl<|WR_k [1] rfl ?_
 refine W_sealPtr 1 0 0 rfl rfl ?_
 refine W_ren [] (.cons 1 rfl (Ren.pure (p:=.pin (compP 1 0) 0)) .nil) .nil rfl rfl ?_
 refine W_drs mixed (by kernel_rfl) (.v [] (y_c rfl (square31_can)) rfl rfl<|.a 2 rfl<|.v [6,7,8] (y_c rfl (ring_path)) rfl rfl<|.a 5 rfl<|.k [1,2,3] rfl) ?_
 refine W_drsK mixed (by kernel_rfl) 0 (.raw (.bool (true))) [] rfl ?_ ?_
 ·exact .a 5 rfl<|.v [15,16] (y_c rfl (rsame_yes [7,5,3])) rfl rfl<|.a 2 rfl<|.v [] (y_c rfl (square31_can)) rfl rfl<|.a 2 rfl<|.v [20,21,22] (y_c rfl (ring_pA)) rfl rfl<|.a 2 rfl<|.v [] (y_c rfl (square31_can)) rfl rfl<|.a 2 rfl<|.v [26,27,28] (y_c rfl (ring_pB)) rfl rfl<|.a 3 rfl<|.v [] (y_c rfl (square31_can)) rfl rfl<|.a 2 rfl<|.v [33,34,35] (y_c rfl (ring_pC)) rfl rfl<|.a 3 rfl<|.k [0] rfl
 refine W_ret ?_
 exact⟨_,_,ResL.of rfl,Pur.pure (p:=flag true),rfl⟩
end PW
end Go.Proofs.YtnegbdpggideiaaGreatDoor

namespace Go.Proofs.YtnegbdpggideiaaGreatDoor
set_option linter.unusedVariables false
set_option linter.unusedSimpArgs false
namespace PW
open Go.RowKit Reg Mem Net Rng
set_option maxRecDepth 10000 in
set_option maxHeartbeats 1000000 in
theorem rgone_can (k x n:Int):Can Tryz.prog 81 [compV k x,num n] (· =flag (gnB k x n)):=by
 obtain⟨q1,hq1⟩:∃q,decide (k=2)=q:=⟨_,rfl⟩
 obtain⟨q2,hq2⟩:∃q,decide (x=n)=q:=⟨_,rfl⟩
 unfold gnB
 rw[hq1,hq2]
 refine can_of Tryz.func81 rfl Tryz.ntmps81 rfl ?_
 refine W_cs (.a 2 rfl<|.k [1,2] rfl) ?_
 refine W_csK 4 (.raw (.bool (q1&&q2))) [] rfl ?_ ?_
 ·refine .a 2 rfl<|.v (y_q rfl (hq1)) rfl<|.a 1 rfl<|?_
  cases q1
  ·exact .a 6 rfl<|.k [4] rfl
  ·exact .a 3 rfl<|.v (y_q rfl (hq2)) rfl<|.a 2 rfl<|.k [4] rfl
 refine W_ret ?_
 exact⟨_,_,ResL.of rfl,Pur.pure,rfl⟩
theorem cn_down (T:Topo) (k x:Int) (n:Nat):decide (((downL (maskL T k x) (outL T n)).length:Int)>0)=cnB T k x n:=by
 unfold cnB
 cases h:(List.range (2*T.links.length)).any fun a=>downN (maskL T k x) a&&decide (tailN T a=(n:Int))with
 |true=>
  obtain⟨a,h1,h2⟩:=List.any_eq_true.1 h
  obtain⟨h3,h4⟩:=Bool.and_eq_true_iff.1 h2
  have h1:=List.mem_range.1 h1
  have hm:(a:Int)∈downL (maskL T k x) (outL T n):=by
   refine List.mem_filter.2 ⟨outL_iff.2 ⟨by rw[arcB_iff];omega,by rw[Int.toNat_natCast];exact of_decide_eq_true h4⟩,by rw[Int.toNat_natCast];exact h3⟩
  have:=List.length_pos_of_mem hm
  exact decide_eq_true (by omega)
 |false=>
  refine decide_eq_false fun hp=>?_
  obtain⟨a,ha⟩:=List.exists_mem_of_length_pos (show 0<(downL (maskL T k x) (outL T n)).length by omega)
  obtain⟨h1,h2⟩:=List.mem_filter.1 ha
  obtain⟨h3,h4⟩:=outL_iff.1 h1
  obtain⟨h5,h6⟩:=arcB_iff.1 h3
  have:=List.any_eq_false.1 h a.toNat (List.mem_range.2 (by omega))
  rw[h2,decide_eq_true h4]at this
  exact this rfl
set_option maxRecDepth 10000 in
set_option maxHeartbeats 1000000 in
theorem rconc_can (T:Topo) (k x:Int) (n:Nat) (hvc:(validB T&&compB T k x)=true):Can Tryz.prog 64 [topoV T,compV k x,num n] (· =flag (!gnB k x n&&cnB T k x n)):=by
 obtain⟨g,hg⟩:∃g,gnB k x n=g:=⟨_,rfl⟩
 obtain⟨c,hc'⟩:∃c,cnB T k x n=c:=⟨_,rfl⟩
 have hcd:=(cn_down T k x n).trans hc'
 rw[hg,hc']
 refine can_of Tryz.func64 rfl Tryz.ntmps64 rfl ?_
 refine W_cs (.a 3 rfl<|.k [2,3,4] rfl) ?_
 refine W_cs (.a 3 rfl<|.c rfl (rdown_can T k x n hvc) rfl<|.a 5 rfl<|.k [2,4,7] rfl) ?_
 refine W_csK 6 (.raw (.bool (!g &&c))) [] rfl ?_ ?_
 ·refine .a 2 rfl<|.c rfl (hg▸rgone_can k x n) rfl<|.a 2 rfl<|?_
  cases g
  ·exact .a 2 rfl<|.v (y_q rfl (hcd)) rfl<|.a 2 rfl<|.k [6] rfl
  ·exact .a 5 rfl<|.k [6] rfl
 refine W_ret ?_
 exact⟨_,_,ResL.of rfl,Pur.pure,rfl⟩
set_option maxRecDepth 10000 in
set_option maxHeartbeats 4000000 in
theorem rperm_can (T : Topo) (k x : Int) (l : List Int) (hl : l.length ≤ 1000) : Can Tryz.prog 26 [topoV T, compV k x, intsV l] (· = flag (permB T k x l)) := by
  obtain ⟨q1, hq1⟩ : ∃ q, (validB T && compB T k x) = q := ⟨_, rfl⟩
  obtain ⟨q2, hq2⟩ : ∃ q, decide ((l.length : Int) ≠ T.nodes) = q := ⟨_, rfl⟩
  refine can_of Tryz.func26 rfl Tryz.ntmps26 rfl ?_
  refine W_cs (.a 3 rfl <| .k [2, 3, 4] rfl) ?_
  refine W_seq ?_
  refine W_csK 21 (.raw (.bool (!q1 || q2))) [2, 3, 4] rfl ?_ ?_
  · refine .a 2 rfl <| .c rfl (hq1 ▸ rvalid10_can T k x) rfl <| .a 2 rfl <| ?_
    cases q1
    · exact .a 6 rfl <| .k [21, 2, 3, 4] rfl
    · exact .a 3 rfl <| .v (y_ld rfl (rfl)) rfl <| .v (y_q rfl (hq2)) rfl <| .a 1 rfl <| .k [21, 2, 3, 4] rfl
  refine W_cond rfl (fun hc => ?_) (fun hc => ?_)
  · have hno : permB T k x l = false := by
      unfold permB
      rw [hq1, if_neg]
      intro h
      obtain ⟨h1, h2⟩ := Bool.and_eq_true_iff.1 h
      rw [h1, ← hq2] at hc
      have h2 := of_decide_eq_true h2
      simp [h2] at hc
    refine W_cs (.a 1 rfl <| .k [6] rfl) ?_
    refine W_ret ?_
    exact ⟨_, _, ResL.of rfl, Pur.pure, by rw [hno]; rfl⟩
  · obtain ⟨h1, rfl⟩ := Bool.or_eq_false_iff.1 hc
    have h1 : q1 = true := by simpa using h1
    subst h1
    have hln : (l.length : Int) = T.nodes := by have := ff hq2; simpa using this
    have hP : permB T k x l = (allS k x (fun n => okS (stA l n)) l.length && (allS k x (fun n => erS (cnB T k x n) (stA l n)) l.length || allS k x (fun n => laS (stA l n)) l.length)) := by
      unfold permB
      rw [if_pos (by rw [hq1, decide_eq_true hln]; rfl)]
    refine W_skip ?_
    refine W_cs (.a 2 rfl <| .k [2, 3, 4, 7, 8] rfl) ?_
    refine W_seq ?_
    refine W_cs (.a 1 rfl <| .k [2, 3, 4, 7, 8, 9] rfl) ?_
    refine W_block ?_
    refine W_k [2, 3, 4, 7, 8, 9] rfl ?_
    refine W_loop (fun r st => ∃ i, i ≤ l.length ∧ allS k x (fun n => okS (stA l n)) i = true ∧ r = l.length - i ∧ st = ⟨[(2, intsV l), (3, .pin (topoP T) 0), (4, .pin (compP k x) 0), (7, flag (allS k x (fun n => erS (cnB T k x n) (stA l n)) i)), (8, flag (allS k x (fun n => laS (stA l n)) i)), (9, num i)], []⟩) l.length ⟨0, by omega, rfl, by omega, rfl⟩ ?_
    rintro r st ⟨i, hi, hO0, rfl, rfl⟩
    have hE := allS_succ k x (fun n => erS (cnB T k x n) (stA l n)) i
    have hL := allS_succ k x (fun n => laS (stA l n)) i
    have hO := allS_succ k x (fun n => okS (stA l n)) i
    obtain ⟨eb, heb⟩ : ∃ b, allS k x (fun n => erS (cnB T k x n) (stA l n)) i = b := ⟨_, rfl⟩
    obtain ⟨lb, hlb⟩ : ∃ b, allS k x (fun n => laS (stA l n)) i = b := ⟨_, rfl⟩
    rw [heb] at hE ⊢
    rw [hlb] at hL ⊢
    rw [hO0] at hO
    refine W_seq ?_
    refine W_cs (.a 4 rfl <| .k [2, 3, 4, 7, 8, 9, 25] rfl) ?_
    refine W_cond rfl (fun hc => ?_) (fun hc => ?_)
    · have hlt : i < l.length := by have := tt hc; omega
      obtain ⟨g, hg⟩ : ∃ g, gnB k x i = g := ⟨_, rfl⟩
      obtain ⟨c, hcb⟩ : ∃ c, cnB T k x i = c := ⟨_, rfl⟩
      obtain ⟨s, hs⟩ : ∃ s, stA l i = s := ⟨_, rfl⟩
      have hsl : l.getD i 0 = s := hs
      simp only [hg, hcb, hs] at hE hL hO
      refine W_skip ?_
      refine W_seq ?_
      refine W_block ?_
      refine W_cs (.a 2 rfl <| .v (y_ix (i) rfl) rfl <| .v (y_ld rfl ((ints_get l i hlt).trans (by rw [hsl]))) rfl <| .a 1 rfl <| .k [2, 3, 4, 7, 8, 9, 10] rfl) ?_
      refine W_seq ?_
      refine W_cs (.a 2 rfl <| .c rfl (hg ▸ rgone_can k x i) rfl <| .k [2, 3, 4, 7, 8, 9, 10, 34] rfl) ?_
      refine W_cond rfl (fun hc => ?_) (fun hc => ?_)
      · rw [hc, Bool.true_or, Bool.and_true] at hE hL hO
        refine W_sub (keepT_sub (ks := [2, 3, 4, 7, 8, 9]) rfl) ?_
        refine W_exit ?_
        refine W_chain (.a 1 rfl <| .v (y_ar rfl) rfl <| .a 1 rfl <| .k [2, 3, 4, 7, 8, 9] rfl) ?_
        exact ⟨l.length - (i + 1), by omega, i + 1, by omega, hO, rfl, by rw [hE, hL]; rfl⟩
      · have hg0 : gnB k x i = false := hg.trans hc
        rw [hc, Bool.false_or] at hE hL hO
        have hco := rconc_can T k x i hq1
        rw [hg0, hcb, Bool.not_false, Bool.true_and] at hco
        obtain ⟨p0, hp0⟩ : ∃ q, decide (s < 0) = q := ⟨_, rfl⟩
        obtain ⟨p4, hp4⟩ : ∃ q, decide (s > 3) = q := ⟨_, rfl⟩
        obtain ⟨n0, hn0⟩ : ∃ q, decide (s ≠ 0) = q := ⟨_, rfl⟩
        obtain ⟨n1, hn1⟩ : ∃ q, decide (s ≠ 1) = q := ⟨_, rfl⟩
        obtain ⟨n3, hn3⟩ : ∃ q, decide (s ≠ 3) = q := ⟨_, rfl⟩
        obtain ⟨e2, he2⟩ : ∃ q, decide (s = 2) = q := ⟨_, rfl⟩
        obtain ⟨e3, he3⟩ : ∃ q, decide (s = 3) = q := ⟨_, rfl⟩
        have hok : okS s = (!p0 && !p4) := by
          unfold okS
          rw [← hp0, ← hp4]
          by_cases h1 : 0 ≤ s <;> by_cases h2 : s ≤ 3 <;> simp [h1, h2] <;> omega
        have her : erS c s = (n3 && (n0 || !c) && (n1 || c)) := by
          unfold erS
          rw [← hn3, ← hn0, ← hn1]
          simp
        have hla : laS s = (e2 || e3) := by unfold laS; rw [he2, he3]
        rw [her] at hE
        rw [hla] at hL
        rw [hok] at hO
        refine W_skip ?_
        refine W_seq ?_
        refine W_csK 40 (.raw (.bool (p0 || p4))) [2, 3, 4, 7, 8, 9, 10] rfl ?_ ?_
        · refine .a 1 rfl <| .v (y_q rfl (hp0)) rfl <| .a 1 rfl <| ?_
          cases p0
          · exact .a 1 rfl <| .v (y_q rfl (hp4)) rfl <| .a 1 rfl <| .k [40, 2, 3, 4, 7, 8, 9, 10] rfl
          · exact .a 3 rfl <| .k [40, 2, 3, 4, 7, 8, 9, 10] rfl
        refine W_cond rfl (fun hc => ?_) (fun hc => ?_)
        · have hbad : allS k x (fun n => okS (stA l n)) l.length = false := by
            refine allS_bad hlt hg0 ?_
            show okS (stA l i) = false
            rw [hs, hok]
            cases p0 <;> cases p4 <;> simp_all
          refine W_cs (.a 1 rfl <| .k [6] rfl) ?_
          refine W_ret ?_
          exact ⟨_, _, ResL.of rfl, Pur.pure, by rw [hP, hbad]; rfl⟩
        · have hO1 : allS k x (fun n => okS (stA l n)) (i + 1) = true := by
            rw [hO]
            cases p0 <;> cases p4 <;> simp_all
          clear hO
          have hO := hO1
          refine W_skip ?_
          refine W_csK 7 (.raw (.bool (eb && (n3 && (n0 || !c) && (n1 || c))))) [2, 3, 4, 8, 9, 10] rfl ?_ ?_
          · refine .a 2 rfl <| ?_
            cases eb
            · exact .a 25 rfl <| .k [7, 2, 3, 4, 8, 9, 10] rfl
            · refine .a 1 rfl <| .v (y_q rfl (hn3)) rfl <| .a 2 rfl <| ?_
              cases n3
              · exact .a 21 rfl <| .k [7, 2, 3, 4, 8, 9, 10] rfl
              · refine .a 1 rfl <| .v (y_q rfl (hn0)) rfl <| .a 1 rfl <| ?_
                cases n0
                · refine .a 3 rfl <| .c rfl (hco) rfl <| .a 4 rfl <| ?_
                  cases c
                  · refine .a 1 rfl <| .v (y_q rfl (hn1)) rfl <| .a 1 rfl <| ?_
                    cases n1
                    · exact .a 3 rfl <| .c rfl (hco) rfl <| .a 3 rfl <| .k [7, 2, 3, 4, 8, 9, 10] rfl
                    · exact .a 7 rfl <| .k [7, 2, 3, 4, 8, 9, 10] rfl
                  · exact .a 10 rfl <| .k [7, 2, 3, 4, 8, 9, 10] rfl
                · refine .a 9 rfl <| .v (y_q rfl (hn1)) rfl <| .a 1 rfl <| ?_
                  cases n1
                  · exact .a 3 rfl <| .c rfl (hco) rfl <| .a 3 rfl <| .k [7, 2, 3, 4, 8, 9, 10] rfl
                  · exact .a 7 rfl <| .k [7, 2, 3, 4, 8, 9, 10] rfl
          refine W_chainK 8 (.raw (.bool (lb && (e2 || e3)))) [2, 3, 4, 7, 9] rfl ?_ ?_
          · refine .a 2 rfl <| ?_
            cases lb
            · exact .a 8 rfl <| .k [8, 2, 3, 4, 7, 9] rfl
            · refine .a 1 rfl <| .v (y_q rfl (he2)) rfl <| .a 1 rfl <| ?_
              cases e2
              · exact .a 1 rfl <| .v (y_q rfl (he3)) rfl <| .a 3 rfl <| .k [8, 2, 3, 4, 7, 9] rfl
              · exact .a 5 rfl <| .k [8, 2, 3, 4, 7, 9] rfl
          refine W_chain (.a 1 rfl <| .v (y_ar rfl) rfl <| .a 1 rfl <| .k [2, 3, 4, 7, 8, 9] rfl) ?_
          exact ⟨l.length - (i + 1), by omega, i + 1, by omega, hO, rfl, by rw [hE, hL]; rfl⟩
    · have hie : i = l.length := by have := ff hc; omega
      subst hie
      refine W_exit ?_
      refine W_csK 6 (.raw (.bool (eb || lb))) [] rfl ?_ ?_
      · refine .a 2 rfl <| ?_
        cases eb
        · exact .a 3 rfl <| .k [6] rfl
        · exact .a 3 rfl <| .k [6] rfl
      refine W_ret ?_
      exact ⟨_, _, ResL.of rfl, Pur.pure, by rw [hP, hO0, heb, hlb]; rfl⟩
end PW
end Go.Proofs.YtnegbdpggideiaaGreatDoor

namespace Go.Proofs.YtnegbdpggideiaaGreatDoor
set_option linter.unusedVariables false
set_option linter.unusedSimpArgs false
namespace PW
open Go.RowKit Reg Mem Net Rng
end PW
end Go.Proofs.YtnegbdpggideiaaGreatDoor

namespace Go.Proofs.YtnegbdpggideiaaGreatDoor
set_option linter.unusedVariables false
set_option linter.unusedSimpArgs false
namespace PW
open Go.RowKit Reg Mem Net Rng
set_option maxRecDepth 10000 in
set_option maxHeartbeats 1000000 in
theorem lawMPerm_can (c:Q31):Can Tryz.prog 4 [q31V c] (· =flag true):=by
 obtain⟨w1,hw1⟩:∃q,q=true:=⟨_,rfl⟩
 have haw:Can Tryz.prog 23 [] (· =flag w1):=hw1▸awake31_can
 obtain⟨w2,hw2⟩:∃q,manyS c=q:=⟨_,rfl⟩
 refine can_of Tryz.func4 rfl Tryz.ntmps4 rfl ?_
 refine W_cs (.a 2 rfl<|.k [1] rfl) ?_
 refine W_seq ?_
 refine W_csK 8 (.raw (.bool (!w1 ||w2))) [1] rfl ?_ ?_
 ·refine .c rfl (haw) rfl<|.a 2 rfl<|?_
  cases w1
  ·exact .a 3 rfl<|.k [8,1] rfl
  ·exact .a 1 rfl<|.c rfl (hw2▸large31_can c) rfl<|.a 1 rfl<|.k [8,1] rfl
 refine W_cond rfl (fun hc=>?_) (fun hc=>?_)
 ·refine W_cs (.c rfl (awake31_can) rfl<|.a 1 rfl<|.k [2] rfl) ?_
  refine W_ret ?_
  exact⟨_,_,ResL.of rfl,Pur.pure,rfl⟩
 ·have hy:manyS c=false:=by rw[hw2];exact(Bool.or_eq_false_iff.1 hc).2
  obtain⟨s1,s2,s3⟩:=not_many hy
  have hA:=mperm_can c.T c.k c.x c.S (by omega)
  have hB:=rperm_can c.T c.k c.x c.S (by omega)
  generalize permB c.T c.k c.x c.S=b at hA hB
  refine W_skip ?_
  refine W_drs mixed (by kernel_rfl) (.a 5 rfl<|.v [14] (y_ld rfl (rfl)) rfl rfl<|.v [11,13,15] (y_c rfl (hA)) rfl rfl<|.a 5 rfl<|.v [21] (y_ld rfl (rfl)) rfl rfl<|.v [18,20,22] (y_c rfl (hB)) rfl rfl<|.a 2 rfl<|.k [2] rfl) ?_
  refine W_ret ?_
  exact⟨_,_,ResL.of rfl,Pur.pure,by simp;rfl⟩
end PW
end Go.Proofs.YtnegbdpggideiaaGreatDoor

namespace Go.Proofs.YtnegbdpggideiaaGreatDoor.mixturePermitted
set_option linter.unusedVariables false
set_option linter.unusedSimpArgs false
open Go.ChangeShapes Go.WideShapes Go.ChangeAt Go.RowKit
open Reg Mem PW
set_option linter.unusedVariables false
set_option maxRecDepth 100000 in
theorem lifted (os:Os) (started:os.Started) (H:Type) (enc:TypeId×Value→H):
  ReturnsInHanded {} Tryz.checked os 4 .any (fun w args=>(Rows.mixturePermittedSpec.pre enc Tryz.prog Tryz.f4 [] false w args∧laidMetH Tryz.prog Rows.mixturePermittedRow.laid w)∧sizedMet enc Tryz.prog Tryz.f4 (OpenSpec.ofChange Rows.mixturePermittedSpec) false w args)
   (Rows.mixturePermittedSpec.post enc Tryz.prog Tryz.f4 false true false false):=by
 refine returnsInHanded_of_change_and (C:=Tryz.checked) (X:=fun w _=>laidMetH Tryz.prog Rows.mixturePermittedRow.laid w) (fun _ _ _ hh h=>h.of_heap hh) own started (by kernel_rfl) Tryz.func4
  (ChangeSpec.witness_shaped (enc:=enc) (C:=Tryz.checked) (os:=os) (X:=fun w _=>laidMetH Tryz.prog Rows.mixturePermittedRow.laid w) false (World.doorLaid Tryz.prog 400 os) #[.agg #[.int .i64 0,.slice none 0 0,.slice none 0 0,.int .i64 0,.int .i64 0,.slice none 0 0,.int .i64 0,.int .i64 0]] 8 rfl (World.shaped_of_RefB (by kernel_rfl) (by kernel_rfl)) (by kernel_rfl) (by kernel_rfl) (by kernel_rfl) (laidMetH_of_parts3 (fuel:=8) (laidMet_of_run' 8 (by kernel_rfl) (by kernel_rfl)) (by kernel_rfl) (by kernel_rfl))) ?_
 intro W base args ds gs before hval0 hW _ _ hL _
 have hval:∀(j:Nat) t v,Tryz.f4.params[j]? =some t→args[j]? =some v→Value.okWide Tryz.prog W .any base t v:=hval0
 have hW':=hW
 obtain⟨p,q,hA0,hV,rfl,hfz,hnd⟩:=hW
 have hA:DataW.TrodAll enc Tryz.prog W 0 (fun _=>true) true Tryz.f4.params.toList args.toList ds p:=hA0
 rw[Tryz.params4]at hA hval
 obtain⟨v0,vs0,d0,ds0,p0,q0,hargs,rfl,rfl,h0,r0⟩:=trodAll_cons hA
 obtain⟨rfl,rfl,rfl⟩:=trodAll_nil r0
 obtain rfl:args= #[v0]:=by cases args;simp_all
 obtain⟨rfl,rfl⟩:=trodVars_none hV
 have lt0:=lt_of h0
 obtain⟨c,R0⟩:=rd_q31 (hval 0 50 v0 rfl rfl) h0
 clear hA0 hval0
 refine((lawMPerm_can c) (fun _=>False) W #[v0] (fun _ h=>h.elim) (glob_laid hL) (RepL.cons R0 (RepL.nil _ _))).mono fun e W' ⟨x,he,bel,r,hr,hx⟩=>?_
 subst hr
 cases hx
 subst he
 exact⟨_,rfl,_,_,_,[],_,[],hW',trodAll_mk1 (shut_bool Tryz.underlying4 _),(trodAll_cons_mk (Below.trod laidOut (by kernel_rfl) (of_decide_eq_true (by kernel_rfl)) h0 bel lt0) trodAll_mk0),rfl,bel.frame _,fun h=>by cases h⟩
set_option maxRecDepth 100000 in
theorem cl1:(Rows.mixturePermittedRow.inPlace==Tryz.prog.inPlace 4)=true:=by kernel_rfl
set_option maxRecDepth 100000 in
theorem cl2:(Rows.mixturePermittedRow.unfollowed==Tryz.prog.unfollowed 4)=true:=by kernel_rfl
set_option maxRecDepth 100000 in
theorem cl3:(Rows.mixturePermittedRow.recurses==Tryz.prog.recurses 4)=true:=by kernel_rfl
set_option maxRecDepth 100000 in
theorem cl4:(Rows.mixturePermittedRow.named==Tryz.prog.varsNamed 4)=true:=by kernel_rfl
set_option maxRecDepth 100000 in
theorem closed:joinedFacts Tryz.prog 4 Tryz.f4 Rows.mixturePermittedSpec Rows.mixturePermittedRow=true:=by
 unfold joinedFacts
 rw[cl1,cl2,cl3,cl4]
 kernel_rfl
theorem over:Rows.mixturePermittedRow.holds Tryz.pinned (OpenSpec.ofChange Rows.mixturePermittedSpec):=
 OpenClaim.holds_of_wide 4 Tryz.f4 rfl rfl rfl rfl rfl rfl rfl ⟨rfl,rfl,rfl,rfl,rfl⟩ rfl rfl rfl rfl rfl (by kernel_rfl) Tryz.func4 closed
  (of_decide_eq_true (by kernel_rfl)) (by unfold Func.isWrapper;first|(rw[if_pos (by decide+kernel)];kernel_rfl)|(rw[if_neg (by decide+kernel)];exact⟨rfl,rfl⟩))
  (fun os started H enc _=>lifted os started H enc)
theorem proved:Rows.MixturePermittedCardSaid:=
 Claim7.holds_tied_plain_at .later [] [.data,.data,.data] true (true,"3eedc3262a1e22f25a0699067de5cf2e4c3ca5fe316ddc4ea68067e33fe38499") false
  over (fun _ h=>by cases h) (by kernel_rfl) (fun _ h=>by cases h) mixturePermitted_row_tie rfl ⟨rfl,rfl⟩ (by kernel_rfl) rfl
  (fun f fn hf hfn=>by
   obtain rfl:f=4:=Option.some.inj ((show Tryz.prog.funcNamed "waypoint/waypointlaw31.MixturePermitted" =some 4 by kernel_rfl).symm.trans hf) |>.symm
   obtain rfl:fn=Tryz.f4:=(Option.some.inj (Tryz.func4.symm.trans hfn)).symm
   exact⟨by kernel_rfl,fun j t ht=>by
    rw[Tryz.params4]at ht
    have hm:t∈[50]:=by simpa using Array.mem_of_getElem? ht
    have hall:([50].all fun u=> !Tryz.prog.wantsStandIn u)=true:=by kernel_rfl
    exact(show Tryz.prog.wantsStandIn t=false by simpa using List.all_eq_true.1 hall t hm)⟩)
  (by kernel_rfl)
end Go.Proofs.YtnegbdpggideiaaGreatDoor.mixturePermitted
