/- Texts of the proof, part 5. -/
import Derived.Test.YtnegbdpggideiaaGreatDoorCardMPB4
namespace Go.Proofs.YtnegbdpggideiaaGreatDoor
set_option linter.unusedVariables false
set_option linter.unusedSimpArgs false
namespace PW
open Go.RowKit Go.Shelf Reg Mem Net Rng
attribute [local go_sem] Oper.semAt_some
def onlyK (K:St→Prop):Exit→St→Prop
 | .normal,s=>K s
 |_,_=>False
theorem piece {P:Program} {N L n:Nat} {c:Code} {st:St} {K:St→Prop} {F:Nat→Prop} {base:Nat} {E₀ E:Env} {w₀ w:World} {a:Act} {Q:Exit→Act→World→Prop} (hc:Came base L E₀ w₀ E w) (hs:SatSt F base N st E a w) (h:W P N L c st (onlyK K)) (hq:∀s E' a' w',K s→SatSt F base N s E' a' w'→Goes E₀ w₀ E' w'→Below base w₀ w'→Q .normal a' w'):c.wpIn Fence.wide n P Q a w:=
 wpIn_wide.2 (wp_mono (h F base E₀ w₀ E a w hc hs) fun e a' w' ⟨s,E',k1,k2,k3,k4⟩=>by
  cases e<;>first|exact hq s E' a' w' k1 k2 k3 k4|exact k1.elim)
def isDefer:Op→Bool
 | .defer _=>true
 |_=>false
theorem no_defer {ops:Array Oper} (h:(ops.all fun o=> !isDefer o.op)=true) (i:Nat) (o:Oper) (ho:ops[i]? =some o) (c:Call):o.op≠ .defer c:=fun e=>by
 have:=Array.all_eq_true'.1 h o (Array.mem_of_getElem? ho)
 rw[e]at this
 cases this
theorem lnkV_of {E:Env} {w w':World} {v:Value} {L:List Lnk} {n₁ G:Nat} (h:Rep E w v (.slice L.length (lnksP L))) (hE:Ext w w') (hG:G=n₁∨E.M G) (hlt:∀b,E.M b→b<w.heap.size) (hn:w'.heap.size=n₁:=by rfl):LnkV n₁ G w' v L:=by
 generalize hn1:L.length=m at h
 generalize hxs:lnksP L=xs at h
 cases h with
 |nils=>exact .inl ⟨none,0,rfl,List.eq_nil_of_length_eq_zero hn1⟩
 |empty a c _=>exact .inl ⟨some a,c,rfl,List.eq_nil_of_length_eq_zero hn1⟩
 |slice b off _ c cs _ h0 h1 h2 hb hM hc hl hr=>
  subst hn1
  subst hxs
  have hz:=hE.size
  refine .inr ⟨b,off,c,rfl,by omega,fun e=>?_,fun i hi=>?_⟩
  ·subst e
   rcases hG with h|h
   ·omega
   ·exact hM h
  ·have key:∀j v,(lnkP (lnk L i))[j]? =some (.raw v)→j<7→w'.cell? ⟨b,off+(i*7+j),none⟩=some v:=fun j v hj h7=>by
    have e:=lnks_getP L i j hi h7
    rw[hj]at e
    have hlt:i*7+j<cs.length:=by rw[hl];exact(List.getElem?_eq_some_iff.1 e).1
    have hcs:cs[i*7+j]? =some cs[i*7+j]:=List.getElem?_eq_getElem hlt
    have:=rep_raw (hr _ _ _ hcs e)
    rw[this]at hcs
    exact hE.cell (hc _ _ hcs)
   have k0:=key 0 _ rfl (by omega)
   have k1:=key 1 _ rfl (by omega)
   have k2:=key 2 _ rfl (by omega)
   have k3:=key 3 _ rfl (by omega)
   have k4:=key 4 _ rfl (by omega)
   have k5:=key 5 _ rfl (by omega)
   have k6:=key 6 _ rfl (by omega)
   simp only[←Nat.add_assoc,Nat.add_zero]at k0 k1 k2 k3 k4 k5 k6
   exact⟨k0,k1,k2,k3,k4,k5,k6⟩
theorem loop_two {P:Program} {F:Fence} {n:Nat} {c:Code} {Q:Exit→Act→World→Prop} {a:Act} {w:World} (Fin:Act→World→Prop) (h1:c.wpIn F n P (Exit.then Fin Q) a w) (h2:∀a' w',Fin a' w'→c.wpIn F n P (Exit.then (fun _ _=>False) Q) a' w'):(Code.loop c).wpIn F n P Q a w:=by
 have mono:∀ {K K':Act→World→Prop} {a:Act} {w:World},(∀a w,K a w→K' a w)→c.wpIn F n P (Exit.then K Q) a w→c.wpIn F n P (Exit.then K' Q) a w:=fun hk h b k cs hro hb hr=>by
  obtain⟨e,a',w',q,r⟩:=h b k cs hro hb hr
  exact⟨e,a',w',by cases e<;>first|exact hk _ _ q|exact q,r⟩
 classical
 by_cases hf:Fin a w
 ·exact wpIn_loop Fin (fun _ _=>0) hf (fun a w h=>mono (fun _ _ h=>h.elim) (h2 a w h))
 ·refine wpIn_loop (fun a' w'=>(a'=a∧w'=w)∨Fin a' w') (fun a' w'=>if Fin a' w' then 0 else 1) (.inl ⟨rfl,rfl⟩) ?_
  rintro a' w' (⟨rfl,rfl⟩|h)
  ·exact mono (fun a'' w'' h=>⟨.inr h,by rw[if_pos h,if_neg hf];exact Nat.one_pos⟩) h1
  ·exact mono (fun _ _ h=>h.elim) (h2 a' w' h)
theorem cons_of {α:Type} {l:List α} {n:Nat} (h:l.length=n+1):∃a t,l=a::t∧t.length=n:=by
 cases l with
 |nil=>simp at h
 |cons a t=>exact⟨a,t,rfl,by simpa using h⟩
set_option maxRecDepth 100000 in
set_option maxHeartbeats 4000000 in
theorem union_raw (T:Topo) (k x:Int) (hv:validB T=true) (hc:compB T k x=true) (w:World) (vs:Array Value) (hR:RepL (EF fun _=>False) w vs.toList [topoV T,.slice 1 (compP k x)]) (gl:Glob (fun _=>False) w):
  Calls Tryz.prog 60 vs w fun e w'=>∃v,e= .returned (.tuple #[v,.int .i64 0])∧Ext w w'∧w'.ownsRow w.heap.size 4 1 v (2*T.links.length) ((maskL T k x).map Value.bool):=by
 have hll:=links_le hv
 have hS:=Sat.start (fun _=>False) w (fun _ h=>h.elim) gl
 refine(callsIn_wide (n:=4)).1 ?_
 refine callsIn_of_wp_marks Tryz.func60 rfl trivial ?_ rfl
 have hs0:=enter_sat (N:=41) hS hR (by have:=hR.1;simp at this;omega)
 have hc0:Came w.heap.size 0 (EF fun _=>False) w (EF fun _=>False) w:=⟨rfl,Goes.refl _ _,Below.refl _ _⟩
 refine wpIn_seq (piece (K:=fun s=>s=⟨[(1,.slice 1 (compP k x)),(2,.pin (topoP T) 0)],[]⟩) hc0 hs0 ?_ ?_)
 ·skip
  refine W_chain (.a 3 rfl<|.k [1,2] rfl) ?_
  exact rfl
 rintro _ E1 a1 w1 rfl hs1 g1 b1
 refine wpIn_seq (piece (K:=fun s=>s=⟨[(1,.slice 1 (compP k x)),(2,.pin (topoP T) 0)],[]⟩) ⟨rfl,g1,b1⟩ hs1 ?_ ?_)
 ·skip
  refine W_cs (.a 1 rfl<|.c rfl (valid_can T) rfl<|.a 1 rfl<|.k [1,2,12] rfl) ?_
  rw[hv]
  refine W_cond rfl (fun hc=>?_) (fun hc=>?_)
  ·cases hc
  ·refine W_k [1,2] rfl (W_skip ?_)
   exact rfl
 rintro _ E2 a2 w2 rfl hs2 g2 b2
 refine wpIn_seq (piece (K:=fun s=>s=⟨[(1,.slice 1 (compP k x)),(2,.pin (topoP T) 0),(6,.ptr 1 0)],[some (.row 4 1 (2*T.links.length) (boolsP (List.replicate (2*T.links.length) false))),some (.cells 22 [.own 0])]⟩) ⟨rfl,g2,b2⟩ hs2 ?_ ?_)
 ·skip
  refine W_region ?_
  refine WR_a 1 rfl<|WR_c rfl (arcs_can T (by omega)) rfl<|WR_l (l_make rfl (fok.rk.get rfl) rfl rfl (show 2*(T.links.length:Int)=((2*T.links.length:Nat):Int) by omega) (show 2*(T.links.length:Int)=((2*T.links.length:Nat):Int) by omega) ⟨by unfold maxLen;omega,by omega⟩) rfl<|WR_a 2 rfl<|WR_k [1,2,6] rfl ?_
  rw[←zeros_bools]
  rfl
 rintro _ E3 a3 w3 rfl hs3 g3 b3
 obtain⟨n,hn⟩:∃n,2*T.links.length=n:=⟨_,rfl⟩
 rw[hn]at hs3
 obtain⟨B,cs1,hB,hBb,hBh,hBr⟩:=hs3.sat.blk 1 _ rfl
 obtain⟨cs0,hrow,hcs0⟩:=hs3.sat.blk 0 _ rfl
 have t1:=hs3.tmp 1 _ rfl
 have t2:=hs3.tmp 2 _ rfl
 have t6:=hs3.tmp 6 _ rfl
 have hsz:=hs3.size
 have hdf:=hs3.dfr
 obtain⟨arr,ds⟩:=a3
 simp only at hdf hsz
 subst hdf
 obtain⟨al⟩:=arr
 replace hsz:al.length=41:=by simpa using hsz
 obtain⟨x0,z0,e0,k0⟩:=cons_of (n:=40) hsz
 obtain⟨x1,z1,e1,k1⟩:=cons_of (n:=39) k0
 obtain⟨x2,z2,e2,k2⟩:=cons_of (n:=38) k1
 obtain⟨x3,z3,e3,k3⟩:=cons_of (n:=37) k2
 obtain⟨x4,z4,e4,k4⟩:=cons_of (n:=36) k3
 obtain⟨x5,z5,e5,k5⟩:=cons_of (n:=35) k4
 obtain⟨x6,z6,e6,k6⟩:=cons_of (n:=34) k5
 obtain⟨x7,z7,e7,k7⟩:=cons_of (n:=33) k6
 obtain⟨x8,z8,e8,k8⟩:=cons_of (n:=32) k7
 obtain⟨x9,z9,e9,k9⟩:=cons_of (n:=31) k8
 obtain⟨x10,z10,e10,k10⟩:=cons_of (n:=30) k9
 obtain⟨x11,z11,e11,k11⟩:=cons_of (n:=29) k10
 obtain⟨x12,z12,e12,k12⟩:=cons_of (n:=28) k11
 obtain⟨x13,z13,e13,k13⟩:=cons_of (n:=27) k12
 obtain⟨x14,z14,e14,k14⟩:=cons_of (n:=26) k13
 obtain⟨x15,z15,e15,k15⟩:=cons_of (n:=25) k14
 obtain⟨x16,z16,e16,k16⟩:=cons_of (n:=24) k15
 obtain⟨x17,z17,e17,k17⟩:=cons_of (n:=23) k16
 obtain⟨x18,z18,e18,k18⟩:=cons_of (n:=22) k17
 obtain⟨x19,z19,e19,k19⟩:=cons_of (n:=21) k18
 obtain⟨x20,z20,e20,k20⟩:=cons_of (n:=20) k19
 obtain⟨x21,z21,e21,k21⟩:=cons_of (n:=19) k20
 obtain⟨x22,z22,e22,k22⟩:=cons_of (n:=18) k21
 obtain⟨x23,z23,e23,k23⟩:=cons_of (n:=17) k22
 obtain⟨x24,z24,e24,k24⟩:=cons_of (n:=16) k23
 obtain⟨x25,z25,e25,k25⟩:=cons_of (n:=15) k24
 obtain⟨x26,z26,e26,k26⟩:=cons_of (n:=14) k25
 obtain⟨x27,z27,e27,k27⟩:=cons_of (n:=13) k26
 obtain⟨x28,z28,e28,k28⟩:=cons_of (n:=12) k27
 obtain⟨x29,z29,e29,k29⟩:=cons_of (n:=11) k28
 obtain⟨x30,z30,e30,k30⟩:=cons_of (n:=10) k29
 obtain⟨x31,z31,e31,k31⟩:=cons_of (n:=9) k30
 obtain⟨x32,z32,e32,k32⟩:=cons_of (n:=8) k31
 obtain⟨x33,z33,e33,k33⟩:=cons_of (n:=7) k32
 obtain⟨x34,z34,e34,k34⟩:=cons_of (n:=6) k33
 obtain⟨x35,z35,e35,k35⟩:=cons_of (n:=5) k34
 obtain⟨x36,z36,e36,k36⟩:=cons_of (n:=4) k35
 obtain⟨x37,z37,e37,k37⟩:=cons_of (n:=3) k36
 obtain⟨x38,z38,e38,k38⟩:=cons_of (n:=2) k37
 obtain⟨x39,z39,e39,k39⟩:=cons_of (n:=1) k38
 obtain⟨x40,z40,e40,k40⟩:=cons_of (n:=0) k39
 have e41:=List.eq_nil_of_length_eq_zero k40
 subst e41
 subst e40
 subst e39
 subst e38
 subst e37
 subst e36
 subst e35
 subst e34
 subst e33
 subst e32
 subst e31
 subst e30
 subst e29
 subst e28
 subst e27
 subst e26
 subst e25
 subst e24
 subst e23
 subst e22
 subst e21
 subst e20
 subst e19
 subst e18
 subst e17
 subst e16
 subst e15
 subst e14
 subst e13
 subst e12
 subst e11
 subst e10
 subst e9
 subst e8
 subst e7
 subst e6
 subst e5
 subst e4
 subst e3
 subst e2
 subst e1
 subst e0
 clear k0 k1 k2 k3 k4 k5 k6 k7 k8 k9 k10 k11 k12 k13 k14 k15 k16 k17 k18 k19 k20 k21 k22 k23 k24 k25 k26 k27 k28 k29 k30 k31 k32 k33 k34 k35 k36 k37 k38 k39 k40 hsz
 skip
 have e1:Act.eval ⟨⟨[x0,x1,x2,x3,x4,x5,x6,x7,x8,x9,x10,x11,x12,x13,x14,x15,x16,x17,x18,x19,x20,x21,x22,x23,x24,x25,x26,x27,x28,x29,x30,x31,x32,x33,x34,x35,x36,x37,x38,x39,x40]⟩,[]⟩ (.tmp 1)=x1:=rfl
 have e2:Act.eval ⟨⟨[x0,x1,x2,x3,x4,x5,x6,x7,x8,x9,x10,x11,x12,x13,x14,x15,x16,x17,x18,x19,x20,x21,x22,x23,x24,x25,x26,x27,x28,x29,x30,x31,x32,x33,x34,x35,x36,x37,x38,x39,x40]⟩,[]⟩ (.tmp 2)=x2:=rfl
 have e6:Act.eval ⟨⟨[x0,x1,x2,x3,x4,x5,x6,x7,x8,x9,x10,x11,x12,x13,x14,x15,x16,x17,x18,x19,x20,x21,x22,x23,x24,x25,x26,x27,x28,x29,x30,x31,x32,x33,x34,x35,x36,x37,x38,x39,x40]⟩,[]⟩ (.tmp 6)=x6:=rfl
 rw[e1]at t1
 rw[e2]at t2
 rw[e6]at t6
 clear e1 e2 e6
 cases t1 with
 |slice lb lo _ lcap lcs _ _ hl1 hl2 hlb hlM hlc hll' hlr=>
  match lcs,hll',hlc,hlr with
  | [u0,u1],_,hlc,hlr=>
   have hu0:=rep_raw (hlr 0 u0 _ rfl rfl)
   have hu1:=rep_raw (hlr 1 u1 _ rfl rfl)
   subst hu0
   subst hu1
   have l0:=hlc 0 _ rfl
   have l1:=hlc 1 _ rfl
   clear hlc hlr
   cases t2 with
   |pin bt bo off tcs _ htb htM htc htl htr=>
    match tcs,htl,htc,htr with
    | [c0,c1,c2],_,htc,htr=>
     have m0:=htc 0 _ rfl
     have m1:=htc 1 _ rfl
     have m2:=htc 2 _ rfl
     have hT3:RepL E3 w3 [c0,c1,c2] (topoP T):=⟨rfl,htr⟩
     cases t6 with
     |ptr _ _ B' _ h6=>
      have hBB:B'=B:=by
       rcases h6 with h6|⟨n',c',h6⟩
       ·rw[hB]at h6;cases h6;rfl
       ·rw[hB]at h6;cases h6
      subst hBB
      clear h6
      simp only[Nat.add_zero]at l0 l1 m0 m1 m2 ⊢
      have hcw:=cwithin_can T k x
      rw[hc]at hcw
      have E34:Ext w3 (w3.alloc (.cells #[.int .i64 k,.int .i64 x] 33)):=(Ext.refl w3).alloc _
      have hwi:=(callsIn_wide (n:=3)).2 (hcw (fun _=>False) (w3.alloc (.cells #[.int .i64 k,.int .i64 x] 33)) #[.agg #[c0,c1,c2],.agg #[.int .i64 k,.int .i64 x]] (fun _ h=>h.elim) ((hs3.sat.gl.sub (fun _ h=>h.elim)).goes (E:=EF fun _=>False) (E':=EF fun _=>False) (.ext E34)) (RepL.cons (.agg _ _ rfl (fun j z u k1 k2=>((hT3.pure (fun _ h=>h.elim):RepL (EF fun _=>False) w3 [c0,c1,c2] (topoP T)).2 j z u (by simpa using k1) k2).goes (.ext E34))) (RepL.cons (.agg _ _ rfl (fun j z u k1 k2=>(RepL.cons (.raw _) (RepL.cons (.raw _) (RepL.nil _ _)):RepL (EF fun _=>False) _ [.int .i64 k,.int .i64 x] (compP k x)).2 j z u (by simpa using k1) k2)) (RepL.nil _ _))))
      gi_wp2
      refine loop_two (fun a' w'=>∃(y0 y1 y2 y3 y4 y5 y7 y8 y9 y10 y11 y12 y13 y14 y15 y16 y19 y20 y21 y22 y23 y24 y25 y26 y27 y28 y29 y30 y31 y32 y33 y34 y35 y36 y37 y38 y39 y40:Value) (D:Nat),a'=⟨#[y0,y1,y2,y3,y4,y5,Value.pointer (some ⟨B',0,none⟩),y7,y8,y9,y10,y11,y12,y13,y14,y15,y16,Value.int .i64 1,Value.int .i64 1,y19,y20,y21,y22,y23,y24,y25,y26,y27,y28,y29,y30,y31,y32,y33,y34,y35,y36,y37,y38,y39,y40],[⟨.collected D,#[]⟩]⟩∧UniW w.heap.size n B' (E3.at_ 0) E3.M (maskL T k x) w'∧Below w.heap.size w w'∧w.heap.size≤D∧w'.heap[D]? =some (.deferred (some []))) ?_ ?_
      ·gi_wp2
       refine⟨trivial,hwi.mono ?_⟩
       rintro e w5 ⟨v5,rfl,hE5,r,rfl,hv5⟩
       cases hv5
       have q0:w5.cell? ⟨bt,bo,none⟩=some c0:=hE5.cell (cell_al _ m0)
       have q1:w5.cell? ⟨bt,bo+1,none⟩=some c1:=hE5.cell (cell_al _ m1)
       have q2:w5.cell? ⟨bt,bo+2,none⟩=some c2:=hE5.cell (cell_al _ m2)
       have q3:w5.cell? ⟨w3.heap.size,0,none⟩=some (.int .i64 k):=hE5.cell (new2 w3 _ _ _).1
       have q4:w5.cell? ⟨w3.heap.size,1,none⟩=some (.int .i64 x):=hE5.cell (new2 w3 _ _ _).2
       gi_wp2
       refine⟨trivial,(links_in c0 c1 c2 k x 3 w5).mono ?_⟩
       rintro e w6 ⟨rfl,rfl⟩
       gi_wp2
       have E35:Ext w3 w5:=E34.trans hE5
       have hz5:=E35.size
       have E56:Ext w5 ((w5.alloc (.cells #[c0,c1,c2] 25)).alloc (.cells #[.int .i64 k,.int .i64 x] 33)):=((Ext.refl w5).alloc _).alloc _
       have hz6:((w5.alloc (.cells #[c0,c1,c2] 25)).alloc (.cells #[.int .i64 k,.int .i64 x] 33)).heap.size=w5.heap.size+2:=by simp
       have p2:((w5.alloc (.cells #[c0,c1,c2] 25)).alloc (.cells #[.int .i64 k,.int .i64 x] 33)).cell? ⟨w5.heap.size,2,none⟩=some c2:=cell_al _ (new3 w5 _ _ _ _)
       have p3:((w5.alloc (.cells #[c0,c1,c2] 25)).alloc (.cells #[.int .i64 k,.int .i64 x] 33)).cell? ⟨w5.heap.size+1,0,none⟩=some (.int .i64 k):=by
        have:=(new2 (w5.alloc (.cells #[c0,c1,c2] 25)) (.int .i64 k) (.int .i64 x) 33).1
        rwa [World.size_alloc]at this
       have p4:((w5.alloc (.cells #[c0,c1,c2] 25)).alloc (.cells #[.int .i64 k,.int .i64 x] 33)).cell? ⟨w5.heap.size+1,1,none⟩=some (.int .i64 x):=by
        have:=(new2 (w5.alloc (.cells #[c0,c1,c2] 25)) (.int .i64 k) (.int .i64 x) 33).2
        rwa [World.size_alloc]at this
       generalize (w5.alloc (.cells #[c0,c1,c2] 25)).alloc (.cells #[.int .i64 k,.int .i64 x] 33)=w6 at*
       have E36:Ext w3 w6:=E35.trans E56
       obtain⟨hU3,hone⟩:=UniW.of hs3.sat hB
       have hU6:UniW w.heap.size n B' (E3.at_ 0) E3.M (List.replicate n false) w6:=hU3.same E36.size (fun b cs t fz hb=>E36.block b (Array.getElem?_eq_some_iff.1 hb).1)
       have hL3:E3.L=2:=hs3.sat.len
       obtain⟨G,hGv,hGM⟩:∃G,(∀b,blockOf (E3.at_ 0)=some b→b=G)∧(G=w6.heap.size∨E3.M G):=by
        cases hbo:blockOf (E3.at_ 0)with
        |none=>exact⟨_,fun b h=>(by cases h),.inl rfl⟩
        |some g=>exact⟨g,fun b h=>(by cases h;rfl),.inr ((hs3.sat.mm g).2 (.inr ⟨0,_,rfl,hbo⟩))⟩
       have hlk:=lnkV_of (n₁:=w6.heap.size) (hT3.2 2 c2 _ rfl rfl) E36 hGM (fun b hb=>hs3.sat.lt hb)
       have hGc:w5.heap.size+1≠G:=by
        rcases hGM with h|h
        ·omega
        ·have:=hs3.sat.lt h;omega
       have hk3:k=1∨k=2∨k=3:=by
        unfold compB at hc
        split at hc
        ·exact .inl ‹_›
        ·split at hc
         ·exact .inr (.inl ‹_›)
         ·split at hc
          ·exact .inr (.inr ‹_›)
          ·cases hc
       refine wpIn_rangeFunc_ownF (α:=Rng.Ix T.links.length) rfl (by omega) (gf:=160) (lb:= #[.pointer (some ⟨w5.heap.size,0,none⟩),.pointer (some ⟨w5.heap.size+1,0,none⟩)]) rfl trivial (enters_of Tryz.func160 (by kernel_rfl) rfl)
        (encs:=fun i=> #[Value.int .i64 (i.1:Int)]) (links_stops T k x hk3 (by omega) 3 w5.heap.size (w5.heap.size+1) G (by omega) c2 w6 (by omega) (by omega) hGc p2 p3 p4 hlk) (fun h1 h2=>h1.trans h2) (fun W l o o' hl ho _ _=>⟨(grownBy_putObj' W l o').size,fun b h1 _=>(grownBy_putObj' W l o').block b (by have:=(Array.getElem?_eq_some_iff.1 ho).1;omega) (fun e=>by cases e;omega)⟩) (Below.refl _ _) (fun _=>rfl)
        (fun l W=>UniW w.heap.size n B' (E3.at_ 0) E3.M (mk2 n l) W∧Kp G w6.heap.size w6 W∧Below w.heap.size w W) (fun _ _ _=>False)
        (fun s W W' row hs hg hr=>⟨hs.1.grown hg (fun r e=>(hr r e).2),⟨Nat.le_trans hs.2.1.size hg.size,fun b h1 h2=>(hg.block b (by have:=hs.2.1.size;omega) (fun e=>by have:=(hr b e.symm).1;omega)).trans (hs.2.1.block b h1 h2)⟩,hs.2.2.trans ⟨hg.os,hg.tape,hg.output,hg.size,fun b h1=>hg.block b (by have:=hs.1.bl;omega) (fun e=>by have:=(hr b e.symm).1;have:=hU6.bl;omega)⟩⟩)
        (fun _ _ _ _ _ h _ _=>h) ⟨hU6,Kp.refl _ _ _,b3.trans (Below.ofExt E36 hs3.sat.bl)⟩
        (fun i=>⟨#[x0,Value.slice (some ⟨lb,lo,none⟩) 1 lcap,Value.pointer (some ⟨bt,bo,none⟩),x3,x4,x5,Value.pointer (some ⟨B',0,none⟩),x7,Value.pointer (some ⟨w3.heap.size,0,none⟩),Value.int .i64 (i.1:Int),x10,x11,x12,x13,x14,x15,Value.slice (some ⟨lb,lo,none⟩) 1 lcap,Value.int .i64 1,Value.int .i64 0,Value.bool true,Value.pointer (some ⟨lb,lo,none⟩),Value.agg #[.int .i64 k,.int .i64 x],Value.agg #[c0,c1,c2],Value.agg #[.int .i64 k,.int .i64 x],Value.bool true,Value.bool false,Value.agg #[c0,c1,c2],Value.agg #[.int .i64 k,.int .i64 x],Value.func (.func 160) #[] #[.pointer (some ⟨w5.heap.size,0,none⟩),.pointer (some ⟨w5.heap.size+1,0,none⟩)],Value.int .i64 (i.1:Int),x30,x31,x32,x33,x34,x35,x36,x37,x38,x39,x40],[]⟩) ?assign ?body ?done ?stop
       case assign=>
        intro l i W K hK
        gi_wp2
        exact hK
       case body=>
        rintro l pre i W ⟨hU,hK,hb⟩ hlt
        have hMl:=mk2_len (n:=n) pre
        have hi2:=i.2
        have hb11:=body11 (mk2 n pre) i.1 (by rw[hMl];omega) (by rw[hMl];omega)
        rw[hMl,←mk2_snoc]at hb11
        have hUd:UniW w.heap.size n B' (E3.at_ 0) E3.M (mk2 n pre) {W with drawn:=W.drawn+1}:=hU.same (Nat.le_refl _) (fun _ _ _ _ _=>rfl)
        have hsat:=hUd.sat hs3.sat rfl ⟨_,_,_,_,rfl⟩ hB hBb hone
        refine wpIn_block (wpIn_region_any mixed (wpAny_round (fun j o ho c=>?_) ?_ _ _ _ _ (hb11.any (fun _=>False) w.heap.size E3 {W with drawn:=W.drawn+1} E3 _ {W with drawn:=W.drawn+1} ⟨hL3,Goes.refl _ _,Below.refl _ _⟩ ⟨hsat,?_,rfl,rfl⟩ _ ?_)))
        ·exact no_defer (by kernel_rfl) j o ho c
        ·rintro⟨a',w',h⟩
         exact h
        ·intro k' p' hk'
         simp only[look,Bool.cond_eq_ite]at hk'
         split at hk'
         ·rename_i he
          have:=Nat.eq_of_beq_eq_true he
          subst this
          cases hk'
          exact .ptr 1 0 B' (by omega) (.inl hB)
         ·split at hk'
          ·rename_i he
           have:=Nat.eq_of_beq_eq_true he
           subst this
           cases hk'
           exact .raw _
          ·cases hk'
        ·rintro a' w' ⟨⟨t',σ'⟩,E',hσ,hs',hg',hb'⟩
         simp only at hσ
         subst hσ
         have hB'2:E'.at_ 1= .pointer (some ⟨B',0,none⟩):=(hg'.at_ 1 (by omega)).trans hB
         have hv':E'.at_ 0=E3.at_ 0:=hg'.at_ 0 (by omega)
         obtain⟨hU',_⟩:=UniW.of hs'.sat hB'2
         rw[hv']at hU'
         have hMM:∀b,E3.M b→E'.M b:=fun b hb=>by
          rcases(hs3.sat.mm b).1 hb with h|⟨j,blk,h1,h2⟩
          ·exact h.elim
          ·match j,h1 with
           |0,_=>exact(hs'.sat.mm b).2 (.inr ⟨0,_,rfl,by rw[hv'];exact h2⟩)
           |1,_=>exact(hs'.sat.mm b).2 (.inr ⟨1,_,rfl,by rw[hg'.at_ 1 (by omega)];exact h2⟩)
           |_+2,h1=>simp at h1
         have hown:∀b,E3.M b→blockOf (E3.at_ 0)=some b∨b=B':=fun b hb=>by
          rcases(hs3.sat.mm b).1 hb with h|⟨j,blk,h1,h2⟩
          ·exact h.elim
          ·match j,h1 with
           |0,_=>exact .inl h2
           |1,_=>rw[hB]at h2;cases h2;exact .inr rfl
           |_+2,h1=>simp at h1
         have hfin:UniW w.heap.size n B' (E3.at_ 0) E3.M (mk2 n (pre++[i])) w':=⟨hU'.bl,hU'.row,hU'.box,hU'.gl.sub hMM⟩
         have hzW:w6.heap.size≤W.heap.size:=hK.size
         have hkp:Kp G w6.heap.size W w':=⟨hg'.size,fun b h1 h2=>by
          by_cases hm:E3.M b
          ·rcases hown b hm with h|h
           ·exact absurd (hGv b h) h2
           ·rw[h,hU'.box,hU.box]
          ·exact hg'.heap b (show b<W.heap.size by omega) hm⟩
         refine⟨⟨hg'.size,fun b o hb ho=>?_⟩,hkp,hfin,hK.trans hkp,hb.trans ⟨hb'.os,hb'.tape,hb'.output,hb'.size,hb'.block⟩⟩
         have hnm:¬E3.M b:=fun hm=>by
          rcases hown b hm with h|h
          ·rcases hU.row.2 with⟨h1,_⟩|⟨g,cap,cur,h1,_,h3,_⟩
           ·rw[h1]at h;cases h
           ·rw[h1]at h
            cases h
            rw[h3]at hb
            cases hb
            cases ho
          ·rw[h,hU.box]at hb
           cases hb
           cases ho
         rw[hg'.heap b (Array.getElem?_eq_some_iff.1 hb).1 hnm]
         exact hb
       case done=>
        rintro D ys W hD rfl ⟨hU,hK,hb⟩ hDh
        have hmk:mk2 n (got (partB k x T.links) T.links.length T.links.length)=maskL T k x:=by rw[←hn];exact mask_eq T k x
        rw[hmk]at hU
        gi_wp2
        exact⟨_,_,_,_,_,_,_,_,_,_,_,_,_,_,_,_,_,_,_,_,_,_,_,_,_,_,_,_,_,_,_,_,_,_,_,_,_,_,D,rfl,hU,hb,by have:=hU6.bl;omega,hDh⟩
       case stop=>
        rintro D c pre W _ _ h _
        exact h.elim
      ·rintro a' w' ⟨y0,y1,y2,y3,y4,y5,y7,y8,y9,y10,y11,y12,y13,y14,y15,y16,y19,y20,y21,y22,y23,y24,y25,y26,y27,y28,y29,y30,y31,y32,y33,y34,y35,y36,y37,y38,y39,y40,D,rfl,hU,hb,hD,hDh⟩
       have hbx:w'.cell? ⟨B',0,none⟩=some (E3.at_ 0):=by
        unfold World.cell?
        simp only[hU.box]
        rfl
       gi_wp2
       have hput:=grownBy_putObj' w' D (.deferred none)
       have hnd:∀(g:Nat) (o:Array Value) (e:TypeId),w'.heap[g]? =some (Obj.cells o e (0,0))→(w'.putObj D (.deferred none)).heap[g]? =w'.heap[g]? :=fun g o e hg=>hput.block g (Array.getElem?_eq_some_iff.1 hg).1 (fun h=>by cases h;rw[hDh]at hg;cases hg)
       refine⟨by simp,.inl ⟨_,_,rfl,run_takeDeferred hDh,?_⟩⟩
       rw[hn]
       exact⟨_,results_tmp2 rfl _ _ _,E3.at_ 0,rfl,hb.trans ⟨hput.os,hput.tape,hput.output,hput.size,fun b h1=>hput.block b (by have:=hU.bl;omega) (fun h=>by cases h;omega)⟩,row_same hU.row (fun g o hg=>hnd g o _ hg)⟩
end PW
end Go.Proofs.YtnegbdpggideiaaGreatDoor

namespace Go.Proofs.YtnegbdpggideiaaGreatDoor
set_option linter.unusedVariables false
set_option linter.unusedSimpArgs false
namespace PW
open Go.RowKit Reg Mem Net Rng
theorem Can.ofS {P:Program} {f:FuncId} {ps:List PV} {R:PV→Sto→Prop} {S:PV→Prop} (h:CanS P f ps [] R) (hR:∀r σ',R r σ'→∃q,Pur σ' r q∧S q):Can P f ps S:=fun F w vs hF hG hr=>by
 refine(h F w.heap.size (EF F) w vs (Sat.start F w hF hG) hr).mono ?_
 rintro e w' ⟨v,r,σ',E',rfl,h1,h2,h3,h4,h5⟩
 obtain⟨q,k1,k2⟩:=hR r σ' h1
 exact⟨v,rfl,h4,q,k2,k1.rep h2 (fun b hb=>(h2.mm b).2 (.inl hb)) (fun b hb=>(h2.fb b hb).2) v h5⟩
theorem unionS_can (T:Topo) (k x:Int) (hv:validB T=true) (hc:compB T k x=true):CanS Tryz.prog 60 [topoV T,.slice 1 (compP k x)] [] (fun r σ'=>r= .tuple [.own 0,num 0]∧σ'=[some (.row 4 1 (2*T.links.length) (boolsP (maskL T k x)))]):=fun F base E w vs hS hR=>by
 refine(union_raw T k x hv hc w vs (hR.pure (fun _ h=>h.elim)) (hS.gl.sub fun _ h=>h.elim)).mono ?_
 rintro e w' ⟨v,rfl,hE,hrow⟩
 have hrow2:w'.ownsRow base 4 1 v (2*T.links.length) ((maskL T k x).map Value.bool):=⟨hrow.1,hrow.2.imp id fun⟨g,cap,cur,h1,h2,h3⟩=>⟨g,cap,cur,h1,Nat.le_trans hS.bl h2,h3⟩⟩
 have hnew:∀b,blockOf v=some b→w.heap.size≤b∧b<w'.heap.size:=fun b hb=>by
  rcases hrow.2 with⟨h1,_⟩|⟨g,cap,cur,h1,h2,h3,_⟩
  ·rw[h1]at hb;cases hb
  ·rw[h1]at hb
   cases hb
   exact⟨h2,(Array.getElem?_eq_some_iff.1 h3).1⟩
 have hone:v.oneCell'=true:=by
  rcases hrow.2 with⟨h1,_⟩|⟨g,cap,cur,h1,h2,h3,_⟩<;>rw[h1]<;>rfl
 have hL:E.L=0:=hS.len
 have hp:=hS.push hE (v:=v) (blk:=.row 4 1 (2*T.links.length) (boolsP (maskL T k x))) (fun b h=>(hnew b h).1) ⟨_,hrow2,bools_rep _⟩
 refine⟨_,_,_,E.push v,rfl,⟨rfl,rfl⟩,hp.1,hp.2,Below.ofExt hE hS.bl,.tuple _ _ rfl (fun i c u h1 h2=>?_)⟩
 match i,h1,h2 with
 |0,h1,h2=>
  simp at h1 h2
  subst h1
  subst h2
  exact .own 0 (by show 0<E.L+1;omega) _ (by simp[Env.push,hL]) hone
 |1,h1,h2=>
  simp at h1 h2
  subst h1
  subst h2
  exact .raw _
 |_+2,h1,h2=>simp at h2
def maskE (T:Topo) (k x:Int):Int:=if(validB T&&compB T k x)=true then 0 else 1
def boolsE (e:Int) (L:List Bool):PV:=.tuple [boolsV (if e=0 then L else []),num e]
theorem maskL_len (T:Topo) (k x:Int):(maskL T k x).length=2*T.links.length:=by simp[maskL]
set_option maxRecDepth 10000 in
set_option maxHeartbeats 1000000 in
theorem unionE_can (T:Topo) (k x:Int) (hno:(validB T&&compB T k x)=false):Can Tryz.prog 60 [topoV T,.slice 1 (compP k x)] (· =boolsE 1 []):=by
 refine can_of Tryz.func60 rfl Tryz.ntmps60 rfl ?_
 refine W_cs (.a 3 rfl<|.k [1,2] rfl) ?_
 refine W_seq ?_
 refine W_cs (.a 1 rfl<|.c rfl (valid_can T) rfl<|.a 1 rfl<|.k [1,2,12] rfl) ?_
 refine W_cond rfl (fun h1=>?_) (fun h1=>?_)
 ·skip
  refine W_cs (.a 2 rfl<|.k [4,5] rfl) ?_
  refine W_ret ?_
  exact⟨_,_,ResL.of rfl,Pur.tupleL (PurL.cons Pur.nils (PurL.cons Pur.pure PurL.nil)),rfl⟩
 ·have hv:validB T=true:=by simpa using h1
  have hc:compB T k x=false:=by rw[hv,Bool.true_and]at hno;exact hno
  have hll:=links_le hv
  have hcw:=cwithin_can T k x
  rw[hc]at hcw
  refine W_skip ?_
  refine W_rs ?_
  refine WR_a 1 rfl<|WR_c rfl (arcs_can T (by omega)) rfl<|WR_l (l_make rfl (fok.rk.get rfl) rfl rfl (show 2*(T.links.length:Int)=((2*T.links.length:Nat):Int) by omega) (show 2*(T.links.length:Int)=((2*T.links.length:Nat):Int) by omega) ⟨by unfold maxLen;omega,by omega⟩) rfl<|WR_a 2 rfl<|WR_k [1,2,6] rfl ?_
  refine W_seq ?_
  refine W_cs (.a 3 rfl<|.k [2,6,16,17,18] rfl) ?_
  refine W_block ?_
  refine W_k [2,6,16,17,18] rfl ?_
  refine W_loop (fun r st=>st=⟨[(2,.pin (topoP T) 0),(6,.ptr 1 0),(16,.slice 1 (compP k x)),(17,num 1),(18,num 0)],[some (.row 4 1 (2*T.links.length) (zeros [.raw (.bool false)] (2*T.links.length))),some (.cells 22 [.own 0])]⟩) 0 rfl ?_
  rintro r st rfl
  refine W_cs (.a 1 rfl<|.k [2,6,16,17,18,19] rfl) ?_
  refine W_seq ?_
  refine W_cond rfl (fun h2=>?_) (fun h2=>?_)
  ·skip
   refine W_skip ?_
   refine W_seq ?_
   refine W_block ?_
   refine W_rs ?_
   refine WR_v (y_ix (0) rfl) rfl<|WR_v (y_la rfl ((show((compP k x).drop 0).take 2=compP k x from rfl)) rfl) rfl<|WR_a 2 rfl<|WR_k [2,6,8,16,17,18] rfl ?_
   refine W_seq ?_
   refine W_cs (.a 2 rfl<|.c rfl (hcw) rfl<|.a 1 rfl<|.k [2,6,8,16,17,18,25] rfl) ?_
   refine W_cond rfl (fun h3=>?_) (fun h3=>?_)
   ·skip
    refine W_cs (.a 2 rfl<|.k [4,5] rfl) ?_
    refine W_ret ?_
    exact⟨_,_,ResL.of rfl,Pur.tupleL (PurL.cons Pur.nils (PurL.cons Pur.pure PurL.nil)),rfl⟩
   ·exact absurd h3 (by decide)
  ·exact absurd h2 (by decide)
set_option maxRecDepth 10000 in
set_option maxHeartbeats 1000000 in
theorem maskS_can (T:Topo) (k x:Int) (hv:validB T=true) (hc:compB T k x=true):CanS Tryz.prog 16 [topoV T,compV k x] [] (fun r σ'=>r= .tuple [.own 0,num 0]∧σ'=[some (.row 4 1 (2*T.links.length) (boolsP (maskL T k x)))]):=by
 refine canS_of Tryz.func16 rfl Tryz.ntmps16 rfl ?_
 refine W_cs (.a 4 rfl<|.k [2,3] rfl) ?_
 refine W_rs ?_
 refine WR_a 3 rfl<|WR_cS rfl rfl (CanS.mono (unionS_can T k x hv hc) (fun r σ' h=>?_))
 obtain⟨rfl,rfl⟩:=h
 refine WR_a 4 rfl<|WR_k [4,5] rfl ?_
 refine W_ret ?_
 exact⟨_,ResL.of rfl,rfl,rfl⟩
set_option maxRecDepth 10000 in
set_option maxHeartbeats 1000000 in
theorem mask_can (T:Topo) (k x:Int):Can Tryz.prog 16 [topoV T,compV k x] (· =boolsE (maskE T k x) (maskL T k x)):=by
 cases hno:(validB T&&compB T k x)with
 |true=>
  obtain⟨hv,hc⟩:=Bool.and_eq_true_iff.1 hno
  refine Can.ofS (maskS_can T k x hv hc) ?_
  rintro r σ' ⟨rfl,rfl⟩
  refine⟨_,Pur.tupleL (PurL.cons (Pur.ownL rfl PurL.pure) (PurL.cons Pur.pure PurL.nil)),?_⟩
  unfold boolsE maskE boolsV
  rw[if_pos hno,if_pos rfl,maskL_len]
 |false=>
  have he:maskE T k x=1:=by unfold maskE;rw[if_neg (by rw[hno];simp)]
  rw[he]
  refine can_of Tryz.func16 rfl Tryz.ntmps16 rfl ?_
  refine W_cs (.a 4 rfl<|.k [2,3] rfl) ?_
  refine W_cs (.a 3 rfl<|.c rfl (unionE_can T k x hno) rfl<|.a 4 rfl<|.k [4,5] rfl) ?_
  refine W_ret ?_
  exact⟨_,_,ResL.of rfl,Pur.pure,rfl⟩
end PW
end Go.Proofs.YtnegbdpggideiaaGreatDoor

namespace Go.Proofs.YtnegbdpggideiaaGreatDoor
set_option linter.unusedVariables false
set_option linter.unusedSimpArgs false
namespace PW
open Go.RowKit Reg Mem
section
variable {P:Program} {N L:Nat} {ops:Array Oper}
theorem WA.mono:∀ {n:Nat} {ls:Array Bool} {st:St} {K K':St→Prop},WA P N L ops n ls st K→(∀s,K s→K' s)→WA P N L ops n ls st K'
 |0,_,_,_,_,h,hk=>⟨h.1,hk _ h.2⟩
 |_+1,_,_,_,_,h,hk=>⟨h.1,fun i hi=>by
   obtain⟨o,h1,h2,h3⟩:=h.2 i hi
   exact⟨o,h1,h2,h3.mono fun s hs=>WA.mono hs hk⟩⟩
theorem W_ordersTo {id:Nat} {l:List Oper} {y:Code} {st:St} {Q:Exit→St→Prop} (t':Tms) (σ':Sto) (hm:P.follows .mixedOrders=true) (h:WA P N L l.toArray l.length (Array.replicate l.length false) st (fun s=>s.σ=σ'∧Sub s.t t')) (hq:W P N L y ⟨t',σ'⟩ Q):W P N L (.seq (.region id l.toArray true) y) st Q:=
 W_orders1 hm (h.mono fun s hs=>by
  obtain⟨t,σ⟩:=s
  obtain⟨h1,h2⟩:=hs
  subst h1
  exact W_sub h2 hq)
theorem Sat.seal {F:Nat→Prop} {base:Nat} {σ:Sto} {E:Env} {w:World} (hS:Sat F base σ E w) {i e s n:Nat} {xs:List PV} (hi:σ[i]? =some (some (.row e s n xs))) {v:Value} (hv:Rep E w v (.own i)):Rep (E.kill i) w v (.slice n xs):=by
 obtain⟨_,g⟩:=hS.kill i hi
 cases hv with
 |own _ hiL _ h _=>
  obtain⟨cs,k1,k2⟩:=hS.blk i _ hi
  rw[h]at k1
  have k3:=k1
  rcases k1.2 with⟨rfl,h0⟩|⟨b,cap,cur,rfl,hb,hg,hn,hc,hs',ht⟩
  ·subst h0
   have:xs=[]:=by
    have:=k3.1;simp at this;subst this
    exact List.eq_nil_of_length_eq_zero k2.1.symm
   subst this
   exact .nils
  ·by_cases h0:n=0
   ·subst h0
    have:xs=[]:=by
     have:=k3.1;simp at this;subst this
     exact List.eq_nil_of_length_eq_zero k2.1.symm
    subst this
    exact .empty _ _ hc
   ·refine .slice b 0 n cap cs xs (by omega) hn hc (Array.getElem?_eq_some_iff.1 hg).1 (fun hM=>hM.2 (by rw[h];rfl)) (fun j x hx=>?_) k2.1 (fun j x u h1 h2=>(k2.2 j x u h1 h2).goes g)
    have:=k3.cells (g:=b) rfl j x hx
    rw[Addr.add_lit]at this
    exact this
theorem W_seal {c:Code} {t:Tms} {σ:Sto} {Q:Exit→St→Prop} (k i:Nat) {e s n:Nat} {xs:List PV} (hk:look k t=some (.own i)) (hi:σ[i]? =some (some (.row e s n xs))) (h:W P N L c ⟨(k,.slice n xs)::t,σ.set i none⟩ Q):W P N L c ⟨t,σ⟩ Q:=fun F base E₀ w₀ E a w hc hs=>by
 obtain⟨a1,a2⟩:=hs.sat.kill i hi
 exact h F base E₀ w₀ _ a w (hc.on a2 (Below.refl _ _)) ⟨a1,(hs.tmp.goes a2).put' (hs.sat.seal hi (hs.tmp k _ hk)),hs.dfr,hs.size⟩
theorem W_sealPtr {c:Code} {t:Tms} {σ:Sto} {Q:Exit→St→Prop} (k i off:Nat) {ty:TypeId} {xs:List PV} (hk:look k t=some (.ptr i off)) (hi:σ[i]? =some (some (.cells ty xs))) (h:W P N L c ⟨(k,.pin xs off)::t,σ.set i none⟩ Q):W P N L c ⟨t,σ⟩ Q:=fun F base E₀ w₀ E a w hc hs=>by
 obtain⟨a1,a2⟩:=hs.sat.kill i hi
 have hv:=hs.tmp k _ hk
 obtain⟨b,cs,h1,h2,h3,h4⟩:=hs.sat.blk i _ hi
 have hp:Rep (E.kill i) w (a.eval (.tmp k)) (.pin xs off):=by
  generalize a.eval (.tmp k)=z at hv
  cases hv with
  |ptr _ _ b' hi' h=>
   have hb:b'=b:=by
    rcases h with h|⟨n,c,h⟩<;>rw[h1]at h<;>cases h
    rfl
   subst hb
   have:=Rep.pin (E:=E.kill i) (w:=w) b' 0 off cs.toList xs (Array.getElem?_eq_some_iff.1 h3).1 (fun hM=>hM.2 (by rw[h1];rfl)) (fun j x hx=>by rw[Nat.zero_add];unfold World.cell?;simp only[h3];simpa using hx) h4.1 (fun j x u k1 k2=>(h4.2 j x u k1 k2).goes a2)
   rw[Nat.zero_add]at this
   exact this
 exact h F base E₀ w₀ _ a w (hc.on a2 (Below.refl _ _)) ⟨a1,(hs.tmp.goes a2).put' hp,hs.dfr,hs.size⟩
end
end PW
end Go.Proofs.YtnegbdpggideiaaGreatDoor

namespace Go.Proofs.YtnegbdpggideiaaGreatDoor
set_option linter.unusedVariables false
set_option linter.unusedSimpArgs false
namespace PW
open Go.RowKit Reg Mem Net
set_option maxRecDepth 10000 in
set_option maxHeartbeats 1000000 in
theorem rwithin_can (n lo hi:Int):Can Tryz.prog 116 [num n,num lo,num hi] (· =flag (withinB n lo hi)):=by
 obtain⟨p1,hp1⟩:∃q,decide (lo≤n)=q:=⟨_,rfl⟩
 obtain⟨p2,hp2⟩:∃q,decide (n≤hi)=q:=⟨_,rfl⟩
 have he:withinB n lo hi=(p1&&p2):=by rw[←hp1,←hp2];unfold withinB;exact Bool.decide_and _ _
 rw[he]
 refine can_of Tryz.func116 rfl Tryz.ntmps116 rfl ?_
 refine W_cs (.a 1 rfl<|.k [0,1,2] rfl) ?_
 refine W_csK 6 (.raw (.bool (p1&&p2))) [] rfl ?_ ?_
 ·refine .a 2 rfl<|.v (y_q rfl (hp1)) rfl<|.a 1 rfl<|?_
  cases p1
  ·exact .a 5 rfl<|.k [6] rfl
  ·exact .a 2 rfl<|.v (y_q rfl (hp2)) rfl<|.a 2 rfl<|.k [6] rfl
 refine W_ret ?_
 exact⟨_,_,ResL.of rfl,Pur.pure,rfl⟩
set_option maxRecDepth 10000 in
set_option maxHeartbeats 2000000 in
theorem rvalid_can (T : Topo) : Can Tryz.prog 58 [topoV T] (· = flag (validB T)) := by
  obtain ⟨p0, hp0⟩ : ∃ q, withinB T.nodes 1 64 = q := ⟨_, rfl⟩
  obtain ⟨p1, hp1⟩ : ∃ q, decide ((T.over.length : Int) ≠ 0) = q := ⟨_, rfl⟩
  obtain ⟨p2, hp2⟩ : ∃ q, decide ((T.over.length : Int) ≠ T.nodes) = q := ⟨_, rfl⟩
  obtain ⟨p3, hp3⟩ : ∃ q, decide (256 < (T.links.length : Int)) = q := ⟨_, rfl⟩
  have hw : Can Tryz.prog 116 [num T.nodes, num 1, num 64] (· = flag p0) := by rw [← hp0]; exact rwithin_can _ _ _
  refine can_of Tryz.func58 rfl Tryz.ntmps58 rfl ?_
  refine W_cs (.a 2 rfl <| .k [1] rfl) ?_
  refine W_seq ?_
  refine W_csK 28 (.raw (.bool (((!p0) || (p1 && p2)) || p3))) [1] rfl ?_ ?_
  · refine .a 2 rfl <| .c rfl (hw) rfl <| .a 2 rfl <| ?_
    cases p0
    · exact .a 19 rfl <| .k [28, 1] rfl
    · refine .a 3 rfl <| .v (y_q rfl (hp1)) rfl <| .a 1 rfl <| ?_
      cases p1
      · exact .a 12 rfl <| .v (y_q rfl (hp3)) rfl <| .a 1 rfl <| .k [28, 1] rfl
      · refine .a 5 rfl <| .v (y_q rfl (hp2)) rfl <| .a 3 rfl <| ?_
        cases p2
        · exact .a 3 rfl <| .v (y_q rfl (hp3)) rfl <| .a 1 rfl <| .k [28, 1] rfl
        · exact .a 5 rfl <| .k [28, 1] rfl
  refine W_cond rfl (fun hc => ?_) (fun hc => ?_)
  · have hv : validB T = false := by
      rcases Bool.or_eq_true_iff.1 hc with h | h
      · rcases Bool.or_eq_true_iff.1 h with h | h
        · exact (valid_none T (.inl (by rw [hp0]; simpa using h))).symm
        · obtain ⟨a1, a2⟩ := Bool.and_eq_true_iff.1 h
          rw [a1] at hp1
          rw [a2] at hp2
          exact (valid_none T (.inr (.inr ⟨by have := tt hp1; omega, tt hp2⟩))).symm
      · rw [h] at hp3; exact (valid_none T (.inr (.inl (by have := tt hp3; omega)))).symm
    rw [hv]
    refine W_cs (.a 1 rfl <| .k [2] rfl) ?_
    refine W_ret ?_
    exact ⟨_, _, ResL.of rfl, Pur.pure, rfl⟩
  · obtain ⟨c1, c2⟩ := Bool.or_eq_false_iff.1 hc
    obtain ⟨c1, c3⟩ := Bool.or_eq_false_iff.1 c1
    have h0 : p0 = true := by simpa using c1
    rw [h0] at hp0
    rw [c2] at hp3
    have hle : T.links.length ≤ 256 := by have := ff hp3; omega
    have hov : T.over.length = 0 ∨ (T.over.length : Int) = T.nodes := by
      rcases Bool.and_eq_false_iff.1 c3 with h | h
      · rw [h] at hp1; exact .inl (by have := ff hp1; omega)
      · rw [h] at hp2; exact .inr (by have := ff hp2; omega)
    rw [valid_some T hp0 hle hov]
    have hnd := bd_of_within hp0
    clear hw hc c1 c3 hp1 hp2
    refine W_skip ?_
    refine W_seq ?_
    refine W_cs (.a 1 rfl <| .k [1, 3] rfl) ?_
    refine W_block ?_
    refine W_k [1, 3] rfl ?_
    refine W_loop (fun r s => ∃ k, k ≤ T.links.length ∧ r = T.links.length - k ∧ (T.links.take k).all (linkOK T) = true ∧ s = ⟨[(1, .pin (topoP T) 0), (3, num k)], []⟩) T.links.length ⟨0, by omega, by omega, by simp, rfl⟩ ?_
    rintro r s ⟨k, hk, rfl, hall, rfl⟩
    refine W_seq ?_
    refine W_cs (.a 5 rfl <| .k [1, 3, 33] rfl) ?_
    refine W_cond rfl (fun hc => ?_) (fun hc => ?_)
    · have hlt : k < T.links.length := by have := tt hc; omega
      obtain ⟨q1, g1⟩ : ∃ q, decide ((lnk T.links k).a = (lnk T.links k).b) = q := ⟨_, rfl⟩
      obtain ⟨q2, g2⟩ : ∃ q, nodeB T (lnk T.links k).a = q := ⟨_, rfl⟩
      obtain ⟨q3, g3⟩ : ∃ q, nodeB T (lnk T.links k).b = q := ⟨_, rfl⟩
      obtain ⟨q4, g4⟩ : ∃ q, withinB (lnk T.links k).c0 1 65535 = q := ⟨_, rfl⟩
      obtain ⟨q5, g5⟩ : ∃ q, withinB (lnk T.links k).c1 1 65535 = q := ⟨_, rfl⟩
      obtain ⟨q6, g6⟩ : ∃ q, withinB (lnk T.links k).cap 0 1048576 = q := ⟨_, rfl⟩
      obtain ⟨q7, g7⟩ : ∃ q, withinB (lnk T.links k).delay 1 65536 = q := ⟨_, rfl⟩
      obtain ⟨q8, g8⟩ : ∃ q, withinB (lnk T.links k).grp 0 64 = q := ⟨_, rfl⟩
      have hOK := linkOK_eq (T := T) (l := lnk T.links k) (q1 := q1) (by rw [← g1]; exact Bool.eq_iff_iff.2 (by simp)) g2 g3 g4 g5 g6 g7 g8
      have hall' := all_take (linkOK T) T.links k hlt
      have hno := all_fail (linkOK T) T.links k hlt
      rw [hOK] at hall' hno
      have n2 := rwithin_can (lnk T.links k).a 0 (T.nodes - 1)
      rw [within_node, g2] at n2
      have n3 := rwithin_can (lnk T.links k).b 0 (T.nodes - 1)
      rw [within_node, g3] at n3
      have n4 := rwithin_can (lnk T.links k).c0 1 65535
      rw [g4] at n4
      have n5 := rwithin_can (lnk T.links k).c1 1 65535
      rw [g5] at n5
      have n6 := rwithin_can (lnk T.links k).cap 0 1048576
      rw [g6] at n6
      have n7 := rwithin_can (lnk T.links k).delay 1 65536
      rw [g7] at n7
      have n8 := rwithin_can (lnk T.links k).grp 0 64
      rw [g8] at n8
      clear hOK g2 g3 g4 g5 g6 g7 g8
      refine W_skip ?_
      refine W_seq ?_
      refine W_block ?_
      refine W_rs ?_
      refine WR_a 3 rfl <| WR_v (y_ix (k * 7) rfl) rfl <| WR_v (y_la rfl (lnk_drop T.links k hlt) rfl) rfl <| WR_a 2 rfl <| WR_k [1, 3, 4] rfl ?_
      refine W_sealPtr 4 0 0 rfl rfl ?_
      refine W_ren [] (.c 1 <| .c 3 <| .c 4 .nil) .nil rfl rfl ?_
      refine W_seq ?_
      refine W_csK 77 (.raw (.bool (((((!q2) || !q3) || q1) || !q4) || !q5))) [1, 3, 4] rfl ?_ ?_
      · refine .a 4 rfl <| .v (y_ar rfl) rfl <| .c rfl (n2) rfl <| .a 2 rfl <| ?_
        cases q2
        · exact .a 29 rfl <| .k [77, 1, 3, 4] rfl
        · refine .a 4 rfl <| .v (y_ar rfl) rfl <| .c rfl (n3) rfl <| .a 3 rfl <| ?_
          cases q3
          · exact .a 20 rfl <| .k [77, 1, 3, 4] rfl
          · refine .a 4 rfl <| .v (y_q rfl (g1)) rfl <| .a 2 rfl <| ?_
            cases q1
            · refine .a 1 rfl <| .v (y_ix (0) rfl) rfl <| .a 1 rfl <| .c rfl (n4) rfl <| .a 3 rfl <| ?_
              cases q4
              · exact .a 6 rfl <| .k [77, 1, 3, 4] rfl
              · exact .a 1 rfl <| .v (y_ix (1) rfl) rfl <| .a 1 rfl <| .c rfl (n5) rfl <| .a 2 rfl <| .k [77, 1, 3, 4] rfl
            · exact .a 13 rfl <| .k [77, 1, 3, 4] rfl
      refine W_cond rfl (fun hx => ?_) (fun hx => ?_)
      · have hno' := hno (by cases q1 <;> cases q2 <;> cases q3 <;> cases q4 <;> cases q5 <;> simp_all)
        rw [hno']
        refine W_cs (.a 1 rfl <| .k [2] rfl) ?_
        refine W_ret ?_
        exact ⟨_, _, ResL.of rfl, Pur.pure, rfl⟩
      · have e1 : q1 = false := by cases q1 <;> simp_all
        have e2 : q2 = true := by cases q2 <;> simp_all
        have e3 : q3 = true := by cases q3 <;> simp_all
        have e4 : q4 = true := by cases q4 <;> simp_all
        have e5 : q5 = true := by cases q5 <;> simp_all
        subst e1 e2 e3 e4 e5
        clear n2 n3 n4 n5 hx
        refine W_skip ?_
        refine W_csK 93 (.raw (.bool (((!q6) || !q7) || !q8))) [1, 3] rfl ?_ ?_
        · refine .a 2 rfl <| .c rfl (n6) rfl <| .a 2 rfl <| ?_
          cases q6
          · exact .a 11 rfl <| .k [93, 1, 3] rfl
          · refine .a 2 rfl <| .c rfl (n7) rfl <| .a 3 rfl <| ?_
            cases q7
            · exact .a 5 rfl <| .k [93, 1, 3] rfl
            · exact .a 2 rfl <| .c rfl (n8) rfl <| .a 2 rfl <| .k [93, 1, 3] rfl
        refine W_cond rfl (fun hx => ?_) (fun hx => ?_)
        · have hno' := hno (by cases q6 <;> cases q7 <;> cases q8 <;> simp_all)
          rw [hno']
          refine W_cs (.a 1 rfl <| .k [2] rfl) ?_
          refine W_ret ?_
          exact ⟨_, _, ResL.of rfl, Pur.pure, rfl⟩
        · have e1 : q6 = true := by cases q6 <;> simp_all
          have e2 : q7 = true := by cases q7 <;> simp_all
          have e3 : q8 = true := by cases q8 <;> simp_all
          subst e1 e2 e3
          clear n6 n7 n8 hx
          refine W_skip ?_
          refine W_chain (.a 1 rfl <| .v (y_ar rfl) rfl <| .a 1 rfl <| .k [1, 3] rfl) ?_
          exact ⟨T.links.length - (k + 1), by omega, k + 1, by omega, rfl, by rw [hall', hall]; rfl, rfl⟩
    · have hke : k = T.links.length := by have := ff hc; omega
      subst hke
      rw [List.take_length] at hall
      rw [hall]
      refine W_exit ?_
      refine W_cs (.a 1 rfl <| .k [2] rfl) ?_
      refine W_ret ?_
      exact ⟨_, _, ResL.of rfl, Pur.pure, rfl⟩
set_option maxRecDepth 10000 in
set_option maxHeartbeats 1000000 in
theorem rarcs_can (T:Topo) (hv:validB T=true):Can Tryz.prog 94 [topoV T] (· =num (2*(T.links.length:Int))):=by
 have hll:=links_le hv
 have h:=rvalid_can T
 rw[hv]at h
 refine can_of Tryz.func94 rfl Tryz.ntmps94 rfl ?_
 refine W_cs (.a 2 rfl<|.k [1] rfl) ?_
 refine W_seq ?_
 refine W_cs (.a 1 rfl<|.c rfl (h) rfl<|.a 1 rfl<|.k [1,5] rfl) ?_
 refine W_cond rfl (fun hc=>?_) (fun hc=>?_)
 ·cases hc
 ·refine W_skip ?_
  refine W_cs (.a 3 rfl<|.v (y_ar rfl) rfl<|.a 1 rfl<|.k [2] rfl) ?_
  refine W_ret ?_
  exact⟨_,_,ResL.of rfl,Pur.pure,rfl⟩
theorem rtail_no {T:Topo} {a:Int} {p1 p2:Bool} (hp1:decide (a<0)=p1) (hp2:decide (2*(T.links.length:Int)≤a)=p2) (hc:(p1||p2)=true):¬(0≤a∧a<2*(T.links.length:Int)):=by
 rcases Bool.or_eq_true_iff.1 hc with h|h
 ·rw[h]at hp1;have:=tt hp1;omega
 ·rw[h]at hp2;have:=tt hp2;omega
theorem rtail_yes {T:Topo} {a:Int} {p1 p2:Bool} (hp1:decide (a<0)=p1) (hp2:decide (2*(T.links.length:Int)≤a)=p2) (hc:(p1||p2)=false):0≤a∧a<2*(T.links.length:Int):=by
 obtain⟨h1,h2⟩:=Bool.or_eq_false_iff.1 hc
 rw[h1]at hp1
 rw[h2]at hp2
 have:=ff hp1
 have:=ff hp2
 omega
set_option maxRecDepth 10000 in
set_option maxHeartbeats 1000000 in
theorem rtail_can (T:Topo) (hv:validB T=true) (a:Int):Can Tryz.prog 39 [topoV T,num a] (· =num (rtail T a)):=by
 have hll:=links_le hv
 obtain⟨p1,hp1⟩:∃q,decide (a<0)=q:=⟨_,rfl⟩
 obtain⟨p2,hp2⟩:∃q,decide (2*(T.links.length:Int)≤a)=q:=⟨_,rfl⟩
 refine can_of Tryz.func39 rfl Tryz.ntmps39 rfl ?_
 refine W_cs (.a 2 rfl<|.k [1,2] rfl) ?_
 refine W_seq ?_
 refine W_block ?_
 refine W_csK 5 (.raw (.bool (p1||p2))) [1,2] rfl ?_ ?_
 ·refine .a 1 rfl<|.v (y_q rfl (hp1)) rfl<|.a 1 rfl<|?_
  cases p1
  ·exact .a 2 rfl<|.c rfl (rarcs_can T hv) rfl<|.v (y_q rfl (hp2)) rfl<|.a 2 rfl<|.k [5,1,2] rfl
  ·exact .a 6 rfl<|.k [5,1,2] rfl
 refine W_cond rfl (fun hc=>?_) (fun hc=>?_)
 ·unfold rtail
  rw[if_neg (rtail_no hp1 hp2 hc)]
  refine W_cs (.a 1 rfl<|.k [4] rfl) ?_
  refine W_ret ?_
  exact⟨_,_,ResL.of rfl,Pur.pure,rfl⟩
 ·have hy:=rtail_yes hp1 hp2 hc
  unfold rtail
  rw[if_pos hy]
  clear hp1 hp2 hc
  obtain⟨a,rfl⟩:=Int.eq_ofNat_of_zero_le hy.1
  have hi:a / 2<T.links.length:=by omega
  unfold tailN
  rw[Int.toNat_natCast]
  refine W_cs (.a 1 rfl<|.v (y_rem rfl rfl rfl (by decide) (qmod a)) rfl<|.a 2 rfl<|.k [1,2,14] rfl) ?_
  refine W_cond rfl (fun hc=>?_) (fun hc=>?_)
  ·have h2:a % 2=0:=by have:=tt hc;omega
   rw[if_pos h2]
   refine W_cs (.a 3 rfl<|.v (y_quo rfl rfl rfl (by decide) (qdiv a) (by unfold In64;omega)) rfl<|.v (y_ix (a / 2*7) rfl) rfl<|.a 1 rfl<|.v (y_ld rfl (lnks_getP T.links (a / 2) 0 hi (by omega))) rfl<|.a 1 rfl<|.k [4] rfl) ?_
   refine W_ret ?_
   exact⟨_,_,ResL.of rfl,Pur.pure,rfl⟩
  ·have h2:¬a % 2=0:=by have:=ff hc;omega
   rw[if_neg h2]
   refine W_skip ?_
   refine W_cs (.a 3 rfl<|.v (y_quo rfl rfl rfl (by decide) (qdiv a) (by unfold In64;omega)) rfl<|.v (y_ix (a / 2*7) rfl) rfl<|.a 1 rfl<|.v (y_ld rfl (lnks_getP T.links (a / 2) 1 hi (by omega))) rfl<|.a 1 rfl<|.k [4] rfl) ?_
   refine W_ret ?_
   exact⟨_,_,ResL.of rfl,Pur.pure,rfl⟩
theorem rtailN_can (T:Topo) (hv:validB T=true) (a:Nat) (ha:a<2*T.links.length):Can Tryz.prog 39 [topoV T,num a] (· =num (tailN T a)):=by rw[←rtail_nat T a ha];exact rtail_can T hv a
set_option maxRecDepth 10000 in
set_option maxHeartbeats 1000000 in
theorem rsame_can (L M:List Int):Can Tryz.prog 35 [intsV L,intsV M] (· =flag (sameB L M)):=by
 refine can_rep fun⟨E,w,vs,hR⟩=>?_
 obtain⟨v,_,hv⟩:=hR.get (i:=0) rfl
 have hm:=rep_len hv
 unfold maxLen at hm
 refine can_of Tryz.func35 rfl Tryz.ntmps35 rfl ?_
 refine W_cs (.a 1 rfl<|.k [0,1] rfl) ?_
 refine W_seq ?_
 refine W_cs (.a 5 rfl<|.k [0,1,10] rfl) ?_
 refine W_cond rfl (fun hc=>?_) (fun hc=>?_)
 ·rw[←same_len L M (by have:=tt hc;omega)]
  refine W_cs (.a 1 rfl<|.k [4] rfl) ?_
  refine W_ret ?_
  exact⟨_,_,ResL.of rfl,Pur.pure,rfl⟩
 ·have hlen:M.length=L.length:=by have:=ff hc;omega
  refine W_skip ?_
  refine W_seq ?_
  refine W_cs (.a 1 rfl<|.k [0,1,5] rfl) ?_
  refine W_block ?_
  refine W_k [0,1,5] rfl ?_
  refine W_loop (fun r s=>∃k,k≤L.length∧r=L.length - k∧(∀i,i<k→L.getD i 0=M.getD i 0)∧s=⟨[(0,intsV L),(1,intsV M),(5,num k)],[]⟩) L.length ⟨0,by omega,by omega,fun i hi=>by omega,rfl⟩ ?_
  rintro r s ⟨k,hk,rfl,hall,rfl⟩
  refine W_seq ?_
  refine W_cs (.a 4 rfl<|.k [0,1,5,14] rfl) ?_
  refine W_cond rfl (fun hc=>?_) (fun hc=>?_)
  ·have hlt:k<L.length:=by have:=tt hc;omega
   refine W_skip ?_
   refine W_seq ?_
   refine W_block ?_
   refine W_drs mixed (by kernel_rfl) (.a 2 rfl<|.v [17,18] (y_ix (k) rfl) rfl rfl<|.v [19] (y_ld rfl (ints_get L k hlt)) rfl rfl<|.a 2 rfl<|.v [21,22] (y_ix (k) rfl) rfl rfl<|.v [23] (y_ld rfl (ints_get M k (by omega))) rfl rfl<|.a 1 rfl<|.k [0,1,5,25] rfl) ?_
   refine W_cond rfl (fun hx=>?_) (fun hx=>?_)
   ·rw[←same_at L M k (tt hx)]
    refine W_cs (.a 1 rfl<|.k [4] rfl) ?_
    refine W_ret ?_
    exact⟨_,_,ResL.of rfl,Pur.pure,rfl⟩
   ·have hx':L.getD k 0=M.getD k 0:=by have:=ff hx;omega
    refine W_skip ?_
    refine W_chain (.a 1 rfl<|.v (y_ar rfl) rfl<|.a 1 rfl<|.k [0,1,5] rfl) ?_
    refine⟨L.length - (k+1),by omega,k+1,by omega,rfl,fun i hi=>?_,rfl⟩
    by_cases h:i=k
    ·rw[h];exact hx'
    ·exact hall i (by omega)
  ·have hke:k=L.length:=by have:=ff hc;omega
   rw[←same_all L M hlen (fun i hi=>hall i (by omega))]
   refine W_exit ?_
   refine W_cs (.a 1 rfl<|.k [4] rfl) ?_
   refine W_ret ?_
   exact⟨_,_,ResL.of rfl,Pur.pure,rfl⟩
end PW
end Go.Proofs.YtnegbdpggideiaaGreatDoor

namespace Go.Proofs.YtnegbdpggideiaaGreatDoor
set_option linter.unusedVariables false
set_option linter.unusedSimpArgs false
namespace Heap
def par (q:Nat):Nat:=(q - 1) / 2
theorem par_lt {q:Nat} (h:0<q):par q<q:=by unfold par;omega
theorem par_kid {p c:Nat} (h:0<c) (hc:par c=p):c=2*p+1∨c=2*p+2:=by unfold par at hc;omega
def Heapy (f:Nat→Int) (len:Nat):Prop:=∀q,0<q→q<len→f (par q)≤f q
def Grand (f:Nat→Int) (len p:Nat):Prop:=0<p→∀c,0<c→c<len→par c=p→f (par p)≤f c
def Loose (f:Nat→Int) (len p:Nat):Prop:=(∀q,0<q→q<len→q≠p→par q≠p→f (par q)≤f q)∧Grand f len p
def Downy (f:Nat→Int) (len p:Nat):Prop:=(∀q,0<q→q<len→par q≠p→f (par q)≤f q)∧Grand f len p
def fsw (f:Nat→Int) (p q x:Nat):Int:=if x=p then f q else if x=q then f p else f x
theorem fsw_p (f:Nat→Int) (p q:Nat):fsw f p q p=f q:=by simp[fsw]
theorem fsw_q (f:Nat→Int) (p q:Nat):fsw f p q q=f p:=by
 unfold fsw;split
 ·rename_i h;rw[h]
 ·simp
theorem fsw_ne (f:Nat→Int) {p q x:Nat} (h1:x≠p) (h2:x≠q):fsw f p q x=f x:=by simp[fsw,h1,h2]
theorem loose_up {f:Nat→Int} {len p:Nat} (h:Loose f len p) (hp:0<p) (hl:p<len) (_:f p<f (par p)):Loose (fsw f p (par p)) len (par p):=by
 have hpp:=par_lt hp
 refine⟨fun q h0 hq h1 h2=>?_,fun hg c h0 hc hpc=>?_⟩
 ·by_cases e:par q=p
  ·have hqp:=par_lt h0
   rw[e,fsw_p,fsw_ne f (by omega) h1]
   exact h.2 hp q h0 hq e
  ·have hqp:q≠p:=fun e'=>h2 (by rw[e'])
   rw[fsw_ne f e h2,fsw_ne f hqp h1]
   exact h.1 q h0 hq hqp e
 ·have hgg:=par_lt hg
  rw[fsw_ne f (by omega) (by omega)]
  have h3:=h.1 (par p) hg (by omega) (by omega) (by omega)
  by_cases e:c=p
  ·rw[e,fsw_p];exact h3
  ·have:=par_lt h0
   rw[fsw_ne f e (by omega)]
   have:=h.1 c h0 hc e (by omega)
   rw[hpc]at this
   omega
theorem loose_down {f:Nat→Int} {len p:Nat} (h:Loose f len p) (hp:p=0∨f (par p)≤f p):Downy f len p:=
 ⟨fun q h0 hq h2=>by
  by_cases e:q=p
  ·subst e
   rcases hp with h'|h'
   ·omega
   ·exact h'
  ·exact h.1 q h0 hq e h2,h.2⟩
theorem downy_heap {f:Nat→Int} {len p:Nat} (h:Downy f len p) (hk:∀c,0<c→c<len→par c=p→f p≤f c):Heapy f len:=fun q h0 hq=>by
 by_cases e:par q=p
 ·rw[e];exact hk q h0 hq e
 ·exact h.1 q h0 hq e
theorem downy_step {f:Nat→Int} {len p c:Nat} (h:Downy f len p) (hc0:0<c) (hcl:c<len) (hcp:par c=p) (hlt:f c<f p) (hk:∀c',0<c'→c'<len→par c'=p→f c≤f c'):Downy (fsw f p c) len c:=by
 have hpc:=par_lt hc0
 refine⟨fun q h0 hq h2=>?_,fun _ d h0 hd hdc=>?_⟩
 ·have hqq:=par_lt h0
  by_cases e:par q=p
  ·rw[e,fsw_p]
   by_cases e':q=c
   ·rw[e',fsw_q];omega
   ·rw[fsw_ne f (by omega) e'];exact hk q h0 hq e
  ·rw[fsw_ne f e h2]
   by_cases e':q=p
   ·rw[e',fsw_p]
    exact h.2 (by omega) c hc0 hcl hcp
   ·rw[fsw_ne f e' (fun e2=>e (by rw[e2];exact hcp))]
    exact h.1 q h0 hq e
 ·have hdd:=par_lt h0
  rw[hcp,fsw_p,fsw_ne f (by omega) (by omega)]
  have:=h.1 d h0 hd (by omega)
  rw[hdc]at this
  exact this
theorem heapy_min {f:Nat→Int} {len:Nat} (h:Heapy f len):∀q,q<len→f 0≤f q:=by
 intro q
 induction q using Nat.strongRecOn with
 |_ q ih=>
  intro hq
  by_cases e:q=0
  ·rw[e];exact Int.le_refl _
  ·have:=par_lt (q:=q) (by omega)
   exact Int.le_trans (ih (par q) this (by omega)) (h q (by omega) hq)
theorem heapy_loose {f g:Nat→Int} {len p:Nat} (h:Heapy f len) (he:∀q,q<len→q≠p→g q=f q) (hp:p<len):Loose g len p:=by
 refine⟨fun q h0 hq h1 h2=>?_,fun hp0 c h0 hc hcp=>?_⟩
 ·have:=par_lt h0
  rw[he q hq h1,he (par q) (by omega) h2];exact h q h0 hq
 ·have:=par_lt h0
  have:=par_lt hp0
  rw[he (par p) (by omega) (by omega),he c hc (by omega)]
  have h1:=h c h0 hc
  rw[hcp]at h1
  exact Int.le_trans (h p hp0 hp) h1
theorem heapy_more {f g:Nat→Int} {len:Nat} (h:Heapy f len) (he:∀q,q<len→g q=f q):Loose g (len+1) len:=by
 refine⟨fun q h0 hq h1 _=>?_,fun hp0 c h0 hc hcp=>?_⟩
 ·have:=par_lt h0
  rw[he q (by omega),he (par q) (by omega)];exact h q h0 (by omega)
 ·have:=par_lt h0;omega
theorem heapy_less {f g:Nat→Int} {len:Nat} (h:Heapy f (len+1)) (he:∀q,q<len→q≠0→g q=f q):Loose g len 0:=by
 refine⟨fun q h0 hq h1 h2=>?_,fun hp0=>by omega⟩
 have:=par_lt h0
 rw[he q hq h1,he (par q) (by omega) h2];exact h q h0 (by omega)
def rank (K:List Int) (i:Int):Int:=K.getD i.toNat 0*65536+i
def rk (K O:List Int) (p:Nat):Int:=rank K (O.getD p 0)
theorem rank_lt {K:List Int} {i j:Int} (hi:0≤i) (hi':i<65536) (hj:0≤j) (hj':j<65536):
  decide (rank K i<rank K j)=(if K.getD i.toNat 0=K.getD j.toNat 0 then decide (i<j) else decide (K.getD i.toNat 0<K.getD j.toNat 0)):=by
 unfold rank
 generalize K.getD i.toNat 0=a
 generalize K.getD j.toNat 0=b
 split
 ·simp only[decide_eq_decide];omega
 ·simp only[decide_eq_decide];omega
theorem rank_key {K:List Int} {i j:Int} (hi:0≤i) (hj':j<65536) (h:rank K i≤rank K j):K.getD i.toNat 0≤K.getD j.toNat 0:=by
 unfold rank at h;omega
def swapL (O:List Int) (p q:Nat):List Int:=(O.set p (O.getD q 0)).set q (O.getD p 0)
theorem swapL_len (O:List Int) (p q:Nat):(swapL O p q).length=O.length:=by simp[swapL]
theorem getD_set (L:List Int) (i j:Nat) (c:Int) (hi:i<L.length):(L.set i c).getD j 0=if j=i then c else L.getD j 0:=by
 simp only[List.getD_eq_getElem?_getD,List.getElem?_set]
 by_cases h:i=j
 ·subst h;simp[hi]
 ·rw[if_neg h,if_neg (Ne.symm h)]
theorem swapL_get (O:List Int) (p q x:Nat) (hp:p<O.length) (hq:q<O.length):(swapL O p q).getD x 0=if x=q then O.getD p 0 else if x=p then O.getD q 0 else O.getD x 0:=by
 unfold swapL
 rw[getD_set _ _ _ _ (by simpa using hq),getD_set _ _ _ _ hp]
theorem rk_swap (K O:List Int) (p q:Nat) (hp:p<O.length) (hq:q<O.length):rk K (swapL O p q)=fsw (rk K O) p q:=by
 funext x
 unfold rk fsw
 rw[swapL_get O p q x hp hq]
 by_cases h1:x=q
 ·subst h1
  rw[if_pos rfl]
  by_cases h2:x=p
  ·rw[if_pos h2,h2]
  ·rw[if_neg h2,if_pos rfl]
 ·rw[if_neg h1]
  by_cases h2:x=p
  ·rw[if_pos h2,if_pos h2]
  ·rw[if_neg h2,if_neg h2,if_neg h1]
def Held (O:List Int) (i:Int):Prop:=∃p,p<O.length∧O.getD p 0=i
theorem held_swap (O:List Int) (p q:Nat) (hp:p<O.length) (hq:q<O.length) (i:Int):Held (swapL O p q) i↔Held O i:=by
 unfold Held
 rw[swapL_len]
 constructor
 ·rintro⟨x,hx,rfl⟩
  rw[swapL_get O p q x hp hq]
  split
  ·exact⟨p,hp,rfl⟩
  ·split
   ·exact⟨q,hq,rfl⟩
   ·exact⟨x,hx,rfl⟩
 ·rintro⟨x,hx,rfl⟩
  by_cases h1:x=p
  ·exact⟨q,hq,by rw[swapL_get O p q q hp hq,if_pos rfl,h1]⟩
  ·by_cases h2:x=q
   ·exact⟨p,hp,by
     rw[swapL_get O p q p hp hq]
     by_cases h3:p=q
     ·omega
     ·rw[if_neg h3,if_pos rfl,h2]⟩
   ·exact⟨x,hx,by rw[swapL_get O p q x hp hq,if_neg h2,if_neg h1]⟩
structure Placed (N:Nat) (P O:List Int):Prop where
 len:P.length=N
 item:∀p,p<O.length→0≤O.getD p 0∧O.getD p 0<N∧P.getD (O.getD p 0).toNat 0=(p:Int)+1
 place:∀i,i<N→P.getD i 0=0∨∃p,p<O.length∧O.getD p 0=(i:Int)
theorem Placed.inj {N:Nat} {P O:List Int} (h:Placed N P O) {p q:Nat} (hp:p<O.length) (hq:q<O.length) (he:O.getD p 0=O.getD q 0):p=q:=by
 have h1:=(h.item p hp).2.2
 have h2:=(h.item q hq).2.2
 rw[he]at h1
 omega
def placeL (P O:List Int) (p q:Nat):List Int:=(P.set (O.getD q 0).toNat ((p:Int)+1)).set (O.getD p 0).toNat ((q:Int)+1)
theorem Placed.swap {N:Nat} {P O:List Int} (h:Placed N P O) {p q:Nat} (hp:p<O.length) (hq:q<O.length):Placed N (placeL P O p q) (swapL O p q):=by
 have ip:=h.item p hp
 have iq:=h.item q hq
 have hl:=h.len
 refine⟨by simp[placeL,h.len],fun x hx=>?_,fun i hi=>?_⟩
 ·rw[swapL_len]at hx
  have ix:=h.item x hx
  have e:∀j:Int,0≤j→j<N→(placeL P O p q).getD j.toNat 0=if j=O.getD p 0 then(q:Int)+1 else if j=O.getD q 0 then(p:Int)+1 else P.getD j.toNat 0:=fun j h0 h1=>by
   unfold placeL
   rw[getD_set _ _ _ _ (by rw[List.length_set];omega),getD_set _ _ _ _ (by omega)]
   have e1:(j.toNat=(O.getD p 0).toNat)=(j=O.getD p 0):=by apply propext;omega
   have e2:(j.toNat=(O.getD q 0).toNat)=(j=O.getD q 0):=by apply propext;omega
   simp only[e1,e2]
  rw[swapL_get O p q x hp hq]
  by_cases h1:x=q
  ·rw[if_pos h1,e _ ip.1 ip.2.1,if_pos rfl]
   exact⟨ip.1,ip.2.1,by rw[h1]⟩
  ·rw[if_neg h1]
   by_cases h2:x=p
   ·rw[if_pos h2,e _ iq.1 iq.2.1,if_neg (fun e=>by have:=h.inj hq hp e;omega),if_pos rfl]
    exact⟨iq.1,iq.2.1,by rw[h2]⟩
   ·rw[if_neg h2,e _ ix.1 ix.2.1,if_neg (fun e=>h2 (h.inj hx hp e)),if_neg (fun e=>h1 (h.inj hx hq e))]
    exact ix
 ·by_cases hH:Held O (i:Int)
  ·exact .inr ((held_swap O p q hp hq (i:Int)).2 hH)
  ·rcases h.place i hi with h0|h0
   ·refine .inl ?_
    unfold placeL
    rw[getD_set _ _ _ _ (by rw[List.length_set];omega),getD_set _ _ _ _ (by omega),if_neg (fun e=>hH ⟨p,hp,by omega⟩),if_neg (fun e=>hH ⟨q,hq,by omega⟩)]
    exact h0
   ·exact absurd h0 hH
theorem Placed.zero {N:Nat} {P O:List Int} (h:Placed N P O) {i:Nat} (hi:i<N):P.getD i 0=0↔¬Held O (i:Int):=by
 constructor
 ·rintro h0 ⟨p,hp,he⟩
  have:=(h.item p hp).2.2
  rw[he,Int.toNat_natCast,h0]at this
  omega
 ·intro hn
  rcases h.place i hi with h0|h0
  ·exact h0
  ·exact absurd h0 hn
theorem Placed.push {N:Nat} {P O:List Int} (h:Placed N P O) {i:Nat} (hi:i<N) (hn:¬Held O (i:Int)):Placed N (P.set i ((O.length:Int)+1)) (O++[(i:Int)]):=by
 have hl:=h.len
 refine⟨by simp[h.len],fun x hx=>?_,fun j hj=>?_⟩
 ·rw[getD_set _ _ _ _ (by omega)]
  by_cases h1:x<O.length
  ·have ix:=h.item x h1
   have e:(O++[(i:Int)]).getD x 0=O.getD x 0:=by simp[List.getD_eq_getElem?_getD,List.getElem?_append_left h1]
   rw[e,if_neg (fun e=>hn ⟨x,h1,by omega⟩)]
   exact ix
  ·have:x=O.length:=by simp at hx;omega
   subst this
   have e:(O++[(i:Int)]).getD O.length 0=i:=by simp
   rw[e,Int.toNat_natCast,if_pos rfl]
   exact⟨by omega,by omega,rfl⟩
 ·rw[getD_set _ _ _ _ (by omega)]
  by_cases hji:j=i
  ·exact .inr ⟨O.length,by simp,by simp[hji]⟩
  ·rw[if_neg hji]
   rcases h.place j hj with h0|⟨p,hp,he⟩
   ·exact .inl h0
   ·exact .inr ⟨p,by simp;omega,by simp[List.getD_eq_getElem?_getD,List.getElem?_append_left hp]at he ⊢;exact he⟩
theorem held_push (O:List Int) (i j:Int):Held (O++[i]) j↔j=i∨Held O j:=by
 constructor
 ·rintro⟨p,hp,rfl⟩
  by_cases h1:p<O.length
  ·exact .inr ⟨p,h1,by simp[List.getD_eq_getElem?_getD,List.getElem?_append_left h1]⟩
  ·have:p=O.length:=by simp at hp;omega
   subst this
   exact .inl (by simp)
 ·rintro(rfl|⟨p,hp,rfl⟩)
  ·exact⟨O.length,by simp,by simp⟩
  ·exact⟨p,by simp;omega,by simp[List.getD_eq_getElem?_getD,List.getElem?_append_left hp]⟩
theorem take_get (O:List Int) (m x:Nat) (h:x<m):(O.take m).getD x 0=O.getD x 0:=by
 simp[List.getD_eq_getElem?_getD,h]
theorem Placed.pop {N:Nat} {P O:List Int} {m:Nat} (h:Placed N P O) (hm:O.length=m+1):Placed N (P.set (O.getD m 0).toNat 0) (O.take m):=by
 have hl:=h.len
 have im:=h.item m (by omega)
 refine⟨by simp[h.len],fun x hx=>?_,fun j hj=>?_⟩
 ·have hx':x<m:=by simp at hx;omega
  rw[take_get O m x hx',getD_set _ _ _ _ (by omega)]
  have ix:=h.item x (by omega)
  rw[if_neg (fun e=>by have:=h.inj (p:=x) (q:=m) (by omega) (by omega) (by omega);omega)]
  exact ix
 ·rw[getD_set _ _ _ _ (by omega)]
  by_cases hjm:j=(O.getD m 0).toNat
  ·exact .inl (if_pos hjm)
  ·rw[if_neg hjm]
   rcases h.place j hj with h0|⟨p,hp,he⟩
   ·exact .inl h0
   ·have:p≠m:=fun e=>hjm (by rw[←e,he];rfl)
    exact .inr ⟨p,by simp;omega,by rw[take_get O m p (by omega)];exact he⟩
theorem held_pop {N:Nat} {P O:List Int} {m:Nat} (h:Placed N P O) (hm:O.length=m+1) (j:Int):Held (O.take m) j↔Held O j∧j≠O.getD m 0:=by
 constructor
 ·rintro⟨p,hp,rfl⟩
  have hp':p<m:=by simp at hp;omega
  rw[take_get O m p hp']
  exact⟨⟨p,by omega,rfl⟩,fun e=>by have:=h.inj (p:=p) (q:=m) (by omega) (by omega) e;omega⟩
 ·rintro⟨⟨p,hp,rfl⟩,hne⟩
  have:p≠m:=fun e=>hne (by rw[e])
  exact⟨p,by simp;omega,take_get O m p (by omega)⟩
theorem pigeon:∀(N m:Nat) (f:Nat→Nat),(∀p,p<m→f p<N)→(∀p q,p<m→q<m→f p=f q→p=q)→m≤N
 |0,m,f,h,_=>by
  rcases Nat.eq_zero_or_pos m with h0|h0
  ·omega
  ·have:=h 0 h0;omega
 |N+1,m,f,h,hi=>by
  by_cases hx:∃p,p<m∧f p=N
  ·obtain⟨p0,hp0,he⟩:=hx
   have:=pigeon N (m - 1) (fun p=>if p=p0 then f (m - 1) else f p) (fun p hp=>by
    by_cases e:p=p0
    ·simp only[e,if_true]
     have h1:=h (m - 1) (by omega)
     have h2:f (m - 1)≠N:=fun e'=>by have:=hi (m - 1) p0 (by omega) hp0 (by omega);omega
     omega
    ·simp only[e,if_false]
     have h1:=h p (by omega)
     have h2:f p≠N:=fun e'=>e (hi p p0 (by omega) hp0 (by omega))
     omega) (fun p q hp hq hpq=>by
    by_cases e:p=p0<;>by_cases e':q=p0
    ·omega
    ·simp only[e,e',if_true,if_false]at hpq
     have:=hi (m - 1) q (by omega) (by omega) hpq
     omega
    ·simp only[e,e',if_true,if_false]at hpq
     have:=hi p (m - 1) (by omega) (by omega) hpq
     omega
    ·simp only[e,e',if_false]at hpq
     exact hi p q (by omega) (by omega) hpq)
   omega
  ·have:=pigeon N m f (fun p hp=>by
    have h1:=h p hp
    have h2:f p≠N:=fun e=>hx ⟨p,hp,e⟩
    omega) hi
   omega
theorem placed_len {N:Nat} {P O:List Int} (h:Placed N P O):O.length≤N:=
 pigeon N O.length (fun p=>(O.getD p 0).toNat) (fun p hp=>by have:=h.item p hp;omega) (fun p q hp hq e=>by
  have h1:=h.item p hp
  have h2:=h.item q hq
  exact h.inj hp hq (by omega))
end Heap
end Go.Proofs.YtnegbdpggideiaaGreatDoor

namespace Go.Proofs.YtnegbdpggideiaaGreatDoor
set_option linter.unusedVariables false
set_option linter.unusedSimpArgs false
namespace PW
open Go.RowKit Reg Mem Net Heap
def hsto (b:Bool) (d:Option Blk) (N n:Nat) (K P O:List Int):Sto:=
 match b with
 |false=>[d,some (.cells 236 [.own 2,.own 3,.own 4]),some (.row 3 1 N (intsP K)),some (.row 3 1 N (intsP P)),some (.row 3 1 n (intsP O))]
 |true=>[d,some (.cells 236 [.own 2,.own 3,.own 5]),some (.row 3 1 N (intsP K)),some (.row 3 1 N (intsP P)),none,some (.row 3 1 n (intsP O))]
def PureB:Blk→Prop
 | .cells _ xs=>IsPureL xs
 | .row _ _ _ xs=>IsPureL xs
 | .mp kv=>IsPureL (kv.map (·.2))
def PureD (d:Option Blk):Prop:=∀b,d=some b→PureB b
theorem SRen.same {fs:List Nat} {σ σ':Sto} {js:List Nat} {j:Nat} {d:Option Blk} (hd:PureD d) (h:σ[j]? =some d) (hs:SRen fs σ σ' js):SRen fs σ (d::σ') (j::js):=by
 cases d with
 |none=>exact .gone hs
 |some b=>
  have hb:=hd b rfl
  cases b with
  |cells ty xs=>haveI:IsPureL xs:=hd _ rfl;exact .kept h (.cells RenL.pure) hs
  |row e s n xs=>haveI:IsPureL xs:=hd _ rfl;exact .kept h (.row RenL.pure) hs
  |mp kv=>haveI:IsPureL (kv.map (·.2)):=hd _ rfl;exact .kept h .mp hs
def hpin (K P O:List Int):PV:=.pin [intsV K,intsV P,intsV O] 0
theorem pur_heap (b:Bool) (d:Option Blk) {N n:Nat} {K P O:List Int} (hK:K.length=N) (hP:P.length=N) (hO:O.length=n):Pur (hsto b d N n K P O) (.ptr 1 0) (hpin K P O):=by
 subst hK;subst hO
 unfold hpin intsV
 rw[hP]
 cases b<;>exact Pur.ptrL rfl (PurL.cons (Pur.ownL rfl PurL.pure) (PurL.cons (Pur.ownL rfl PurL.pure) (PurL.cons (Pur.ownL rfl PurL.pure) PurL.nil)))
theorem placed_lt {N:Nat} {P O:List Int} (h:Placed N P O) {p:Nat} (hp:p<O.length):∃i:Nat,O.getD p 0=(i:Int)∧i<N:=by
 obtain⟨h1,h2,_⟩:=h.item p hp
 exact⟨(O.getD p 0).toNat,by omega,by omega⟩
set_option maxRecDepth 10000 in
set_option maxHeartbeats 1000000 in
theorem before_can {N:Nat} (K P O:List Int) (hP:Placed N P O) (hK:K.length=N) (hN:N≤65536) (p q:Nat) (hp:p<O.length) (hq:q<O.length):
  Can Tryz.prog 222 [hpin K P O,num p,num q] (· =flag (decide (rk K O p<rk K O q))):=by
 obtain⟨i,hi,hi'⟩:=placed_lt hP hp
 obtain⟨j,hj,hj'⟩:=placed_lt hP hq
 have hr:decide (rk K O p<rk K O q)=if K.getD i 0=K.getD j 0 then decide ((i:Int)<(j:Int)) else decide (K.getD i 0<K.getD j 0):=by
  unfold rk
  rw[hi,hj,rank_lt (by omega) (by omega) (by omega) (by omega),Int.toNat_natCast,Int.toNat_natCast]
 refine can_of Tryz.func222 rfl Tryz.ntmps222 rfl ?_
 refine W_cs (.a 1 rfl<|.k [0,1,2] rfl) ?_
 refine W_drs mixed (by kernel_rfl) (.a 5 rfl<|.v [12,13] (y_ix (p) rfl) rfl rfl<|.v [14] (y_ld rfl ((ints_get O p hp).trans (by rw[hi]))) rfl rfl<|.a 5 rfl<|.v [19,20] (y_ix (q) rfl) rfl rfl<|.v [21] (y_ld rfl ((ints_get O q hq).trans (by rw[hj]))) rfl rfl<|.a 2 rfl<|.k [0,7,8] rfl) ?_
 refine W_seq ?_
 refine W_drs mixed (by kernel_rfl) (.a 5 rfl<|.v [26,27] (y_ix (i) rfl) rfl rfl<|.v [28] (y_ld rfl (ints_get K i (by omega))) rfl rfl<|.a 5 rfl<|.v [33,34] (y_ix (j) rfl) rfl rfl<|.v [35] (y_ld rfl (ints_get K j (by omega))) rfl rfl<|.a 1 rfl<|.k [0,7,8,37] rfl) ?_
 refine W_cond rfl (fun hc=>?_) (fun hc=>?_)
 ·have:=of_decide_eq_true hc
  rw[if_neg this]at hr
  refine W_drs mixed (by kernel_rfl) (.a 5 rfl<|.v [41,42] (y_ix (i) rfl) rfl rfl<|.v [43] (y_ld rfl (ints_get K i (by omega))) rfl rfl<|.a 5 rfl<|.v [48,49] (y_ix (j) rfl) rfl rfl<|.v [50] (y_ld rfl (ints_get K j (by omega))) rfl rfl<|.a 2 rfl<|.k [6] rfl) ?_
  refine W_ret ?_
  exact⟨_,_,ResL.of rfl,Pur.pure,by rw[hr];rfl⟩
 ·have:=of_decide_eq_false hc
  rw[if_pos (by simpa using this)]at hr
  refine W_skip ?_
  refine W_cs (.a 4 rfl<|.k [6] rfl) ?_
  refine W_ret ?_
  exact⟨_,_,ResL.of rfl,Pur.pure,by rw[hr];rfl⟩
set_option maxRecDepth 10000 in
set_option maxHeartbeats 1000000 in
theorem swap_can {N n:Nat} (b:Bool) (d:Option Blk) (K P O:List Int) (hP:Placed N P O) (hO:O.length=n) (hN:N≤65536) (p q:Nat) (hp:p<O.length) (hq:q<O.length):
  CanS Tryz.prog 223 [.ptr 1 0,num p,num q] (hsto b d N n K P O) (fun _ σ'=>σ'=hsto b d N n K (placeL P O p q) (swapL O p q)):=by
 obtain⟨i,hi,hi'⟩:=placed_lt hP hp
 obtain⟨j,hj,hj'⟩:=placed_lt hP hq
 have hlen:=placed_len hP
 have hPl:=hP.len
 have gp:(swapL O p q).getD p 0=j:=by
  rw[swapL_get O p q p hp hq]
  by_cases h:p=q
  ·rw[if_pos h];subst h;omega
  ·rw[if_neg h,if_pos rfl,hj]
 have gq:(swapL O p q).getD q 0=i:=by rw[swapL_get O p q q hp hq,if_pos rfl,hi]
 have hsw:swapL O p q=(O.set p (j:Int)).set q (i:Int):=by unfold swapL;rw[hi,hj]
 rw[hsw]at gp gq
 refine canS_of Tryz.func223 rfl Tryz.ntmps223 rfl ?_
 cases b
 all_goals
  refine W_dfs 25 20 mixed (
   .val [0] rfl (y_a rfl) rfl rfl<|
   .val [6] rfl (y_a rfl) rfl rfl<|
   .val [7] rfl (y_a rfl) rfl rfl<|
   .val [8] rfl (y_a rfl) rfl rfl<|
   .val [1] rfl (y_a rfl) rfl rfl<|
   .val [0] rfl (y_a rfl) rfl rfl<|
   .val [11] rfl (y_a rfl) rfl rfl<|
   .val [12] rfl (y_a rfl) rfl rfl<|
   .val [13] rfl (y_a rfl) rfl rfl<|
   .late [2] rfl (r_move rfl rfl) inferInstance rfl rfl<|
   .val [0] rfl (y_a rfl) rfl rfl<|
   .val [16] rfl (y_a rfl) rfl rfl<|
   .val [17] rfl (y_a rfl) rfl rfl<|
   .val [18] rfl (y_a rfl) rfl rfl<|
   .val [2] rfl (y_a rfl) rfl rfl<|
   .val [19,20] rfl (y_ix (q) rfl) rfl rfl<|
   .val [21] rfl (y_ld rfl ((ints_get O q hq).trans (by rw[hj]))) rfl rfl<|
   .val [0] rfl (y_a rfl) rfl rfl<|
   .val [23] rfl (y_a rfl) rfl rfl<|
   .val [24] rfl (y_a rfl) rfl rfl<|
   .val [25] rfl (y_a rfl) rfl rfl<|
   .val [1] rfl (y_a rfl) rfl rfl<|
   .val [26,27] rfl (y_ix (p) rfl) rfl rfl<|
   .val [28] rfl (y_ld rfl ((ints_get O p hp).trans (by rw[hi]))) rfl rfl<|
   .val [9,10] rfl (y_ix (p) rfl) rfl rfl<|
   .nil) (by kernel_rfl) rfl rfl (keepT_sub (ks:=[0,1,2,14,15,22,29,30]) rfl) ?_
  refine WR_loud0 ((by first|exact l_storeInts rfl (fok.tk.get rfl) rfl rfl rfl (by first|omega|(simp;omega))|exact l_storeBools rfl (fok.tk.get rfl) rfl rfl rfl (by first|omega|(simp;omega)))) rfl rfl<|WR_v (y_ix (q) rfl) rfl<|WR_loud0 ((by first|exact l_storeInts rfl (fok.tk.get rfl) rfl rfl rfl (by first|omega|(simp;omega))|exact l_storeBools rfl (fok.tk.get rfl) rfl rfl rfl (by first|omega|(simp;omega)))) rfl rfl<|WR_k [0,1,2] rfl ?_
  refine W_dfs 14 20 mixed (
   .val [0] rfl (y_a rfl) rfl rfl<|
   .val [32] rfl (y_a rfl) rfl rfl<|
   .val [33] rfl (y_a rfl) rfl rfl<|
   .val [34] rfl (y_a rfl) rfl rfl<|
   .val [0] rfl (y_a rfl) rfl rfl<|
   .val [36] rfl (y_a rfl) rfl rfl<|
   .val [37] rfl (y_a rfl) rfl rfl<|
   .val [38] rfl (y_a rfl) rfl rfl<|
   .val [1] rfl (y_a rfl) rfl rfl<|
   .val [39,40] rfl (y_ix (p) rfl) rfl rfl<|
   .val [41] rfl (y_ld rfl ((ints_get ((O.set p (j:Int)).set q (i:Int)) p (by simpa using hp)).trans (by rw[gp]))) rfl rfl<|
   .val [1] rfl (y_a rfl) rfl rfl<|
   .val [43] rfl (y_ar rfl) rfl rfl<|
   .val [35,42] rfl (y_ix (j) rfl) rfl rfl<|
   .nil) (by kernel_rfl) rfl rfl (keepT_sub (ks:=[0,2,44,45]) rfl) ?_
  refine WR_loud0 ((by first|exact l_storeInts rfl (fok.tk.get rfl) rfl rfl rfl (by first|omega|(simp;omega))|exact l_storeBools rfl (fok.tk.get rfl) rfl rfl rfl (by first|omega|(simp;omega)))) rfl rfl<|WR_k [0,2] rfl ?_
  refine W_drawFlt 14 20 mixed (
   .val [0] rfl (y_a rfl) rfl rfl<|
   .val [46] rfl (y_a rfl) rfl rfl<|
   .val [47] rfl (y_a rfl) rfl rfl<|
   .val [48] rfl (y_a rfl) rfl rfl<|
   .val [0] rfl (y_a rfl) rfl rfl<|
   .val [50] rfl (y_a rfl) rfl rfl<|
   .val [51] rfl (y_a rfl) rfl rfl<|
   .val [52] rfl (y_a rfl) rfl rfl<|
   .val [2] rfl (y_a rfl) rfl rfl<|
   .val [53,54] rfl (y_ix (q) rfl) rfl rfl<|
   .val [55] rfl (y_ld rfl ((ints_get ((O.set p (j:Int)).set q (i:Int)) q (by simpa using hq)).trans (by rw[gq]))) rfl rfl<|
   .val [2] rfl (y_a rfl) rfl rfl<|
   .val [57] rfl (y_ar rfl) rfl rfl<|
   .val [49,56] rfl (y_ix (i) rfl) rfl rfl<|
   .nil) (by kernel_rfl) rfl rfl (keepT_sub (ks:=[58,59]) rfl) ?_
  refine WR_loud0 ((by first|exact l_storeInts rfl (fok.tk.get rfl) rfl rfl rfl (by first|omega|(simp;omega))|exact l_storeBools rfl (fok.tk.get rfl) rfl rfl rfl (by first|omega|(simp;omega)))) rfl rfl<|WR_k [] rfl ?_
  refine⟨_,ResL.of rfl,?_⟩
  unfold placeL
  rw[hi,hj,hsw]
  rfl
theorem tdiv2 (p:Nat) (h:0<p):((p:Int) - 1).tdiv 2=((par p:Nat):Int):=by
 rw[Int.tdiv_eq_ediv_of_nonneg (by omega)];unfold par;omega
theorem purArgs {σ:Sto} {K P O:List Int} (h:Pur σ (.ptr 1 0) (hpin K P O)) (p q:Int):PurL σ ([.ptr 1 0,num p,num q]++[]) [hpin K P O,num p,num q]:=PurL.cons h (PurL.cons Pur.pure (PurL.cons Pur.pure PurL.nil))
set_option maxRecDepth 10000 in
set_option maxHeartbeats 1000000 in
theorem settle_can {N n:Nat} (b:Bool) (d:Option Blk) (K P O:List Int) (hP:Placed N P O) (hO:O.length=n) (hK:K.length=N) (hN:N≤65536) (p:Nat) (hp:p<n) (hL:Loose (rk K O) n p):
  CanS Tryz.prog 213 [.ptr 1 0,num p] (hsto b d N n K P O) (fun _ σ'=>∃P' O',σ'=hsto b d N n K P' O'∧Placed N P' O'∧O'.length=n∧Heapy (rk K O') n∧∀i,Held O' i↔Held O i):=by
 have hlen:=placed_len hP
 refine canS_of Tryz.func213 rfl Tryz.ntmps213 rfl ?_
 cases b
 all_goals
  refine W_seq ?_
  refine W_block ?_
  refine W_k [0,1] rfl ?_
  refine W_loop (fun r s=>∃P' O' p',Placed N P' O'∧O'.length=n∧Loose (rk K O') n p'∧p'<n∧(∀i,Held O' i↔Held O i)∧r=p'∧s=⟨[(0,.ptr 1 0),(1,num p')],hsto _ d N n K P' O'⟩) p ⟨P,O,p,hP,hO,hL,hp,fun _=>Iff.rfl,rfl,rfl⟩ ?_
  rintro r s ⟨P',O',p',hP',hO',hL',hp',hH',rfl,rfl⟩
  refine W_seq ?_
  obtain⟨q1,hq1⟩:∃q,decide ((0:Int)<(r:Int))=q:=⟨_,rfl⟩
  obtain⟨q2,hq2⟩:∃q,decide (rk K O' r<rk K O' (par r))=q:=⟨_,rfl⟩
  refine W_csK 15 (.raw (.bool (q1&&q2))) [0,1] rfl ?_ ?_
  ·refine .a 1 rfl<|.v (y_q rfl (hq1)) rfl<|.a 1 rfl<|?_
   cases q1
   ·exact .a 7 rfl<|.k [15,0,1] rfl
   ·exact .a 3 rfl<|.v (y_ar rfl) rfl<|.v (y_quo rfl rfl rfl (by decide) (tdiv2 r (by have:=of_decide_eq_true hq1;omega)) (by unfold In64 par;omega)) rfl<|.v (y_cV rfl (purArgs (pur_heap _ d hK hP'.len hO') _ _) (hq2▸before_can K P' O' hP' hK hN r (par r) (by omega) (by have:=of_decide_eq_true hq1;have:=par_lt (q:=r) (by omega);omega))) rfl<|.a 1 rfl<|.k [15,0,1] rfl
  refine W_cond rfl (fun hc=>?_) (fun hc=>?_)
  ·obtain⟨c1,c2⟩:=Bool.and_eq_true_iff.1 hc
   rw[c1]at hq1
   rw[c2]at hq2
   have hr0:0<r:=by have:=of_decide_eq_true hq1;omega
   have hlt:=of_decide_eq_true hq2
   have hpl:=par_lt hr0
   refine W_skip ?_
   refine W_block ?_
   refine W_rs ?_
   refine WR_a 3 rfl<|WR_v (y_ar rfl) rfl<|WR_v (y_quo rfl rfl rfl (by decide) (tdiv2 r hr0) (by unfold In64;omega)) rfl<|WR_cS rfl rfl (CanS.mono (swap_can _ d K P' O' hP' hO' hN r (par r) (by omega) (by omega)) (fun _ σ' h=>?_))
   subst h
   refine WR_k [0,1] rfl ?_
   refine W_chain (.a 1 rfl<|.v (y_ar rfl) rfl<|.v (y_quo rfl rfl rfl (by decide) (tdiv2 r hr0) (by unfold In64;omega)) rfl<|.a 1 rfl<|.k [0,1] rfl) ?_
   refine⟨par r,hpl,placeL P' O' r (par r),swapL O' r (par r),par r,hP'.swap (by omega) (by omega),by rw[swapL_len];exact hO',?_,by omega,fun i=>(held_swap O' r (par r) (by omega) (by omega) i).trans (hH' i),rfl,rfl⟩
   rw[rk_swap K O' r (par r) (by omega) (by omega)]
   exact loose_up hL' hr0 hp' hlt
  ·have hdn:Downy (rk K O') n r:=loose_down hL' (by
    by_cases h0:r=0
    ·exact .inl h0
    ·refine .inr ?_
     have h1:q1=true:=by rw[←hq1];simp;omega
     rw[h1]at hc
     simp only[Bool.true_and]at hc
     rw[hc]at hq2
     have:=of_decide_eq_false hq2
     omega)
   clear hL' hq1 hq2 hc
   refine W_exit ?_
   refine W_block ?_
   refine W_k [0,1] rfl ?_
   refine W_loop (fun r s=>∃P' O' p',Placed N P' O'∧O'.length=n∧Downy (rk K O') n p'∧p'<n∧(∀i,Held O' i↔Held O i)∧r=n - p'∧s=⟨[(0,.ptr 1 0),(1,num p')],hsto _ d N n K P' O'⟩) (n - r) ⟨P',O',r,hP',hO',hdn,hp',hH',rfl,rfl⟩ ?_
   clear hP' hO' hdn hH' P' O' hp' r
   rintro r s ⟨P',O',p',hP',hO',hdn,hp',hH',rfl,rfl⟩
   refine W_block ?_
   refine W_cs (.a 2 rfl<|.k [0,1,4] rfl) ?_
   refine W_seq ?_
   refine W_cs (.a 1 rfl<|.v (y_ar rfl) rfl<|.v (y_ar rfl) rfl<|.a 1 rfl<|.k [0,1,4,5] rfl) ?_
   refine W_block ?_
   refine W_k [0,1,4,5] rfl ?_
   refine W_loop (fun r s=>∃c l,2*p'+1≤c∧c≤2*p'+3∧r=2*p'+3 - c∧l<n∧(l=p'∨(par l=p'∧0<l∧rk K O' l<rk K O' p'))∧(∀x,2*p'+1≤x→x<c→x<n→rk K O' l≤rk K O' x)∧s=⟨[(0,.ptr 1 0),(1,num p'),(4,num l),(5,num c)],hsto _ d N n K P' O'⟩) 2 ⟨2*p'+1,p',by omega,by omega,by omega,hp',.inl rfl,fun x h1 h2=>by omega,rfl⟩ ?_
   rintro r s ⟨c,l,hc1,hc2,rfl,hl,hl2,hl3,rfl⟩
   refine W_seq ?_
   obtain⟨q1,hq1⟩:∃q,decide ((c:Int)≤2*(p':Int)+2)=q:=⟨_,rfl⟩
   obtain⟨q2,hq2⟩:∃q,decide ((c:Int)<(n:Int))=q:=⟨_,rfl⟩
   refine W_csK 42 (.raw (.bool (q1&&q2))) [0,1,4,5] rfl ?_ ?_
   ·refine .a 2 rfl<|.v (y_ar rfl) rfl<|.v (y_ar rfl) rfl<|.v (y_q rfl (hq1)) rfl<|.a 1 rfl<|?_
    cases q1
    ·exact .a 8 rfl<|.k [42,0,1,4,5] rfl
    ·exact .a 6 rfl<|.v (y_q rfl (hq2)) rfl<|.a 1 rfl<|.k [42,0,1,4,5] rfl
   refine W_cond rfl (fun hc=>?_) (fun hc=>?_)
   ·obtain⟨c1,c2⟩:=Bool.and_eq_true_iff.1 hc
    rw[c1]at hq1
    rw[c2]at hq2
    have hcn:c<n:=by have:=of_decide_eq_true hq2;omega
    have hc4:c≤2*p'+2:=by have:=of_decide_eq_true hq1;omega
    have hpc:par c=p':=by unfold par;omega
    refine W_skip ?_
    refine W_seq ?_
    refine W_block ?_
    refine W_cs (.a 3 rfl<|.v (y_cV rfl (purArgs (pur_heap _ d hK hP'.len hO') _ _) (before_can K P' O' hP' hK hN c l (by omega) (by omega))) rfl<|.k [0,1,4,5,48] rfl) ?_
    refine W_cond rfl (fun hb=>?_) (fun hb=>?_)
    ·have hb':=of_decide_eq_true hb
     refine W_chain (.a 2 rfl<|.k [0,1,4,5] rfl) ?_
     refine W_chain (.a 1 rfl<|.v (y_ar rfl) rfl<|.a 1 rfl<|.k [0,1,4,5] rfl) ?_
     first
      |exact⟨2*p'+3 - (c+1),by omega,c+1,c,by omega,by omega,rfl,hcn,.inr ⟨hpc,by omega,by rcases hl2 with h|h;(rw[h]at hb';exact hb');omega⟩,fun x h1 h2 h3=>by by_cases e:x=c;(rw[e];exact Int.le_refl _);(have:=hl3 x h1 (by omega) h3;omega),rfl⟩
      |exact⟨2*p'+3 - (c+1),by omega,c+1,l,by omega,by omega,rfl,hl,hl2,fun x h1 h2 h3=>by by_cases e:x=c;(rw[e];omega);exact hl3 x h1 (by omega) h3,rfl⟩
    ·have hb':=of_decide_eq_false hb
     refine W_skip ?_
     refine W_chain (.a 1 rfl<|.v (y_ar rfl) rfl<|.a 1 rfl<|.k [0,1,4,5] rfl) ?_
     first
      |exact⟨2*p'+3 - (c+1),by omega,c+1,c,by omega,by omega,rfl,hcn,.inr ⟨hpc,by omega,by rcases hl2 with h|h;(rw[h]at hb';exact hb');omega⟩,fun x h1 h2 h3=>by by_cases e:x=c;(rw[e];exact Int.le_refl _);(have:=hl3 x h1 (by omega) h3;omega),rfl⟩
      |exact⟨2*p'+3 - (c+1),by omega,c+1,l,by omega,by omega,rfl,hl,hl2,fun x h1 h2 h3=>by by_cases e:x=c;(rw[e];omega);exact hl3 x h1 (by omega) h3,rfl⟩
   ·have hmin:∀x,0<x→x<n→par x=p'→rk K O' l≤rk K O' x:=fun x h0 hx hpx=>by
     refine hl3 x (by unfold par at hpx;omega) ?_ hx
     rcases Nat.lt_or_ge x c with h|h
     ·exact h
     ·exfalso
      have hx2:=par_kid h0 hpx
      have h1:q1=true:=by rw[←hq1];simp;omega
      rw[h1]at hc
      simp only[Bool.true_and]at hc
      rw[hc]at hq2
      have:=of_decide_eq_false hq2
      omega
    clear hc hq1 hq2 hl3
    refine W_exit ?_
    refine W_seq ?_
    refine W_cs (.a 3 rfl<|.k [0,1,4,52] rfl) ?_
    refine W_cond rfl (fun hc=>?_) (fun hc=>?_)
    ·have hlp:l=p':=by have:=of_decide_eq_true hc;omega
     refine W_ret ?_
     refine⟨_,ResL.of rfl,P',O',rfl,hP',hO',?_,hH'⟩
     refine downy_heap hdn fun x h0 hx hpx=>?_
     have:=hmin x h0 hx hpx
     rw[hlp]at this
     exact this
    ·have hlp:l≠p':=by have:=of_decide_eq_false hc;omega
     obtain⟨hlp1,hl0,hllt⟩:=hl2.resolve_left hlp
     refine W_skip ?_
     refine W_rs ?_
     refine WR_a 3 rfl<|WR_cS rfl rfl (CanS.mono (swap_can _ d K P' O' hP' hO' hN p' l (by omega) (by omega)) (fun _ σ' h=>?_))
     subst h
     refine WR_k [0,4] rfl ?_
     refine W_chain (.a 2 rfl<|.k [0,1] rfl) ?_
     have hpl:=par_lt hl0
     refine⟨n - l,by omega,placeL P' O' p' l,swapL O' p' l,l,hP'.swap (by omega) (by omega),by rw[swapL_len];exact hO',?_,hl,fun i=>(held_swap O' p' l (by omega) (by omega) i).trans (hH' i),rfl,rfl⟩
     rw[rk_swap K O' p' l (by omega) (by omega)]
     exact downy_step hdn hl0 hl hlp1 hllt hmin
def HOK (N n:Nat) (K P O:List Int):Prop:=Placed N P O∧O.length=n∧K.length=N∧Heapy (rk K O) n
set_option maxRecDepth 10000 in
set_option maxHeartbeats 1000000 in
theorem take_can {N n:Nat} (d:Option Blk) (hd:PureD d) (K P O:List Int) (h:HOK N (n+1) K P O) (hN:N≤65536) (i:Nat) (hi:O.getD 0 0=(i:Int)):
  CanS Tryz.prog 214 [.ptr 1 0,num 0] (hsto false d N (n+1) K P O) (fun _ σ'=>∃P' O',σ'=hsto true d N n (K.set i 0) P' O'∧HOK N n (K.set i 0) P' O'∧∀j,Held O' j↔Held O j∧j≠(i:Int)):=by
 obtain⟨hP,hO,hK,hH⟩:=h
 have hlen:=placed_len hP
 have hiN:i<N:=by have:=(hP.item 0 (by omega)).2.1;rw[hi]at this;omega
 have hPs:=hP.swap (p:=0) (q:=n) (by omega) (by omega)
 have hg:(swapL O 0 n).getD n 0=(i:Int):=by rw[swapL_get O 0 n n (by omega) (by omega),if_pos rfl,hi]
 have hPp:=hPs.pop (m:=n) (by rw[swapL_len];exact hO)
 rw[hg,Int.toNat_natCast]at hPp
 have hheld:∀j,Held ((swapL O 0 n).take n) j↔Held O j∧j≠(i:Int):=fun j=>by
  rw[held_pop hPs (by rw[swapL_len];exact hO) j,hg,held_swap O 0 n (by omega) (by omega)]
 have hOt:((swapL O 0 n).take n).length=n:=by rw[List.length_take,swapL_len];omega
 have hPll:(placeL P O 0 n).length=N:=hPs.len
 have hrk:∀x,x<n→x≠0→rk (K.set i 0) ((swapL O 0 n).take n) x=rk K O x:=fun x hx hx0=>by
  unfold rk
  rw[take_get _ _ _ hx,swapL_get O 0 n x (by omega) (by omega),if_neg (by omega),if_neg hx0]
  unfold rank
  have hne:(O.getD x 0).toNat≠i:=fun e=>by
   have h1:=hP.item x (by omega)
   have:=hP.inj (p:=x) (q:=0) (by omega) (by omega) (by rw[hi];omega)
   omega
  rw[getD_set _ _ _ _ (by omega),if_neg hne]
 have hloose:Loose (rk (K.set i 0) ((swapL O 0 n).take n)) n 0:=heapy_less hH hrk
 refine canS_of Tryz.func214 rfl Tryz.ntmps214 rfl ?_
 refine W_cs (.a 5 rfl<|.v (y_ar rfl (hc:=(show(((n+1:Nat):Int)) - 1=(n:Int) by omega))) rfl<|.a 1 rfl<|.k [0,1,4] rfl) ?_
 refine W_cs (.a 5 rfl<|.v (y_ix (0) rfl) rfl<|.v (y_ld rfl ((ints_get O 0 (by omega)).trans (by rw[hi]))) rfl<|.a 1 rfl<|.k [0,1,4,5] rfl) ?_
 refine W_rs ?_
 refine WR_a 3 rfl<|WR_cS rfl rfl (CanS.mono (swap_can false d K P O hP hO hN 0 n (by omega) (by omega)) (fun _ σ' h=>?_))
 subst h
 refine WR_k [0,1,4,5] rfl ?_
 refine W_rs ?_
 refine WR_a 6 rfl<|WR_l (l_sliceHiOwn rfl (fok.el.get rfl) rfl rfl rfl rfl (by omega)) rfl<|WR_a 3 rfl ?_
 refine WR_ren [0,1,2,3,4,5] (.c 0<|.c 1<|.c 4<|.c 5<|.nil) (.same hd rfl<|.kept rfl (.cells (RenL.c<|RenL.c<|RenL.c<|RenL.nil))<|.kept rfl (.row RenL.pure)<|.kept rfl (.row RenL.pure)<|.gone<|.kept rfl (.rowP rfl (show(intsP (swapL O 0 n)).take (n*1)=intsP ((swapL O 0 n).take n) by rw[Nat.mul_one];unfold intsP;rw[List.map_take]))<|.nil) rfl rfl (WR_nil ?_)
 refine W_dfs 11 20 mixed (
  .val [0] rfl (y_a rfl) rfl rfl<|
  .val [32] rfl (y_a rfl) rfl rfl<|
  .val [33] rfl (y_a rfl) rfl rfl<|
  .val [34] rfl (y_a rfl) rfl rfl<|
  .val [5] rfl (y_a rfl) rfl rfl<|
  .val [0] rfl (y_a rfl) rfl rfl<|
  .val [37] rfl (y_a rfl) rfl rfl<|
  .val [38] rfl (y_a rfl) rfl rfl<|
  .val [39] rfl (y_a rfl) rfl rfl<|
  .late [5] rfl (r_move rfl rfl) inferInstance rfl rfl<|
  .val [35,36] rfl (y_ix (i) rfl) rfl rfl<|
  .nil) (by kernel_rfl) rfl rfl (keepT_sub (ks:=[0,1,4,40,41,42]) rfl) ?_
 refine WR_loud0 ((by first|exact l_storeInts rfl (fok.tk.get rfl) rfl rfl rfl (by first|omega|(simp;omega))|exact l_storeBools rfl (fok.tk.get rfl) rfl rfl rfl (by first|omega|(simp;omega)))) rfl rfl<|WR_v (y_ix (i) rfl) rfl<|WR_loud0 ((by first|exact l_storeInts rfl (fok.tk.get rfl) rfl rfl rfl (by first|omega|(simp;omega))|exact l_storeBools rfl (fok.tk.get rfl) rfl rfl rfl (by first|omega|(simp;omega)))) rfl rfl<|WR_k [0,1,4] rfl ?_
 refine W_cs (.a 3 rfl<|.k [0,1,46] rfl) ?_
 refine W_cond rfl (fun hc=>?_) (fun hc=>?_)
 ·have hn0:0<n:=by have:=of_decide_eq_true hc;omega
  refine W_region ?_
  refine WR_a 2 rfl<|WR_cS rfl rfl (CanS.mono (settle_can true d (K.set i 0) ((placeL P O 0 n).set i 0) ((swapL O 0 n).take n) hPp hOt (by simpa using hK) hN 0 hn0 hloose) (fun _ σ' h=>?_))
  obtain⟨P',O',rfl,h1,h2,h3,h4⟩:=h
  refine WR_k [] rfl ?_
  first
   |exact⟨_,ResL.of rfl,P',O',rfl,⟨h1,h2,by simpa using hK,h3⟩,fun j=>(h4 j).trans (hheld j)⟩
   |exact⟨_,ResL.of rfl,(placeL P O 0 n).set i 0,(swapL O 0 n).take n,rfl,⟨hPp,hOt,by simpa using hK,fun q h0 hq=>by omega⟩,hheld⟩
 ·have hn0:n=0:=by have:=of_decide_eq_false hc;omega
  refine W_skip ?_
  first
   |exact⟨_,ResL.of rfl,P',O',rfl,⟨h1,h2,by simpa using hK,h3⟩,fun j=>(h4 j).trans (hheld j)⟩
   |exact⟨_,ResL.of rfl,(placeL P O 0 n).set i 0,(swapL O 0 n).take n,rfl,⟨hPp,hOt,by simpa using hK,fun q h0 hq=>by omega⟩,hheld⟩
set_option maxRecDepth 10000 in
set_option maxHeartbeats 1000000 in
theorem key_can {N:Nat} (K P O:List Int) (hP:P.length=N) (hK:K.length=N) (hN:N≤65536) (i:Nat) (hi:i<N):
  Can Tryz.prog 200 [hpin K P O,num i] (· = .tuple [num (if P.getD i 0=0 then 0 else K.getD i 0),flag (!decide (P.getD i 0=0))]):=by
 refine can_of Tryz.func200 rfl Tryz.ntmps200 rfl ?_
 refine W_cs (.a 2 rfl<|.k [0,1] rfl) ?_
 refine W_seq ?_
 obtain⟨q1,hq1⟩:∃q,decide ((i:Int)<0)=q:=⟨_,rfl⟩
 obtain⟨q2,hq2⟩:∃q,decide ((K.length:Int)≤(i:Int))=q:=⟨_,rfl⟩
 obtain⟨q3,hq3⟩:∃q,decide (P.getD i 0=0)=q:=⟨_,rfl⟩
 refine W_csK 30 (.raw (.bool (q1||q2||q3))) [0,1] rfl ?_ ?_
 ·refine .a 4 rfl<|.v (y_q rfl (hq1)) rfl<|.a 2 rfl<|?_
  cases q1
  ·refine .a 6 rfl<|.v (y_q rfl (hq2)) rfl<|.a 2 rfl<|?_
   cases q2
   ·exact .a 5 rfl<|.v (y_ix (i) rfl) rfl<|.v (y_ld rfl (ints_get P i (by omega))) rfl<|.v (y_q rfl (hq3)) rfl<|.a 1 rfl<|.k [30,0,1] rfl
   ·exact .a 9 rfl<|.k [30,0,1] rfl
  ·exact .a 18 rfl<|.k [30,0,1] rfl
 refine W_cond rfl (fun hc=>?_) (fun hc=>?_)
 ·have h1:q1=false:=by rw[←hq1];simp
  have h2:q2=false:=by rw[←hq2];simp;omega
  rw[h1,h2]at hc
  simp only[Bool.false_or]at hc
  rw[hc]at hq3
  refine W_cs (.a 2 rfl<|.k [4,5] rfl) ?_
  refine W_ret ?_
  refine⟨_,_,ResL.of rfl,Pur.pure,?_⟩
  rw[hq3]
  first
   |(rw[if_pos (of_decide_eq_true hq3)];rfl)
   |(rw[if_neg (of_decide_eq_false hq3)];rfl)
 ·have hc3:q3=false:=by revert hc;cases q3<;>simp
  rw[hc3]at hq3
  refine W_skip ?_
  refine W_cs (.a 5 rfl<|.v (y_ix (i) rfl) rfl<|.v (y_ld rfl (ints_get K i (by omega))) rfl<|.a 2 rfl<|.k [4,5] rfl) ?_
  refine W_ret ?_
  refine⟨_,_,ResL.of rfl,Pur.pure,?_⟩
  rw[hq3]
  first
   |(rw[if_pos (of_decide_eq_true hq3)];rfl)
   |(rw[if_neg (of_decide_eq_false hq3)];rfl)
set_option maxRecDepth 10000 in
set_option maxHeartbeats 1000000 in
theorem pop_can {N n:Nat} (d:Option Blk) (hd:PureD d) (K P O:List Int) (h:HOK N n K P O) (hN:N≤65536):
  CanS Tryz.prog 199 [.ptr 1 0] (hsto false d N n K P O) (fun r σ'=>(n=0∧r= .tuple [num 0,num 0,flag false]∧σ'=hsto false d N n K P O)∨
   ∃(n' i:Nat) (P' O':List Int),n=n'+1∧i<N∧O.getD 0 0=(i:Int)∧r= .tuple [num i,num (K.getD i 0),flag true]∧σ'=hsto true d N n' (K.set i 0) P' O'∧HOK N n' (K.set i 0) P' O'∧∀j,Held O' j↔Held O j∧j≠(i:Int)):=by
 have h':=h
 obtain⟨hP,hO,hK,hH⟩:=h'
 refine canS_of Tryz.func199 rfl Tryz.ntmps199 rfl ?_
 refine W_cs (.a 3 rfl<|.k [0] rfl) ?_
 refine W_seq ?_
 obtain⟨q1,hq1⟩:∃q,decide ((n:Int)=0)=q:=⟨_,rfl⟩
 refine W_csK 14 (.raw (.bool (q1))) [0] rfl ?_ ?_
 ·exact .a 8 rfl<|.v (y_q rfl (hq1)) rfl<|.a 1 rfl<|.k [14,0] rfl
 refine W_cond rfl (fun hc=>?_) (fun hc=>?_)
 ·have hn0:n=0:=by rw[hc]at hq1;have:=of_decide_eq_true hq1;omega
  refine W_cs (.a 3 rfl<|.k [2,3,4] rfl) ?_
  refine W_ret ?_
  first
   |exact⟨_,ResL.of rfl,.inl ⟨hn0,rfl,rfl⟩⟩
   |exact⟨_,ResL.of rfl,.inr ⟨n',i,P',O',rfl,hiN,hi,rfl,rfl,h1,h2⟩⟩
 ·have hn0:n≠0:=by rw[hc]at hq1;have:=of_decide_eq_false hq1;omega
  obtain⟨n',rfl⟩:∃n',n=n'+1:=⟨n - 1,by omega⟩
  obtain⟨i,hi,hiN⟩:=placed_lt hP (p:=0) (by omega)
  refine W_skip ?_
  refine W_cs (.a 4 rfl<|.v (y_ix (0) rfl) rfl<|.v (y_ld rfl ((ints_get O 0 (by omega)).trans (by rw[hi]))) rfl<|.a 1 rfl<|.k [0,2] rfl) ?_
  refine W_cs (.a 5 rfl<|.v (y_ix (i) rfl) rfl<|.v (y_ld rfl (ints_get K i (by omega))) rfl<|.a 1 rfl<|.k [0,2,3] rfl) ?_
  refine W_rs ?_
  refine WR_a 1 rfl<|WR_cS rfl rfl (CanS.mono (take_can d hd K P O h hN i hi) (fun _ σ' h=>?_))
  obtain⟨P',O',rfl,h1,h2⟩:=h
  refine WR_k [2,3] rfl ?_
  refine W_cs (.a 5 rfl<|.k [2,3,4] rfl) ?_
  refine W_ret ?_
  first
   |exact⟨_,ResL.of rfl,.inl ⟨hn0,rfl,rfl⟩⟩
   |exact⟨_,ResL.of rfl,.inr ⟨n',i,P',O',rfl,hiN,hi,rfl,rfl,h1,h2⟩⟩
theorem place_of {N:Nat} {P O:List Int} (hP:Placed N P O) {i:Nat} (hi:i<N) (h:P.getD i 0≠0):∃p,p<O.length∧O.getD p 0=(i:Int)∧P.getD i 0=(p:Int)+1:=by
 rcases hP.place i hi with h0|⟨p,hp,he⟩
 ·exact absurd h0 h
 ·have:=(hP.item p hp).2.2
  rw[he,Int.toNat_natCast]at this
  exact⟨p,hp,he,this⟩
theorem rk_set {N:Nat} {K P O:List Int} (hP:Placed N P O) (hK:K.length=N) {i:Nat} (hi:i<N) (c:Int) {x:Nat} (hx:x<O.length) (hne:O.getD x 0≠(i:Int)):rk (K.set i c) O x=rk K O x:=by
 unfold rk rank
 have h1:=hP.item x hx
 rw[getD_set _ _ _ _ (by omega),if_neg (by omega)]
set_option maxRecDepth 10000 in
set_option maxHeartbeats 1000000 in
theorem set_can {N n:Nat} (d:Option Blk) (hd:PureD d) (K P O:List Int) (h:HOK N n K P O) (hN:N≤65536) (i:Nat) (hi:i<N) (key:Int):
  CanS Tryz.prog 198 [.ptr 1 0,num i,num key] (hsto false d N n K P O) (fun r σ'=>∃(b:Bool) (n':Nat) (P' O':List Int),σ'=hsto b d N n' (K.set i key) P' O'∧HOK N n' (K.set i key) P' O'∧∀j,Held O' j↔Held O j∨j=(i:Int)):=by
 obtain⟨hP,hO,hK,hH⟩:=h
 have hlen:=placed_len hP
 have hPl:=hP.len
 refine canS_of Tryz.func198 rfl Tryz.ntmps198 rfl ?_
 refine W_cs (.a 1 rfl<|.k [0,1,2] rfl) ?_
 refine W_seq ?_
 refine W_cs (.a 2 rfl<|.k [0,1,2,8] rfl) ?_
 refine W_cond rfl (fun hc=>?_) (fun hc=>?_)
 ·cases hc
 ·refine W_skip ?_
  refine W_seq ?_
  obtain⟨q1,hq1⟩:∃q,decide ((i:Int)<0)=q:=⟨_,rfl⟩
  obtain⟨q2,hq2⟩:∃q,decide ((N:Int)≤(i:Int))=q:=⟨_,rfl⟩
  refine W_csK 19 (.raw (.bool (q1||q2))) [0,1,2] rfl ?_ ?_
  ·refine .a 1 rfl<|.v (y_q rfl (hq1)) rfl<|.a 1 rfl<|?_
   cases q1
   ·exact .a 6 rfl<|.v (y_q rfl (hq2)) rfl<|.a 1 rfl<|.k [19,0,1,2] rfl
   ·exact .a 8 rfl<|.k [19,0,1,2] rfl
  refine W_cond rfl (fun hc=>?_) (fun hc=>?_)
  ·have h1:q1=false:=by rw[←hq1];simp
   have h2:q2=false:=by rw[←hq2];simp;omega
   rw[h1,h2]at hc
   cases hc
  ·refine W_skip ?_
   refine W_rs ?_
   refine WR_a 6 rfl<|WR_v (y_ix (i) rfl) rfl<|WR_loud0 ((by first|exact l_storeInts rfl (fok.tk.get rfl) rfl rfl rfl (by first|omega|(simp;omega))|exact l_storeBools rfl (fok.tk.get rfl) rfl rfl rfl (by first|omega|(simp;omega)))) rfl rfl<|WR_k [0,1] rfl ?_
   refine W_seq ?_
   refine W_cs (.a 5 rfl<|.v (y_ix (i) rfl) rfl<|.v (y_ld rfl (ints_get P i (by omega))) rfl<|.a 1 rfl<|.k [0,1,34] rfl) ?_
   refine W_cond rfl (fun hc=>?_) (fun hc=>?_)
   ·have hp0:P.getD i 0=0:=of_decide_eq_true hc
    have hnh:=(hP.zero hi).1 hp0
    have hPp:=hP.push hi hnh
    have hOl:(O++[(i:Int)]).length=n+1:=by simp[hO]
    rw[hO]at hPp
    have hPi2:(P.set i ((n:Int)+1)).getD i 0=(n:Int)+1:=by rw[getD_set _ _ _ _ (by omega),if_pos rfl]
    have hlt2:i<(P.set i ((n:Int)+1)).length:=by simp;omega
    have hsb:((n:Int)+1) - 1=(n:Int):=by omega
    have hnb:n<N:=by have:=placed_len hPp;simp at this;omega
    have hset:=settle_can true d (K.set i key) (P.set i ((n:Int)+1)) (O++[(i:Int)]) hPp hOl (by simpa using hK) hN n (by omega) (heapy_more hH fun q hq=>by
     have e:(O++[(i:Int)]).getD q 0=O.getD q 0:=by simp[List.getD_eq_getElem?_getD,List.getElem?_append_left (show q<O.length by omega)]
     have:=rk_set hP hK hi key (x:=q) (by omega) (fun e=>hnh ⟨q,by omega,e⟩)
     unfold rk at this ⊢
     rw[e];exact this)
    have hfin:∀j,Held (O++[(i:Int)]) j↔Held O j∨j=(i:Int):=fun j=>(held_push O i j).trans Or.comm
    refine W_rs ?_
    refine WR_a 7 rfl<|WR_l (l_append rfl (fok.rk.get rfl) rfl rfl rfl rfl (by unfold maxLen;omega)) rfl<|WR_a 3 rfl ?_
    refine WR_ren [0,1,2,3,4,5] (.c 0<|.c 1<|.nil) (.same hd rfl<|.kept rfl (.cells (RenL.c<|RenL.c<|RenL.c<|RenL.nil))<|.kept rfl (.row RenL.pure)<|.kept rfl (.row RenL.pure)<|.gone<|.kept rfl (.rowP rfl (intsP_snoc _ _))<|.nil) rfl rfl (WR_nil ?_)
    refine W_drawFlt 11 20 mixed (
     .val [0] rfl (y_a rfl) rfl rfl<|
     .val [45] rfl (y_a rfl) rfl rfl<|
     .val [46] rfl (y_a rfl) rfl rfl<|
     .val [47] rfl (y_a rfl) rfl rfl<|
     .val [1] rfl (y_a rfl) rfl rfl<|
     .val [0] rfl (y_a rfl) rfl rfl<|
     .val [50] rfl (y_a rfl) rfl rfl<|
     .val [51] rfl (y_a rfl) rfl rfl<|
     .val [52] rfl (y_a rfl) rfl rfl<|
     .val [53] rfl (y_a rfl) rfl rfl<|
     .val [48,49] rfl (y_ix (i) rfl) rfl rfl<|
     .nil) (by kernel_rfl) rfl rfl (keepT_sub (ks:=[0,1,54,55]) rfl) ?_
    refine WR_loud0 ((by first|exact l_storeInts rfl (fok.tk.get rfl) rfl rfl rfl (by first|omega|(simp;omega))|exact l_storeBools rfl (fok.tk.get rfl) rfl rfl rfl (by first|omega|(simp;omega)))) rfl rfl<|WR_k [0,1] rfl ?_
    refine W_rs ?_
    refine WR_a 6 rfl<|WR_v (y_ix (i) rfl) rfl<|WR_v (y_ld rfl ((ints_get _ i hlt2).trans (congrArg (fun z=>some (PV.raw (.int .i64 z))) hPi2))) rfl<|WR_v (y_ar rfl (hc:=hsb)) rfl<|WR_cS rfl rfl (CanS.mono hset (fun _ σ' h=>?_))
    obtain⟨P',O',rfl,h1,h2,h3,h4⟩:=h
    refine WR_k [] rfl ?_
    refine W_cs (.a 1 rfl<|.k [6] rfl) ?_
    refine W_ret ?_
    first
     |exact⟨_,ResL.of rfl,true,_,P',O',rfl,⟨h1,h2,by simpa using hK,h3⟩,fun j=>(h4 j).trans (hfin j)⟩
     |exact⟨_,ResL.of rfl,false,_,P',O',rfl,⟨h1,h2,by simpa using hK,h3⟩,fun j=>(h4 j).trans (hfin j)⟩
   ·have hp0:P.getD i 0≠0:=of_decide_eq_false hc
    obtain⟨p,hp,hpi,hPi2⟩:=place_of hP hi hp0
    have hlt2:i<P.length:=by omega
    have hsb:((p:Int)+1) - 1=(p:Int):=by omega
    have hset:=settle_can false d (K.set i key) P O hP hO (by simpa using hK) hN p (by omega) (heapy_loose hH (fun q hq hqp=>rk_set hP hK hi key (x:=q) (by omega) (fun e=>hqp (hP.inj (by omega) hp (by rw[e,hpi])))) (by omega))
    have hfin:∀j,Held O j↔Held O j∨j=(i:Int):=fun j=>⟨.inl,fun h=>h.elim id fun e=>⟨p,hp,by rw[hpi,e]⟩⟩
    refine W_skip ?_
    refine W_rs ?_
    refine WR_a 6 rfl<|WR_v (y_ix (i) rfl) rfl<|WR_v (y_ld rfl ((ints_get _ i hlt2).trans (congrArg (fun z=>some (PV.raw (.int .i64 z))) hPi2))) rfl<|WR_v (y_ar rfl (hc:=hsb)) rfl<|WR_cS rfl rfl (CanS.mono hset (fun _ σ' h=>?_))
    obtain⟨P',O',rfl,h1,h2,h3,h4⟩:=h
    refine WR_k [] rfl ?_
    refine W_cs (.a 1 rfl<|.k [6] rfl) ?_
    refine W_ret ?_
    first
     |exact⟨_,ResL.of rfl,true,_,P',O',rfl,⟨h1,h2,by simpa using hK,h3⟩,fun j=>(h4 j).trans (hfin j)⟩
     |exact⟨_,ResL.of rfl,false,_,P',O',rfl,⟨h1,h2,by simpa using hK,h3⟩,fun j=>(h4 j).trans (hfin j)⟩
end PW
end Go.Proofs.YtnegbdpggideiaaGreatDoor

namespace Go.Proofs.YtnegbdpggideiaaGreatDoor
set_option linter.unusedVariables false
set_option linter.unusedSimpArgs false
namespace PW
open Go.RowKit Reg Mem Net Heap
set_option maxRecDepth 10000 in
set_option maxHeartbeats 1000000 in
theorem new_can (N:Nat) (d:Option Blk) (hd:PureD d) (hN:N≤65536):
  CanS Tryz.prog 197 [num N] [d] (fun r σ'=>r= .tuple [.ptr 1 0,num 0]∧σ'=hsto false d N 0 (List.replicate N 0) (List.replicate N 0) []):=by
 refine canS_of Tryz.func197 rfl Tryz.ntmps197 rfl ?_
 refine W_cs (.a 2 rfl<|.k [0] rfl) ?_
 obtain⟨q1,hq1⟩:∃q,decide ((N:Int)<0)=q:=⟨_,rfl⟩
 obtain⟨q2,hq2⟩:∃q,decide ((65536:Int)<(N:Int))=q:=⟨_,rfl⟩
 refine W_seq ?_
 refine W_csK 9 (.raw (.bool (q1||q2))) [0] rfl ?_ ?_
 ·refine .a 1 rfl<|.v (y_q rfl (hq1)) rfl<|.a 1 rfl<|?_
  cases q1
  ·exact .a 1 rfl<|.v (y_q rfl (hq2)) rfl<|.a 1 rfl<|.k [9,0] rfl
  ·exact .a 3 rfl<|.k [9,0] rfl
 have h1:q1=false:=by rw[←hq1];simp
 have h2:q2=false:=by rw[←hq2];simp;omega
 refine W_cond (b:=q1||q2) rfl (fun hc=>?_) (fun hc=>?_)
 ·rw[h1,h2]at hc
  cases hc
 ·clear hc hq1 hq2 h1 h2
  refine W_skip ?_
  refine W_orders1 mixed ?_
  have hfin:W Tryz.prog 16 1 .ret ⟨[(2,.ptr 1 0),(3,num 0)],hsto false d N 0 (List.replicate N 0) (List.replicate N 0) []⟩ (RetS Tryz.prog Tryz.f197 (fun r σ'=>r= .tuple [.ptr 1 0,num 0]∧σ'=hsto false d N 0 (List.replicate N 0) (List.replicate N 0) [])):=
   W_ret ⟨_,.cons (.tmp rfl) (.cons (.tmp rfl) .nil),rfl,rfl⟩
  refine WA_step 0 [2] (by kernel_rfl) ?_
  refine WAs_cons rfl rfl (WR_val (y_move rfl rfl) rfl rfl rfl (WR_nil ?_)) ?_
  ·refine WA_step 1 [2] (by kernel_rfl) ?_
   refine WAs_cons rfl rfl (WR_loud (l_make rfl (fok.rk.get rfl) rfl rfl rfl rfl ⟨by unfold maxLen;omega,by omega⟩) rfl rfl rfl (WR_nil ?_)) ?_
   ·refine WA_step 2 [] (by kernel_rfl) ?_
    refine WAs_cons rfl rfl (WR_val (y_move rfl rfl) rfl rfl rfl (WR_nil ?_)) WAs_nil
    refine WA_step 3 [] (by kernel_rfl) ?_
    refine WAs_cons rfl rfl (WR_loud (l_make rfl (fok.rk.get rfl) rfl rfl rfl rfl ⟨by unfold maxLen;omega,by omega⟩) rfl rfl rfl (WR_nil ?_)) WAs_nil
    refine WA_step 4 [] (by kernel_rfl) ?_
    refine WAs_cons rfl rfl (WR_val (y_build (xs:=[_,_,_]) rfl (fok.st.get rfl) rfl rfl) rfl rfl rfl (WR_nil ?_)) WAs_nil
    refine WA_step 5 [] (by kernel_rfl) ?_
    refine WAs_cons rfl rfl (WR_loud (l_box rfl rfl rfl) rfl rfl rfl (WR_nil ?_)) WAs_nil
    refine WA_step 6 [] (by kernel_rfl) ?_
    refine WAs_cons rfl rfl (WR_val (y_assign rfl rfl) rfl rfl rfl (WR_nil ?_)) WAs_nil
    refine WA_step 7 [] (by kernel_rfl) ?_
    refine WAs_cons rfl rfl (WR_val (y_assign rfl rfl) rfl rfl rfl (WR_nil ?_)) WAs_nil
    refine WA_nil (by kernel_rfl) ?_
    refine W_adoptCell 3 2 3 1 rfl rfl ?_
    exact W_ren [0,3,1,2,4] (.cons 2 rfl (Ren.ptr (i:=1) rfl)<|.cons 3 rfl Ren.pure<|.nil) (.same hd rfl<|.kept rfl (.cells (RenL.cons (Ren.own (i:=2) rfl)<|RenL.cons (Ren.own (i:=3) rfl)<|RenL.cons (Ren.own (i:=4) rfl) RenL.nil))<|.kept rfl (.rowP rfl (zeros_ints N))<|.kept rfl (.rowP rfl (zeros_ints N))<|.kept rfl (.row RenL.pure)<|.nil) rfl rfl hfin
   refine WAs_cons rfl rfl (WR_val (y_move rfl rfl) rfl rfl rfl (WR_nil ?_)) WAs_nil
   refine WA_step 1 [3] (by kernel_rfl) ?_
   refine WAs_cons rfl rfl (WR_loud (l_make rfl (fok.rk.get rfl) rfl rfl rfl rfl ⟨by unfold maxLen;omega,by omega⟩) rfl rfl rfl (WR_nil ?_)) ?_
   ·refine WA_step 3 [] (by kernel_rfl) ?_
    refine WAs_cons rfl rfl (WR_loud (l_make rfl (fok.rk.get rfl) rfl rfl rfl rfl ⟨by unfold maxLen;omega,by omega⟩) rfl rfl rfl (WR_nil ?_)) WAs_nil
    refine WA_step 4 [] (by kernel_rfl) ?_
    refine WAs_cons rfl rfl (WR_val (y_build (xs:=[_,_,_]) rfl (fok.st.get rfl) rfl rfl) rfl rfl rfl (WR_nil ?_)) WAs_nil
    refine WA_step 5 [] (by kernel_rfl) ?_
    refine WAs_cons rfl rfl (WR_loud (l_box rfl rfl rfl) rfl rfl rfl (WR_nil ?_)) WAs_nil
    refine WA_step 6 [] (by kernel_rfl) ?_
    refine WAs_cons rfl rfl (WR_val (y_assign rfl rfl) rfl rfl rfl (WR_nil ?_)) WAs_nil
    refine WA_step 7 [] (by kernel_rfl) ?_
    refine WAs_cons rfl rfl (WR_val (y_assign rfl rfl) rfl rfl rfl (WR_nil ?_)) WAs_nil
    refine WA_nil (by kernel_rfl) ?_
    refine W_adoptCell 3 2 3 1 rfl rfl ?_
    exact W_ren [0,3,1,2,4] (.cons 2 rfl (Ren.ptr (i:=1) rfl)<|.cons 3 rfl Ren.pure<|.nil) (.same hd rfl<|.kept rfl (.cells (RenL.cons (Ren.own (i:=2) rfl)<|RenL.cons (Ren.own (i:=3) rfl)<|RenL.cons (Ren.own (i:=4) rfl) RenL.nil))<|.kept rfl (.rowP rfl (zeros_ints N))<|.kept rfl (.rowP rfl (zeros_ints N))<|.kept rfl (.row RenL.pure)<|.nil) rfl rfl hfin
   refine WAs_cons rfl rfl (WR_loud (l_make rfl (fok.rk.get rfl) rfl rfl rfl rfl ⟨by unfold maxLen;omega,by omega⟩) rfl rfl rfl (WR_nil ?_)) WAs_nil
   refine WA_step 1 [] (by kernel_rfl) ?_
   refine WAs_cons rfl rfl (WR_loud (l_make rfl (fok.rk.get rfl) rfl rfl rfl rfl ⟨by unfold maxLen;omega,by omega⟩) rfl rfl rfl (WR_nil ?_)) WAs_nil
   refine WA_step 4 [] (by kernel_rfl) ?_
   refine WAs_cons rfl rfl (WR_val (y_build (xs:=[_,_,_]) rfl (fok.st.get rfl) rfl rfl) rfl rfl rfl (WR_nil ?_)) WAs_nil
   refine WA_step 5 [] (by kernel_rfl) ?_
   refine WAs_cons rfl rfl (WR_loud (l_box rfl rfl rfl) rfl rfl rfl (WR_nil ?_)) WAs_nil
   refine WA_step 6 [] (by kernel_rfl) ?_
   refine WAs_cons rfl rfl (WR_val (y_assign rfl rfl) rfl rfl rfl (WR_nil ?_)) WAs_nil
   refine WA_step 7 [] (by kernel_rfl) ?_
   refine WAs_cons rfl rfl (WR_val (y_assign rfl rfl) rfl rfl rfl (WR_nil ?_)) WAs_nil
   refine WA_nil (by kernel_rfl) ?_
   refine W_adoptCell 3 2 3 1 rfl rfl ?_
   exact W_ren [0,3,2,1,4] (.cons 2 rfl (Ren.ptr (i:=1) rfl)<|.cons 3 rfl Ren.pure<|.nil) (.same hd rfl<|.kept rfl (.cells (RenL.cons (Ren.own (i:=2) rfl)<|RenL.cons (Ren.own (i:=3) rfl)<|RenL.cons (Ren.own (i:=4) rfl) RenL.nil))<|.kept rfl (.rowP rfl (zeros_ints N))<|.kept rfl (.rowP rfl (zeros_ints N))<|.kept rfl (.row RenL.pure)<|.nil) rfl rfl hfin
  refine WAs_cons rfl rfl (WR_val (y_move rfl rfl) rfl rfl rfl (WR_nil ?_)) WAs_nil
  refine WA_step 0 [3] (by kernel_rfl) ?_
  refine WAs_cons rfl rfl (WR_val (y_move rfl rfl) rfl rfl rfl (WR_nil ?_)) ?_
  ·refine WA_step 1 [3] (by kernel_rfl) ?_
   refine WAs_cons rfl rfl (WR_loud (l_make rfl (fok.rk.get rfl) rfl rfl rfl rfl ⟨by unfold maxLen;omega,by omega⟩) rfl rfl rfl (WR_nil ?_)) ?_
   ·refine WA_step 3 [] (by kernel_rfl) ?_
    refine WAs_cons rfl rfl (WR_loud (l_make rfl (fok.rk.get rfl) rfl rfl rfl rfl ⟨by unfold maxLen;omega,by omega⟩) rfl rfl rfl (WR_nil ?_)) WAs_nil
    refine WA_step 4 [] (by kernel_rfl) ?_
    refine WAs_cons rfl rfl (WR_val (y_build (xs:=[_,_,_]) rfl (fok.st.get rfl) rfl rfl) rfl rfl rfl (WR_nil ?_)) WAs_nil
    refine WA_step 5 [] (by kernel_rfl) ?_
    refine WAs_cons rfl rfl (WR_loud (l_box rfl rfl rfl) rfl rfl rfl (WR_nil ?_)) WAs_nil
    refine WA_step 6 [] (by kernel_rfl) ?_
    refine WAs_cons rfl rfl (WR_val (y_assign rfl rfl) rfl rfl rfl (WR_nil ?_)) WAs_nil
    refine WA_step 7 [] (by kernel_rfl) ?_
    refine WAs_cons rfl rfl (WR_val (y_assign rfl rfl) rfl rfl rfl (WR_nil ?_)) WAs_nil
    refine WA_nil (by kernel_rfl) ?_
    refine W_adoptCell 3 2 3 1 rfl rfl ?_
    exact W_ren [0,3,1,2,4] (.cons 2 rfl (Ren.ptr (i:=1) rfl)<|.cons 3 rfl Ren.pure<|.nil) (.same hd rfl<|.kept rfl (.cells (RenL.cons (Ren.own (i:=2) rfl)<|RenL.cons (Ren.own (i:=3) rfl)<|RenL.cons (Ren.own (i:=4) rfl) RenL.nil))<|.kept rfl (.rowP rfl (zeros_ints N))<|.kept rfl (.rowP rfl (zeros_ints N))<|.kept rfl (.row RenL.pure)<|.nil) rfl rfl hfin
   refine WAs_cons rfl rfl (WR_loud (l_make rfl (fok.rk.get rfl) rfl rfl rfl rfl ⟨by unfold maxLen;omega,by omega⟩) rfl rfl rfl (WR_nil ?_)) WAs_nil
   refine WA_step 1 [] (by kernel_rfl) ?_
   refine WAs_cons rfl rfl (WR_loud (l_make rfl (fok.rk.get rfl) rfl rfl rfl rfl ⟨by unfold maxLen;omega,by omega⟩) rfl rfl rfl (WR_nil ?_)) WAs_nil
   refine WA_step 4 [] (by kernel_rfl) ?_
   refine WAs_cons rfl rfl (WR_val (y_build (xs:=[_,_,_]) rfl (fok.st.get rfl) rfl rfl) rfl rfl rfl (WR_nil ?_)) WAs_nil
   refine WA_step 5 [] (by kernel_rfl) ?_
   refine WAs_cons rfl rfl (WR_loud (l_box rfl rfl rfl) rfl rfl rfl (WR_nil ?_)) WAs_nil
   refine WA_step 6 [] (by kernel_rfl) ?_
   refine WAs_cons rfl rfl (WR_val (y_assign rfl rfl) rfl rfl rfl (WR_nil ?_)) WAs_nil
   refine WA_step 7 [] (by kernel_rfl) ?_
   refine WAs_cons rfl rfl (WR_val (y_assign rfl rfl) rfl rfl rfl (WR_nil ?_)) WAs_nil
   refine WA_nil (by kernel_rfl) ?_
   refine W_adoptCell 3 2 3 1 rfl rfl ?_
   exact W_ren [0,3,2,1,4] (.cons 2 rfl (Ren.ptr (i:=1) rfl)<|.cons 3 rfl Ren.pure<|.nil) (.same hd rfl<|.kept rfl (.cells (RenL.cons (Ren.own (i:=2) rfl)<|RenL.cons (Ren.own (i:=3) rfl)<|RenL.cons (Ren.own (i:=4) rfl) RenL.nil))<|.kept rfl (.rowP rfl (zeros_ints N))<|.kept rfl (.rowP rfl (zeros_ints N))<|.kept rfl (.row RenL.pure)<|.nil) rfl rfl hfin
  refine WAs_cons rfl rfl (WR_loud (l_make rfl (fok.rk.get rfl) rfl rfl rfl rfl ⟨by unfold maxLen;omega,by omega⟩) rfl rfl rfl (WR_nil ?_)) WAs_nil
  refine WA_step 0 [] (by kernel_rfl) ?_
  refine WAs_cons rfl rfl (WR_val (y_move rfl rfl) rfl rfl rfl (WR_nil ?_)) WAs_nil
  refine WA_step 1 [] (by kernel_rfl) ?_
  refine WAs_cons rfl rfl (WR_loud (l_make rfl (fok.rk.get rfl) rfl rfl rfl rfl ⟨by unfold maxLen;omega,by omega⟩) rfl rfl rfl (WR_nil ?_)) WAs_nil
  refine WA_step 4 [] (by kernel_rfl) ?_
  refine WAs_cons rfl rfl (WR_val (y_build (xs:=[_,_,_]) rfl (fok.st.get rfl) rfl rfl) rfl rfl rfl (WR_nil ?_)) WAs_nil
  refine WA_step 5 [] (by kernel_rfl) ?_
  refine WAs_cons rfl rfl (WR_loud (l_box rfl rfl rfl) rfl rfl rfl (WR_nil ?_)) WAs_nil
  refine WA_step 6 [] (by kernel_rfl) ?_
  refine WAs_cons rfl rfl (WR_val (y_assign rfl rfl) rfl rfl rfl (WR_nil ?_)) WAs_nil
  refine WA_step 7 [] (by kernel_rfl) ?_
  refine WAs_cons rfl rfl (WR_val (y_assign rfl rfl) rfl rfl rfl (WR_nil ?_)) WAs_nil
  refine WA_nil (by kernel_rfl) ?_
  refine W_adoptCell 3 2 3 1 rfl rfl ?_
  exact W_ren [0,3,2,1,4] (.cons 2 rfl (Ren.ptr (i:=1) rfl)<|.cons 3 rfl Ren.pure<|.nil) (.same hd rfl<|.kept rfl (.cells (RenL.cons (Ren.own (i:=2) rfl)<|RenL.cons (Ren.own (i:=3) rfl)<|RenL.cons (Ren.own (i:=4) rfl) RenL.nil))<|.kept rfl (.rowP rfl (zeros_ints N))<|.kept rfl (.rowP rfl (zeros_ints N))<|.kept rfl (.row RenL.pure)<|.nil) rfl rfl hfin
end PW
end Go.Proofs.YtnegbdpggideiaaGreatDoor

namespace Go.Proofs.YtnegbdpggideiaaGreatDoor
set_option linter.unusedVariables false
set_option linter.unusedSimpArgs false
namespace Net
def arcX (T:Topo) (dir:Bool) (a:Nat):Int:=if dir then headN T a else tailN T a
def arcY (T:Topo) (dir:Bool) (a:Nat):Int:=if dir then tailN T a else headN T a
def at' (l:List Int) (x:Int):Int:=l.getD x.toNat (-1)
def Way (T:Topo) (D:List Bool) (n:Nat) (dir:Bool) (out:List Int) (a:Nat):Prop:=
 downN D a=false∧0≤at' out (arcY T dir a)∧(arcY T dir a=(n:Int)∨overN T (arcY T dir a).toNat=false)
structure IsDist (T:Topo) (D:List Bool) (n:Nat) (dir:Bool) (out:List Int):Prop where
 len:(out.length:Int)=T.nodes
 root:at' out (n:Int)=0
 ge:∀x:Nat,(x:Int)<T.nodes→ -1≤at' out (x:Int)
 closed:∀a,a<2*T.links.length→Way T D n dir out a→0≤at' out (arcX T dir a)∧at' out (arcX T dir a)≤at' out (arcY T dir a)+costN T a
 supp:∀x:Nat,(x:Int)<T.nodes→0≤at' out (x:Int)→x=n∨∃a,a<2*T.links.length∧arcX T dir a=(x:Int)∧Way T D n dir out a∧at' out (x:Int)=at' out (arcY T dir a)+costN T a
structure Sound (T:Topo):Prop where
 cost:∀a,a<2*T.links.length→1≤costN T a∧costN T a≤65535
 tail:∀a,a<2*T.links.length→0≤tailN T a∧tailN T a<T.nodes
 head:∀a,a<2*T.links.length→0≤headN T a∧headN T a<T.nodes
 nodes:1≤T.nodes∧T.nodes≤64
theorem Sound.x {T:Topo} (h:Sound T) (dir:Bool) (a:Nat) (ha:a<2*T.links.length):0≤arcX T dir a∧arcX T dir a<T.nodes:=by
 unfold arcX;cases dir
 ·exact h.tail a ha
 ·exact h.head a ha
theorem Sound.y {T:Topo} (h:Sound T) (dir:Bool) (a:Nat) (ha:a<2*T.links.length):0≤arcY T dir a∧arcY T dir a<T.nodes:=by
 unfold arcY;cases dir
 ·exact h.head a ha
 ·exact h.tail a ha
theorem dist_le {T:Topo} (hT:Sound T) {D:List Bool} {n:Nat} {dir:Bool} {out out':List Int} (h:IsDist T D n dir out) (h':IsDist T D n dir out'):
  ∀(k:Nat) (x:Nat),(x:Int)<T.nodes→at' out (x:Int)=(k:Int)→0≤at' out' (x:Int)∧at' out' (x:Int)≤at' out (x:Int):=by
 intro k
 induction k using Nat.strongRecOn with
 |_ k ih=>
  intro x hx hk
  rcases h.supp x hx (by omega)with rfl|⟨a,ha,hax,⟨w1,w2,w3⟩,he⟩
  ·rw[h'.root];omega
  ·have hc:=hT.cost a ha
   obtain⟨y,hy⟩:=Int.eq_ofNat_of_zero_le (hT.y dir a ha).1
   have hyn:=(hT.y dir a ha).2
   rw[hy]at w2 w3 he hyn
   obtain⟨j,hj⟩:=Int.eq_ofNat_of_zero_le w2
   have hlt:j<k:=by omega
   have h1:=ih j hlt y hyn hj
   have h2:=h'.closed a ha ⟨w1,by rw[hy];exact h1.1,by rw[hy];exact w3⟩
   rw[hax,hy]at h2
   exact⟨h2.1,by omega⟩
theorem at_eq (out:List Int) (x:Nat) (hx:x<out.length):at' out (x:Int)=out[x]:=by
 simp[at',hx]
theorem dist_unique {T:Topo} (hT:Sound T) {D:List Bool} {n:Nat} {dir:Bool} {out out':List Int} (h:IsDist T D n dir out) (h':IsDist T D n dir out'):out=out':=by
 have hl:out.length=out'.length:=by have:=h.len;have:=h'.len;omega
 refine List.ext_getElem hl fun x h1 h2=>?_
 have hx:(x:Int)<T.nodes:=by have:=h.len;omega
 rw[←at_eq out x h1,←at_eq out' x h2]
 have g1:=h.ge x hx
 have g2:=h'.ge x hx
 by_cases c1:0≤at' out (x:Int)
 ·obtain⟨k,hk⟩:=Int.eq_ofNat_of_zero_le c1
  have a1:=dist_le hT h h' k x hx hk
  obtain⟨k',hk'⟩:=Int.eq_ofNat_of_zero_le a1.1
  have a2:=dist_le hT h' h k' x hx hk'
  omega
 ·by_cases c2:0≤at' out' (x:Int)
  ·obtain⟨k,hk⟩:=Int.eq_ofNat_of_zero_le c2
   have a1:=dist_le hT h' h k x hx hk
   omega
  ·omega
open Classical in
noncomputable def distL (T:Topo) (D:List Bool) (n:Nat) (dir:Bool):List Int:=if h:∃out,IsDist T D n dir out then h.choose else []
theorem distL_eq {T:Topo} (hT:Sound T) {D:List Bool} {n:Nat} {dir:Bool} {out:List Int} (h:IsDist T D n dir out):distL T D n dir=out:=by
 unfold distL
 rw[dif_pos ⟨out,h⟩]
 exact dist_unique hT (Exists.choose_spec (⟨out,h⟩:∃out,IsDist T D n dir out)) h
end Net
end Go.Proofs.YtnegbdpggideiaaGreatDoor
